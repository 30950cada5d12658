import Derived.Test.YtjjgcimlmjnaeaaGreatIds
import Derived.Test.YtjjgcimlmjnaeaaGreatA4
namespace Go.Proofs.YtjjgcimlmjnaeaaGreat
open Go Go.Den
theorem keyInt : KeyOk Tryz.prog 3 (fun n : Int => .int .i64 n) := keyOk_int (by kernel_rfl)
theorem und_mIntInt : Tryz.prog.underlying 179 = some (.map 3 3) := by kernel_rfl
theorem size_mIntInt : (Tryz.prog.info? 179).map (·.size) = some 1 := by kernel_rfl
theorem und_mIntBool : Tryz.prog.underlying 207 = some (.map 3 4) := by kernel_rfl
theorem zero_int : (Tryz.prog.info? 3).map (·.zero) = some (some ((Knd.c (.int .i64)).enc (0 : Int))) := by kernel_rfl
theorem zero_bool : (Tryz.prog.info? 4).map (·.zero) = some (some ((Knd.c .bool).enc false)) := by kernel_rfl
end Go.Proofs.YtjjgcimlmjnaeaaGreat
