/-
  The numbers of the seat's map types.
-/
import Derived.Test.YtelbklglflhleaaIds
import Derived.Test.YtelbklglflhleaaMpMap
namespace Go.Proofs.Ytelbklglflhleaa
open Go Go.Den
theorem keyInt : KeyOk Try.prog 3 (fun n : Int => .int .i64 n) := keyOk_int (by kernel_rfl)
theorem keyArr2 : KeyOk Try.prog 54 (fun p : Int × Int => .agg #[.int .i64 p.1, .int .i64 p.2]) := keyOk_two (e := 3) (by kernel_rfl) (by kernel_rfl) (by kernel_rfl)
abbrev tmArr2Int : TypeId := 52
theorem und_mArr2Int : Try.prog.underlying 52 = some (.map 54 3) := by kernel_rfl
theorem zero_int : (Try.prog.info? 3).map (·.zero) = some (some ((Knd.c (.int .i64)).enc (0 : Int))) := by kernel_rfl
theorem zero_bool : (Try.prog.info? 4).map (·.zero) = some (some ((Knd.c .bool).enc false)) := by kernel_rfl
end Go.Proofs.Ytelbklglflhleaa
