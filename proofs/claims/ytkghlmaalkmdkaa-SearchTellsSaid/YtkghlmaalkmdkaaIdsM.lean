/-
  The numbers of the seat's map types.
-/
import Derived.Test.YtkghlmaalkmdkaaIds
import Derived.Test.YtkghlmaalkmdkaaA2
namespace Go.Proofs.Ytkghlmaalkmdkaa
open Go Go.Den
theorem keyInt : KeyOk Try.prog 3 (fun n : Int => .int .i64 n) := keyOk_int (by kernel_rfl)
theorem keyArr2 : KeyOk Try.prog 110 (fun p : Int × Int => .agg #[.int .i64 p.1, .int .i64 p.2]) := keyOk_two (e := 3) (by kernel_rfl) (by kernel_rfl) (by kernel_rfl)
abbrev tmIntInt : TypeId := 101
theorem und_mIntInt : Try.prog.underlying 101 = some (.map 3 3) := by kernel_rfl
theorem size_mIntInt : (Try.prog.info? 101).map (·.size) = some 1 := by kernel_rfl
abbrev tmIntBool : TypeId := 134
theorem und_mIntBool : Try.prog.underlying 134 = some (.map 3 4) := by kernel_rfl
theorem size_mIntBool : (Try.prog.info? 134).map (·.size) = some 1 := by kernel_rfl
theorem zero_int : (Try.prog.info? 3).map (·.zero) = some (some ((Knd.c (.int .i64)).enc (0 : Int))) := by kernel_rfl
theorem zero_bool : (Try.prog.info? 4).map (·.zero) = some (some ((Knd.c .bool).enc false)) := by kernel_rfl
end Go.Proofs.Ytkghlmaalkmdkaa
