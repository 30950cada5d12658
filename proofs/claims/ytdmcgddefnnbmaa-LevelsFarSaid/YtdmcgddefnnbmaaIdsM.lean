/-
  The numbers of the seat's map types.
-/
import Derived.Test.YtdmcgddefnnbmaaIds
import Derived.Test.YtdmcgddefnnbmaaA2
namespace Go.Proofs.Ytdmcgddefnnbmaa
open Go Go.Den
theorem keyInt : KeyOk Try.prog 3 (fun n : Int => .int .i64 n) := keyOk_int (by kernel_rfl)
abbrev tmIntInt : TypeId := 103
theorem und_mIntInt : Try.prog.underlying 103 = some (.map 3 3) := by kernel_rfl
theorem size_mIntInt : (Try.prog.info? 103).map (·.size) = some 1 := by kernel_rfl
abbrev tmIntBool : TypeId := 106
theorem und_mIntBool : Try.prog.underlying 106 = some (.map 3 4) := by kernel_rfl
theorem size_mIntBool : (Try.prog.info? 106).map (·.size) = some 1 := by kernel_rfl
theorem zero_int : (Try.prog.info? 3).map (·.zero) = some (some ((Knd.c (.int .i64)).enc (0 : Int))) := by kernel_rfl
theorem zero_bool : (Try.prog.info? 4).map (·.zero) = some (some ((Knd.c .bool).enc false)) := by kernel_rfl
end Go.Proofs.Ytdmcgddefnnbmaa
