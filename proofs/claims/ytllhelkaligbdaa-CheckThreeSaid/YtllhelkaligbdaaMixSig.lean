/-
  The operations of CheckMixes' last region, as they stand in the code.
-/
import Derived.Test.YtllhelkaligbdaaT
import Derived.Test.YtllhelkaligbdaaMpOrd
namespace Go.Proofs.Ytllhelkaligbdaa
open Go Go.Den
namespace Mix
def sigs : List Sig := [
  ⟨some 41, .move (.tmp 6), none, 22, []⟩,
  ⟨some 42, .buildSlice 25 1 #[(0, .tmp 41)], none, 25, [0]⟩,
  ⟨some 43, .call { callee := .value (.func 9), args := #[.tmp 42], argTypes := #[25] }, none, 27, [1]⟩,
  ⟨some 44, .move (.tmp 0), none, 22, []⟩,
  ⟨some 45, .move (.tmp 5), none, 3, []⟩,
  ⟨some 46, .slice 22 (.tmp 44) none (some (.tmp 45)) none, none, 22, [3, 4]⟩,
  ⟨some 47, .buildSlice 25 1 #[(0, .tmp 46)], none, 25, [5]⟩,
  ⟨some 48, .call { callee := .value (.func 9), args := #[.tmp 47], argTypes := #[25] }, none, 27, [6, 2]⟩,
  ⟨some 49, .move (.tmp 1), none, 22, []⟩,
  ⟨some 50, .move (.tmp 5), none, 3, []⟩,
  ⟨some 51, .slice 22 (.tmp 49) none (some (.tmp 50)) none, none, 22, [8, 9]⟩,
  ⟨some 52, .buildSlice 25 1 #[(0, .tmp 51)], none, 25, [10]⟩,
  ⟨some 53, .call { callee := .value (.func 9), args := #[.tmp 52], argTypes := #[25] }, none, 27, [11, 7]⟩,
  ⟨some 54, .binOp .xor 27 (.tmp 48) (.tmp 53) 27, none, 27, [7, 12]⟩,
  ⟨some 55, .move (.tmp 5), none, 3, []⟩,
  ⟨some 56, .makeSlice 22 (.tmp 55) (.tmp 55), none, 22, [14, 14]⟩,
  ⟨some 57, .buildSlice 25 1 #[(0, .tmp 56)], none, 25, [15]⟩,
  ⟨some 58, .call { callee := .value (.func 9), args := #[.tmp 57], argTypes := #[25] }, none, 27, [16, 12]⟩,
  ⟨some 59, .binOp .xor 27 (.tmp 54) (.tmp 58) 27, none, 27, [13, 17]⟩,
  ⟨some 60, .binOp .eql 27 (.tmp 43) (.tmp 59) 27, none, 4, [2, 18]⟩,
  ⟨some 61, .move (.tmp 60), none, 4, [19, 17]⟩,
  ⟨some 62, .call { callee := .value (.func 7), args := #[], argTypes := #[] }, some (20, true), 4, [20, 20]⟩,
  ⟨some 63, .pick (.tmp 61) (.tmp 62) (.const (.bool false)), none, 4, [20, 21]⟩,
  ⟨some 4, .assign (.tmp 63), none, 4, [22, 21, 0, 1, 2, 3, 4, 5, 6, 7, 8, 9, 10, 11, 12, 13, 14, 15, 16, 17, 18, 19, 20, 21, 22]⟩]
theorem sigs_eq : (opsAt (Try.f5.body.getD .skip) [1, 1, 1, 1, 1, 0]).toList.map sigOf = sigs := by kernel_rfl
theorem apart : apartB (opsAt (Try.f5.body.getD .skip) [1, 1, 1, 1, 1, 0]) = true := by kernel_rfl
end Mix
end Go.Proofs.Ytllhelkaligbdaa
