/-
  The operations of CheckThree's last region, as they stand in the code.
-/
import Derived.Test.YtllhelkaligbdaaMix
namespace Go.Proofs.Ytllhelkaligbdaa
open Go Go.Den
namespace Tri
def sigs : List Sig := [
  ⟨some 41, .move (.tmp 5), none, 22, []⟩,
  ⟨some 42, .buildSlice 25 1 #[(0, .tmp 41)], none, 25, [0]⟩,
  ⟨some 43, .call { callee := .value (.func 9), args := #[.tmp 42], argTypes := #[25] }, none, 27, [1]⟩,
  ⟨some 44, .move (.tmp 0), none, 22, []⟩,
  ⟨some 45, .buildSlice 25 1 #[(0, .tmp 44)], none, 25, [3]⟩,
  ⟨some 46, .call { callee := .value (.func 9), args := #[.tmp 45], argTypes := #[25] }, none, 27, [4, 2]⟩,
  ⟨some 47, .binOp .eql 27 (.tmp 43) (.tmp 46) 27, none, 4, [2, 5]⟩,
  ⟨some 48, .move (.tmp 5), none, 22, []⟩,
  ⟨some 49, .convert 22 9 (.tmp 48), none, 9, [7]⟩,
  ⟨some 50, .move (.tmp 0), none, 22, []⟩,
  ⟨some 51, .convert 22 9 (.tmp 50), none, 9, [9]⟩,
  ⟨some 52, .binOp .eql 9 (.tmp 49) (.tmp 51) 9, none, 4, [8, 10]⟩,
  ⟨some 53, .binOp .eql 4 (.tmp 47) (.tmp 52) 4, none, 4, [6, 11]⟩,
  ⟨some 54, .move (.tmp 53), none, 4, [12, 5]⟩,
  ⟨some 55, .call { callee := .value (.func 7), args := #[], argTypes := #[] }, some (13, true), 4, [13, 13]⟩,
  ⟨some 56, .pick (.tmp 54) (.tmp 55) (.const (.bool false)), none, 4, [13, 14]⟩,
  ⟨some 4, .assign (.tmp 56), none, 4, [15, 14, 0, 1, 2, 3, 4, 5, 6, 7, 8, 9, 10, 11, 12, 13, 14, 15]⟩]
theorem sigs_eq : (opsAt (Try.f4.body.getD .skip) [1, 1, 1, 1, 0]).toList.map sigOf = sigs := by kernel_rfl
theorem apart : apartB (opsAt (Try.f4.body.getD .skip) [1, 1, 1, 1, 0]) = true := by kernel_rfl

/-- The string of these bytes. -/
def strB (l : List (BitVec 8)) : ByteArray := strOfNums (l.map fun b => ((b.toNat : Nat) : Int))
theorem strB_ne {l m : List (BitVec 8)} (h : l ≠ m) : ((strB l).toList == (strB m).toList) = false := by
  apply beq_eq_false_iff_ne.2
  intro he
  apply h
  rw [toList_data, toList_data, strB, strB, strOfNums_data, strOfNums_data, List.map_map, List.map_map] at he
  refine (List.map_inj_right (fun x y hxy => ?_)).1 he
  simp only [Function.comp] at hxy
  have h1 : (UInt8.ofNat x.toNat).toNat = (UInt8.ofNat y.toNat).toNat := by simpa using congrArg UInt8.toNat hxy
  apply BitVec.eq_of_toNat_eq
  have := x.isLt
  have := y.isLt
  simp [UInt8.toNat_ofNat] at h1
  omega
theorem conv_str {w : World} {s : Sl} {l : List (BitVec 8)} (h : Rd w s 1 eB l) (hne : l ≠ []) {K : ByteArray → World → Prop} (hK : K (strB l) w) : convD Try.prog (.c .str) 22 9 (sv s) w K := by
  have hpos : 0 < l.length := List.length_pos_iff.2 hne
  obtain ⟨a, ha, hc⟩ := get_one h 0 l[0] (List.getElem?_eq_getElem hpos)
  have hlen := h.len
  rw [show (0 : Nat) * 1 = 0 from rfl, add_zero] at hc
  obtain ⟨blk, off, spot⟩ := a
  have hsp : spot = none := by
    cases spot with
    | none => rfl
    | some x =>
      unfold World.cell? at hc
      split at hc <;> simp at hc
  subst hsp
  refine ⟨strB l, w, ?_, hK⟩
  have := run_convert_bytes_arg (P := Try.prog) w 22 5 elem22.under (by kernel_rfl) blk off s.l s.c (l.map fun b => ((b.toNat : Nat) : Int)) (by simp [hlen]) (fun i hi => by
    have hi' : i < l.length := by omega
    obtain ⟨a', ha', hc'⟩ := get_one h i l[i] (List.getElem?_eq_getElem hi')
    rw [ha] at ha'; cases ha'
    rw [addr_lit, Nat.mul_one] at hc'
    rw [hc']
    simp [List.getD, hi']) 9 (by kernel_rfl)
  show (convert 22 9 (Value.slice s.b s.l s.c)).run Try.prog w = _
  rw [ha]
  exact this
end Tri
end Go.Proofs.Ytllhelkaligbdaa
