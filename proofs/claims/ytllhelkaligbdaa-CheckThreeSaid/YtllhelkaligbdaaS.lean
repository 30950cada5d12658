/-
  What the functions of the sum compute.
-/
import Derived.Test.YtllhelkaligbdaaF
import Derived.Test.YtllhelkaligbdaaMpCrc
namespace Go.Proofs.Ytllhelkaligbdaa
open Go Go.Den

abbrev eB : BitVec 8 → List Value := fun b => [.int .u8 (b.toNat : Int)]
abbrev eP : Sl × List (BitVec 8) → List Value := fun p => [.slice p.1.b p.1.l p.1.c]

theorem get_one {α : Type} {w : World} {s : Sl} {enc : α → Value} {xs : List α} (h : Rd w s 1 (fun x => [enc x]) xs) (i : Nat) (x : α) (hx : xs[i]? = some x) : ∃ a, s.b = some a ∧ w.cell? (a.add (i * 1)) = some (enc x) := by
  obtain ⟨a, ha, hh⟩ := h.get i x hx
  exact ⟨a, ha, by have := hh.1; rwa [add_zero] at this⟩

theorem take_succ_get {α : Type} (l : List α) (k : Nat) (h : k < l.length) : l.take (k + 1) = l.take k ++ [l[k]] := by
  rw [List.take_succ_eq_append_getElem h]

theorem poly_int : (2197175160 : Int) = ((poly.toNat : Nat) : Int) := by decide
theorem one_int : (1 : Int) = (((1#32).toNat : Nat) : Int) := by decide

/-- The step of one byte, as both functions write it. -/
theorem byte_xor (c : BitVec 32) (b : BitVec 8) : bitsV .xor .u32 (c.toNat : Int) (IntKind.wrap .u32 ((b.toNat : Nat) : Int)) = (((c ^^^ b.setWidth 32).toNat : Nat) : Int) := by
  have h : IntKind.wrap .u32 ((b.toNat : Nat) : Int) = (((b.setWidth 32).toNat : Nat) : Int) := by
    rw [IntKind.wrap_u32, BitVec.toNat_setWidth]
    have := b.isLt
    omega
  rw [h, bitsV_xor]

theorem not_sum (c : BitVec 32) : bitsV .xor .u32 (if IntKind.signed .u32 then -1 else IntKind.max .u32) (c.toNat : Int) = (((~~~ c).toNat : Nat) : Int) := by
  have h : (if IntKind.signed .u32 then -1 else IntKind.max .u32) = (((BitVec.allOnes 32).toNat : Nat) : Int) := by decide
  rw [h, bitsV_xor]
  rw [BitVec.allOnes_xor]

theorem xorP (c : BitVec 32) : bitsV .xor .u32 (c.toNat : Int) (2197175160 : Int) = (((c ^^^ poly).toNat : Nat) : Int) := by
  rw [poly_int, bitsV_xor]
theorem and1 (c : BitVec 32) : bitsV .and .u32 (c.toNat : Int) (1 : Int) = if c.getLsbD 0 then 1 else 0 := by
  have := bitsV_and c 1#32
  rw [← one_int] at this
  rw [this, and_one]

theorem flatMap_take_succ (ps : List (Sl × List (BitVec 8))) (k : Nat) (h : k < ps.length) : (ps.take (k + 1)).flatMap (·.2) = (ps.take k).flatMap (·.2) ++ ps[k].2 := by
  rw [take_succ_get _ _ h, List.flatMap_append]; simp

theorem check_Sum_i {parts : Sl} {w : World} {ps : List (Sl × List (BitVec 8))} {Q : Int → World → Prop} (hp : Rd w parts 1 eP ps) (hb : ∀ p ∈ ps, Rd w p.1 1 eB p.2)
    (hn : ps.length < 9223372036854775807) (hbl : ∀ p ∈ ps, p.2.length < 9223372036854775807) (hQ : Q ((sumOf (ps.flatMap (·.2))).toNat : Int) w) : F_check_Sum parts w Q := by
  unfold F_check_Sum
  have hlen := hp.len
  refine loop_i (fun n t w' => ∃ k, k ≤ ps.length ∧ n = ps.length - k ∧ t = (((crcOf (BitVec.allOnes 32) ((ps.take k).flatMap (·.2))).toNat : Int), (k : Int), ()) ∧ w' = w) ps.length
    ⟨0, Nat.zero_le _, rfl, by simp [crcOf], rfl⟩ ?_
  rintro n t w' ⟨k, hk, rfl, rfl, rfl⟩ X hX
  dsimp only
  refine cond_d (fun h => ?_) (fun h => ?_)
  · have hk' : k < ps.length := by omega
    refine ⟨⟨by simp, by simpa using h⟩, ?_⟩
    obtain ⟨a, ha, hc⟩ := get_one hp k ps[k] (List.getElem?_eq_getElem hk')
    refine onSome_i ha (ld1_i (k := .slice) ps[k].1 hc ?_)
    have hr := hb ps[k] (List.getElem_mem hk')
    have hlen2 := hr.len
    have hbk := hbl ps[k] (List.getElem_mem hk')
    refine loop_i (fun n t w'' => ∃ j, j ≤ ps[k].2.length ∧ n = ps[k].2.length - j ∧ t = (((crcOf (crcOf (BitVec.allOnes 32) ((ps.take k).flatMap (·.2))) (ps[k].2.take j)).toNat : Int), (j : Int), ()) ∧ w'' = w') ps[k].2.length
      ⟨0, Nat.zero_le _, rfl, by simp [crcOf], rfl⟩ ?_
    rintro n t w'' ⟨j, hj, rfl, rfl, rfl⟩ Y hY
    dsimp only
    refine cond_d (fun h => ?_) (fun h => ?_)
    · have hj' : j < ps[k].2.length := by omega
      refine ⟨⟨by simp, by simpa using h⟩, ?_⟩
      obtain ⟨a2, ha2, hc2⟩ := get_one hr j ps[k].2[j] (List.getElem?_eq_getElem hj')
      refine onSome_i ha2 (ld1_i (k := .int .u8) ((ps[k].2[j].toNat : Nat) : Int) hc2 ?_)
      generalize hc0 : crcOf (crcOf (BitVec.allOnes 32) ((ps.take k).flatMap (·.2))) (ps[k].2.take j) = c0 at hY ⊢
      simp only [byte_xor]
      refine loop_i (fun n t w3 => ∃ i, i ≤ 8 ∧ n = 8 - i ∧ t = (((steps i (c0 ^^^ ps[k].2[j].setWidth 32)).toNat : Int), (i : Int), ()) ∧ w3 = w'') 8
        ⟨0, by omega, rfl, by simp [steps], rfl⟩ ?_
      rintro n t w3 ⟨i, hi, rfl, rfl, rfl⟩ Z hZ
      dsimp only
      refine cond_d (fun h => ?_) (fun h => ?_)
      · have hi' : i < 8 := by omega
        refine ⟨by omega, ?_⟩
        simp only [and1, shift_one, w64 (n := (i : Int) + 1) (by omega) (by omega)]
        have hs := steps_succ' i (c0 ^^^ ps[k].2[j].setWidth 32)
        rw [stepB_cases] at hs
        refine cond_i (fun h => ?_) (fun h => ?_)
        · refine hZ (8 - (i + 1)) _ _ (by omega) ⟨i + 1, by omega, rfl, ?_, rfl⟩
          have hl : (steps i (c0 ^^^ ps[k].2[j].setWidth 32)).getLsbD 0 = true := by
            cases hl : (steps i (c0 ^^^ ps[k].2[j].setWidth 32)).getLsbD 0
            · rw [hl] at h; simp at h
            · rfl
          rw [hs, if_pos hl, xorP]; rfl
        · refine hZ (8 - (i + 1)) _ _ (by omega) ⟨i + 1, by omega, rfl, ?_, rfl⟩
          have hl : ¬ (steps i (c0 ^^^ ps[k].2[j].setWidth 32)).getLsbD 0 = true := by
            intro hl
            rw [if_pos hl] at h; simp at h
          rw [hs, if_neg hl]; rfl
      · have hi' : i = 8 := by omega
        subst hi'
        simp only [w64 (n := (j : Int) + 1) (by omega) (by omega)]
        refine hY (ps[k].2.length - (j + 1)) _ _ (by omega) ⟨j + 1, by omega, rfl, ?_, rfl⟩
        rw [take_succ_get _ _ hj', crcOf_snoc, hc0]; simp [stepBy]
    · have hj' : j = ps[k].2.length := by omega
      subst hj'
      simp only [w64 (n := (k : Int) + 1) (by omega) (by omega)]
      refine hX (ps.length - (k + 1)) _ _ (by omega) ⟨k + 1, by omega, rfl, ?_, rfl⟩
      rw [flatMap_take_succ _ _ hk', crcOf_append, List.take_length]; simp
  · have hk' : k = ps.length := by omega
    subst hk'
    simp only [not_sum, List.take_length]
    exact hQ

theorem ref1_Sum_i {b : Sl} {w : World} {bs : List (BitVec 8)} {Q : Int → World → Prop} (hr : Rd w b 1 eB bs) (hbl : bs.length < 9223372036854775807) (hQ : Q ((sumOf bs).toNat : Int) w) : F_ref1_Sum b w Q := by
  unfold F_ref1_Sum
  have hlen := hr.len
  refine loop_i (fun n t w' => ∃ j, j ≤ bs.length ∧ n = bs.length - j ∧ t = (((crcOf (BitVec.allOnes 32) (bs.take j)).toNat : Int), (j : Int), ()) ∧ w' = w) bs.length
    ⟨0, Nat.zero_le _, rfl, by simp [crcOf], rfl⟩ ?_
  rintro n t w' ⟨j, hj, rfl, rfl, rfl⟩ X hX
  dsimp only
  refine cond_d (fun h => ?_) (fun h => ?_)
  · have hj' : j < bs.length := by omega
    refine ⟨⟨by simp, by simpa using h⟩, ?_⟩
    obtain ⟨a2, ha2, hc2⟩ := get_one hr j bs[j] (List.getElem?_eq_getElem hj')
    refine onSome_i ha2 (ld1_i (k := .int .u8) ((bs[j].toNat : Nat) : Int) hc2 ?_)
    generalize hc0 : crcOf (BitVec.allOnes 32) (bs.take j) = c0 at hX ⊢
    simp only [byte_xor]
    refine loop_i (fun n t w3 => ∃ i, i ≤ 8 ∧ n = 8 - i ∧ t = (((steps i (c0 ^^^ bs[j].setWidth 32)).toNat : Int), (i : Int), ()) ∧ w3 = w') 8
      ⟨0, by omega, rfl, by simp [steps], rfl⟩ ?_
    rintro n t w3 ⟨i, hi, rfl, rfl, rfl⟩ Z hZ
    dsimp only
    refine cond_d (fun h => ?_) (fun h => ?_)
    · have hi' : i < 8 := by omega
      simp only [and1, shift_one, w64 (n := (i : Int) + 1) (by omega) (by omega)]
      have hs := steps_succ' i (c0 ^^^ bs[j].setWidth 32)
      rw [stepB_cases] at hs
      refine cond_i (fun h => ?_) (fun h => ?_)
      · refine ⟨by omega, hZ (8 - (i + 1)) _ _ (by omega) ⟨i + 1, by omega, rfl, ?_, rfl⟩⟩
        have hl : (steps i (c0 ^^^ bs[j].setWidth 32)).getLsbD 0 = true := by
          cases hl : (steps i (c0 ^^^ bs[j].setWidth 32)).getLsbD 0
          · rw [hl] at h; simp at h
          · rfl
        rw [hs, if_pos hl, xorP]; rfl
      · refine ⟨by omega, hZ (8 - (i + 1)) _ _ (by omega) ⟨i + 1, by omega, rfl, ?_, rfl⟩⟩
        have hl : ¬ (steps i (c0 ^^^ bs[j].setWidth 32)).getLsbD 0 = true := by
          intro hl
          rw [if_pos hl] at h; simp at h
        rw [hs, if_neg hl]; rfl
    · have hi' : i = 8 := by omega
      subst hi'
      simp only [w64 (n := (j : Int) + 1) (by omega) (by omega)]
      refine hX (bs.length - (j + 1)) _ _ (by omega) ⟨j + 1, by omega, rfl, ?_, rfl⟩
      rw [take_succ_get _ _ hj', crcOf_snoc, hc0]; simp [stepBy]
  · have hj' : j = bs.length := by omega
    subst hj'
    simp only [not_sum, List.take_length]
    exact hQ

end Go.Proofs.Ytllhelkaligbdaa
