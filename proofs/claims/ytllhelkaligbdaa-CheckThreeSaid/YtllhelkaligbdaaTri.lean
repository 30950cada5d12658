/-
  CheckThree: what it computes.
-/
import Derived.Test.YtllhelkaligbdaaTriSig
namespace Go.Proofs.Ytllhelkaligbdaa
open Go Go.Den
namespace Tri
def pk (c b : Sl) (C B : List (BitVec 8)) : Nat → PK
  | 0 => .is (sv c)
  | 1 => .part c C
  | 2 => .is (.int .u32 ((sumOf C).toNat : Int))
  | 3 => .is (sv b)
  | 4 => .part b B
  | 5 => .is (.int .u32 ((sumOf B).toNat : Int))
  | 6 => .is (.bool false)
  | 7 => .is (sv c)
  | 8 => .is (.string (strB C))
  | 9 => .is (sv b)
  | 10 => .is (.string (strB B))
  | 11 => .is (.bool false)
  | _ => .is (.bool true)

theorem region {c b : Sl} {C B : List (BitVec 8)} {w0 : World} {Q : Bool → World → Prop} (hc : Rd w0 c 1 eB C) (hb : Rd w0 b 1 eB B) (hC : C.length ≤ 500) (hB : B.length ≤ 500) (hCn : C ≠ []) (hBn : B ≠ [])
    (hp : parL C ≠ parL B) (hQ : ∀ w', Since w0 w' → Q true w') (J : (Bool × Unit) → World → Prop) (hJ : ∀ t w, Q t.1 w → J t w) :
    OrdP C_law2_CheckThree (opsAt (Try.f4.body.getD .skip) [1, 1, 1, 1, 0]) [(0, sv b), (5, sv c)] (fun cur wo => decL [(4, .c .bool)] cur [] fun t => J t wo) w0 := by
  have hne : C ≠ B := fun h => hp (by rw [h])
  have hsum : (((sumOf C).toNat : Int) == ((sumOf B).toNat : Int)) = false := by
    have := sumOf_parity hp
    have h2 : (sumOf C).toNat ≠ (sumOf B).toNat := fun h => this (BitVec.eq_of_toNat_eq h)
    simpa using fun h : ((sumOf C).toNat : Int) = _ => h2 (by omega)
  refine ordS_i sigs_eq apart (fun j => (pk c b C B j).holds) Since (Since w0)
    (fun j v w w' h hs => PK.later h hs) (fun w => Mod.refl _ _) (Mod.refl _ _) ?_ ?_
  · refine ⟨?_, ?_, ?_, ?_, ?_, ?_, ?_, ?_, ?_, ?_, ?_, ?_, ?_, ?_, ?_, ?_, ?_, trivial⟩ <;> intro cur w hBs hD hnew N M hN hM
    · exact op_move (rdT_out (hnew 5 rfl) rfl) (hN _ _ _ (Ext.refl _) hnew rfl (Mod.refl _ _) hBs)
    · obtain ⟨v, hv, hs⟩ := hD 0 (by simp)
      cases hv
      exact op_build1 (rdT_cur (hs 41 rfl)) (built25 c) (hN _ _ _ (Ext.refl _) hnew ⟨⟨some ⟨w.heap.size, 0, none⟩, 1, 1⟩, rfl, part1_i w c C, (hc.later hBs (by simp)).mod (Keep.alloc w _) (by simp) (fun _ _ => id)⟩ (Keep.alloc w _).mod (hBs.keep (Keep.alloc w _)))
    · obtain ⟨v, hv, hs⟩ := hD 1 (by simp)
      obtain ⟨r, rfl, h1, h2⟩ := hv
      exact op_call1 (rdT_cur (hs 42 rfl)) rfl (T_Sum_i h1 h2 (by omega) (hN _ _ _ (Ext.refl _) hnew rfl (Mod.refl _ _) hBs))
    · exact op_move (rdT_out (hnew 0 rfl) rfl) (hN _ _ _ (Ext.refl _) hnew rfl (Mod.refl _ _) hBs)
    · obtain ⟨v, hv, hs⟩ := hD 3 (by simp)
      cases hv
      exact op_build1 (rdT_cur (hs 44 rfl)) (built25 b) (hN _ _ _ (Ext.refl _) hnew ⟨⟨some ⟨w.heap.size, 0, none⟩, 1, 1⟩, rfl, part1_i w b B, (hb.later hBs (by simp)).mod (Keep.alloc w _) (by simp) (fun _ _ => id)⟩ (Keep.alloc w _).mod (hBs.keep (Keep.alloc w _)))
    · obtain ⟨v, hv, hs⟩ := hD 4 (by simp)
      obtain ⟨r, rfl, h1, h2⟩ := hv
      exact op_call1 (rdT_cur (hs 45 rfl)) rfl (T_Sum_i h1 h2 (by omega) (hN _ _ _ (Ext.refl _) hnew rfl (Mod.refl _ _) hBs))
    · obtain ⟨v, hv, hs⟩ := hD 2 (by simp)
      cases hv
      obtain ⟨v, hv, hs2⟩ := hD 5 (by simp)
      cases hv
      refine op_bin (rdT_cur (hs 43 rfl)) (rdT_cur (hs2 46 rfl)) ?_
      show N cur (.bool (((sumOf C).toNat : Int) == ((sumOf B).toNat : Int))) w
      rw [hsum]
      exact hN _ _ _ (Ext.refl _) hnew rfl (Mod.refl _ _) hBs
    · exact op_move (rdT_out (hnew 5 rfl) rfl) (hN _ _ _ (Ext.refl _) hnew rfl (Mod.refl _ _) hBs)
    · obtain ⟨v, hv, hs⟩ := hD 7 (by simp)
      cases hv
      exact op_conv (.string ⟨#[]⟩) (rdT_cur (hs 48 rfl)) (by kernel_rfl) (by kernel_rfl) (conv_str (K := fun u w' => N cur (.string u) w') (hc.later hBs (by simp)) hCn (hN _ _ _ (Ext.refl _) hnew rfl (Mod.refl _ _) hBs))
    · exact op_move (rdT_out (hnew 0 rfl) rfl) (hN _ _ _ (Ext.refl _) hnew rfl (Mod.refl _ _) hBs)
    · obtain ⟨v, hv, hs⟩ := hD 9 (by simp)
      cases hv
      exact op_conv (.string ⟨#[]⟩) (rdT_cur (hs 50 rfl)) (by kernel_rfl) (by kernel_rfl) (conv_str (K := fun u w' => N cur (.string u) w') (hb.later hBs (by simp)) hBn (hN _ _ _ (Ext.refl _) hnew rfl (Mod.refl _ _) hBs))
    · obtain ⟨v, hv, hs⟩ := hD 8 (by simp)
      cases hv
      obtain ⟨v, hv, hs2⟩ := hD 10 (by simp)
      cases hv
      refine op_bin (rdT_cur (hs 49 rfl)) (rdT_cur (hs2 51 rfl)) ?_
      show N cur (.bool ((strB C).toList == (strB B).toList)) w
      rw [strB_ne hne]
      exact hN _ _ _ (Ext.refl _) hnew rfl (Mod.refl _ _) hBs
    · obtain ⟨v, hv, hs⟩ := hD 6 (by simp)
      cases hv
      obtain ⟨v, hv, hs2⟩ := hD 11 (by simp)
      cases hv
      refine op_bin (rdT_cur (hs 47 rfl)) (rdT_cur (hs2 52 rfl)) ?_
      exact bool_eq_i (P := Try.prog) (t := 4) (by kernel_rfl) (hN _ _ _ (Ext.refl _) hnew rfl (Mod.refl _ _) hBs)
    · obtain ⟨v, hv, hs⟩ := hD 12 (by simp)
      cases hv
      exact op_move (rdT_cur (hs 53 rfl)) (hN _ _ _ (Ext.refl _) hnew rfl (Mod.refl _ _) hBs)
    · obtain ⟨v, hv, hs⟩ := hD 13 (by simp)
      cases hv
      refine guard_yes (s := 54) (by kernel_rfl) (hs 54 rfl) rfl fun cur' hx hx2 => ?_
      exact op_call0 rfl (T_awake_i fun w' hk => hN _ _ _ hx (fun s h => hx2 s (hnew s h)) rfl hk.mod (hBs.keep hk))
    · obtain ⟨v, hv, hs⟩ := hD 13 (by simp)
      cases hv
      obtain ⟨v, hv, hs2⟩ := hD 14 (by simp)
      cases hv
      exact op_pick (rdT_cur (hs 54 rfl)) (rdT_cur (hs2 55 rfl)) (hN _ _ _ (Ext.refl _) hnew rfl (Mod.refl _ _) hBs)
    · obtain ⟨v, hv, hs⟩ := hD 15 (by simp)
      cases hv
      exact op_assign (rdT_cur (hs 56 rfl)) (hN _ _ _ (Ext.refl _) hnew rfl (Mod.refl _ _) hBs)
  · intro cur w hBs hD
    obtain ⟨v, hv, hs⟩ := hD 16 (by decide)
    cases hv
    show onV (rdT cur [] 4) _
    rw [rdT_cur (hs 4 rfl)]
    exact hJ _ _ (hQ _ hBs)
end Tri

theorem parL_set {l : List (BitVec 8)} {e : BitVec 8} (he : par e = true) : ∀ {k : Nat} (h : k < l.length), parL (l.set k (l[k] ^^^ e)) = !parL l := by
  induction l with
  | nil => intro k h; simp at h
  | cons x r ih =>
    intro k h
    cases k with
    | zero => simp only [List.set_cons_zero, List.getElem_cons_zero, parL, List.foldr_cons, par_xor, he]; cases par x <;> cases (List.foldr (fun b p => xor (par b) p) false r) <;> rfl
    | succ k =>
      have := ih (k := k) (by simpa using h)
      simp only [List.set_cons_succ, List.getElem_cons_succ, parL, List.foldr_cons] at this ⊢
      rw [this]
      cases par x <;> cases (List.foldr (fun b p => xor (par b) p) false r) <;> rfl
theorem bit_i (k : Nat) (hk : k < 8) : IntKind.wrap .u8 ((1 : Int) * 2 ^ (min (Int.toNat (k : Int)) (IntKind.bits .u8))) = (((BitVec.ofNat 8 (2 ^ k)).toNat : Nat) : Int) ∧ par (BitVec.ofNat 8 (2 ^ k)) = true := by
  match k, hk with
  | 0, _ => decide
  | 1, _ => decide
  | 2, _ => decide
  | 3, _ => decide
  | 4, _ => decide
  | 5, _ => decide
  | 6, _ => decide
  | 7, _ => decide

theorem CheckThree_i {b : Sl} {x y z : Int} {W : World} {Q : Bool → World → Prop} {ys : List (BitVec 8)} (hb : Rd W b 1 eB ys) (hQ : ∀ w', Since W w' → Q true w') : F_law2_CheckThree b (x, y, z, ()) W Q := by
  unfold F_law2_CheckThree
  simp only [allocD]
  have hbl := hb.len
  have k1 := Keep.alloc W (.cells #[Value.int .i64 x, Value.int .i64 y, Value.int .i64 z] 31)
  have o1 : Own (W.alloc (.cells #[Value.int .i64 x, Value.int .i64 y, Value.int .i64 z] 31)) W.heap.size 31 [Value.int .i64 x, Value.int .i64 y, Value.int .i64 z] := Own.alloc' W _ 31
  have hsz : (W.alloc (.cells #[Value.int .i64 x, Value.int .i64 y, Value.int .i64 z] 31)).heap.size = W.heap.size + 1 := by simp
  generalize W.alloc (.cells #[Value.int .i64 x, Value.int .i64 y, Value.int .i64 z] 31) = w1 at *
  have s1 : Since W w1 := k1.mod
  refine cond_d (fun h => awake_i fun w' k => hQ _ (s1.keep k)) (fun h1 => ?_)
  refine cond_d (fun h => awake_i fun w' k => hQ _ (s1.keep k)) (fun h2 => ?_)
  have k2 := Keep.alloc w1 (.cells #[] 5)
  have v0 : Vec (w1.alloc (.cells #[] 5)) 5 1 eB ⟨some ⟨w1.heap.size, 0, none⟩, 0, 0⟩ [] := Vec.lit w1 5 eB (fun _ => rfl) [] #[] rfl (by simp)
  refine append_i elem22 (fun _ => rfl) (by simp [Value.oneCell']) v0 ((hb.later s1 (by simp)).mod k2 (by simp) (fun _ _ => id)) (by simp; omega) (by simp; omega) fun c w5 hv hm hr hrn => ?_
  have hcb : ∃ g, c.b = some ⟨g, 0, none⟩ ∧ W.heap.size + 1 ≤ g := by
    rcases hv.own with ⟨h, _⟩ | ⟨g, _, hg, _, _⟩
    · exact absurd (hrn h) (by simp)
    · refine ⟨g, hg, ?_⟩
      rcases hr with h | ⟨a, ha, hlt⟩
      · rw [hg] at h; cases h; omega
      · rw [hg] at ha; cases ha
        have := k2.size
        simp only at hlt
        omega
  obtain ⟨g, hg, hgl⟩ := hcb
  have t5 : Mod (fun k => W.heap.size + 1 ≤ k) w1 w5 := k2.mod.trans hm fun k _ ⟨a, ha, hk⟩ => by cases ha; rw [hk]; show W.heap.size + 1 ≤ w1.heap.size; omega
  refine loop_i (fun m t w => ∃ (i : Nat) (L : List (BitVec 8)), i ≤ 3 ∧ m = 3 - i ∧ t = ((i : Int), ()) ∧ Mod (fun k => W.heap.size + 1 ≤ k) w1 w ∧ Vec w 5 1 eB c L ∧ L.length = ys.length ∧ (parL L = (if i % 2 = 0 then parL ys else !parL ys))) 3
    ⟨0, _, by omega, rfl, rfl, t5, hv, by simp, by simp⟩ ?_
  rintro m t w ⟨i, L, hi, rfl, rfl, hs, hv, hL, hpar⟩ X hX
  dsimp only
  have hcl := hv.len
  have sW : Since W w := s1.trans hs fun k _ h => by show W.heap.size ≤ k; omega
  refine cond_d (fun h => ?_) (fun h => ?_)
  · have hi' : i < 3 := by omega
    refine ⟨⟨by omega, by omega⟩, ?_⟩
    have ow := o1.mod hs (by omega)
    obtain ⟨n, hn⟩ : ∃ n : Int, w.cell? ((⟨W.heap.size, 0, none⟩ : Addr).add (Int.toNat (i : Int) * 1)) = some (.int .i64 n) := by
      rw [addr_lit, ow.cell]
      match i, hi' with
      | 0, _ => exact ⟨x, rfl⟩
      | 1, _ => exact ⟨y, rfl⟩
      | 2, _ => exact ⟨z, rfl⟩
    refine ld1_i (k := .int .i64) n hn ?_
    rw [w64 (by omega) (by omega)]
    refine Round_i (by omega) (by omega) fun r hr h0 h1r => ?_
    obtain ⟨q, rfl⟩ : ∃ q : Nat, r = (q : Int) := ⟨r.toNat, by omega⟩
    have ed : Int.tdiv (q : Int) 8 = ((q / 8 : Nat) : Int) := rfl
    have em : Int.tmod (q : Int) 8 = ((q % 8 : Nat) : Int) := rfl
    rw [ed, em, w64 (n := ((q / 8 : Nat) : Int)) (by omega) (by omega)]
    have hq8 : q / 8 < L.length := by omega
    refine ⟨by omega, ⟨by omega, by omega⟩, onSome_i hg ?_⟩
    have hD : Keep w w.drew := Mod.drew (Mod.refl _ w)
    have hv2 := hv.mod hD (fun _ _ => id)
    obtain ⟨a, ha, hc⟩ := get_one (hv2.rd fun _ => rfl) (q / 8) L[q / 8] (List.getElem?_eq_getElem hq8)
    rw [hg] at ha; cases ha
    refine ld1_i (k := .int .u8) ((L[q / 8].toNat : Nat) : Int) hc ?_
    refine ⟨by omega, by omega, ⟨by omega, by omega⟩, onSome_i hg ?_⟩
    obtain ⟨hbit, hpb⟩ := bit_i (q % 8) (Nat.mod_lt _ (by omega))
    rw [hbit, xor8, w64 (n := (i : Int) + 1) (by omega) (by omega)]
    refine hv2.store (t := 5) (fun _ => rfl) hg (i := q / 8) hq8 (L[q / 8] ^^^ BitVec.ofNat 8 (2 ^ (q % 8))) rfl size5 (by simp [Value.oneCell']) fun w' hv' hm' _ => ?_
    refine hX (3 - (i + 1)) _ _ (by omega) ⟨i + 1, _, by omega, rfl, rfl, hs.drew.trans hm' (fun k _ hk => by show W.heap.size + 1 ≤ k; rw [hk]; exact hgl), hv', by rw [List.length_set]; exact hL, ?_⟩
    rw [parL_set hpb hq8, hpar]
    rcases Nat.mod_two_eq_zero_or_one i with h | h
    · rw [if_pos h, if_neg (by omega)]
    · rw [if_neg (by omega), if_pos (by omega), Bool.not_not]
  · have hi' : i = 3 := by omega
    subst hi'
    intro J hJ
    have hD : Keep w w.drew := Mod.drew (Mod.refl _ w)
    have hys : ys ≠ [] := by rintro rfl; simp at hbl; omega
    have hLn : L ≠ [] := by rintro rfl; simp at hL; exact hys (List.eq_nil_of_length_eq_zero hL.symm)
    exact Tri.region ((hv.rd fun _ => rfl).mod hD (by simp) (fun _ _ => id)) ((hb.later sW (by simp)).mod hD (by simp) (fun _ _ => id)) (by omega) (by omega) hLn hys
      (by rw [hpar]; simp) (fun w' h => hQ w' (Since.tr (sW.keep hD) h)) J hJ
end Go.Proofs.Ytllhelkaligbdaa
