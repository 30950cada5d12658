/-
  CheckMixes: what it computes.
-/
import Derived.Test.YtllhelkaligbdaaMixSig
namespace Go.Proofs.Ytllhelkaligbdaa
open Go Go.Den

/-- What is known of an operation's value. -/
inductive PK where
  | is (v : Value)
  | part (s : Sl) (l : List (BitVec 8))
  | made (l : List (BitVec 8))
  | parts (l : List (BitVec 8))
abbrev sv (s : Sl) : Value := .slice s.b s.l s.c
def PK.holds : PK → Value → World → Prop
  | .is u, v, _ => v = u
  | .part s l, v, w => ∃ r : Sl, v = sv r ∧ Rd w r 1 eP [(s, l)] ∧ Rd w s 1 eB l
  | .made l, v, w => ∃ r : Sl, v = sv r ∧ Rd w r 1 eB l
  | .parts l, v, w => ∃ r s : Sl, v = sv r ∧ Rd w r 1 eP [(s, l)] ∧ Rd w s 1 eB l
theorem PK.later {k : PK} {v : Value} {w w' : World} (h : k.holds v w) (hs : Since w w') : k.holds v w' := by
  cases k with
  | is u => exact h
  | part s l => obtain ⟨r, h1, h2, h3⟩ := h; exact ⟨r, h1, h2.later hs (by simp), h3.later hs (by simp)⟩
  | made l => obtain ⟨r, h1, h2⟩ := h; exact ⟨r, h1, h2.later hs (by simp)⟩
  | parts l => obtain ⟨r, s, h1, h2, h3⟩ := h; exact ⟨r, s, h1, h2.later hs (by simp), h3.later hs (by simp)⟩

theorem Since.tr {W w w' : World} (h : Since W w) (h' : Since w w') : Since W w' := Mod.trans h h' fun _ _ h2 => Nat.le_trans h.size h2
theorem built25 (s : Sl) : builtSlice Try.prog 25 1 [(0, sv s)] = some (22, #[sv s]) := by kernel_rfl
theorem size5 : (Try.prog.info? 5).map (·.size) = some 1 := by kernel_rfl
theorem part1_i (w : World) (s : Sl) (l : List (BitVec 8)) : Rd (w.alloc (.cells #[sv s] 22)) ⟨some ⟨w.heap.size, 0, none⟩, 1, 1⟩ 1 eP [(s, l)] := parts_i [(s, l)] rfl

theorem T_Sum_i {r s : Sl} {l : List (BitVec 8)} {w : World} {K : Value → World → Prop} (h1 : Rd w r 1 eP [(s, l)]) (h2 : Rd w s 1 eB l) (hl : l.length ≤ 1000) (hK : K (.int .u32 ((sumOf l).toNat : Int)) w) : T_check_Sum [sv r] w K :=
  decK_intro (ks := [.c .slice]) (t := (r, ())) (check_Sum_i h1 (by simpa using h2) (by simp) (by simp; omega) (by simpa using hK))
theorem T_awake_i {w : World} {K : Value → World → Prop} (hK : ∀ w', Keep w w' → K (.bool true) w') : T_law2_awake [] w K := decK_intro (ks := []) (t := ()) (awake_i hK)

namespace Mix
def pk (c a a' b b' : Sl) (A B C Z : List (BitVec 8)) (n : Int) : Nat → PK
  | 0 => .is (sv c)
  | 1 => .part c C
  | 2 => .is (.int .u32 ((sumOf C).toNat : Int))
  | 3 => .is (sv a)
  | 4 => .is (.int .i64 n)
  | 5 => .is (sv a')
  | 6 => .part a' A
  | 7 => .is (.int .u32 ((sumOf A).toNat : Int))
  | 8 => .is (sv b)
  | 9 => .is (.int .i64 n)
  | 10 => .is (sv b')
  | 11 => .part b' B
  | 12 => .is (.int .u32 ((sumOf B).toNat : Int))
  | 13 => .is (.int .u32 ((sumOf A ^^^ sumOf B).toNat : Int))
  | 14 => .is (.int .i64 n)
  | 15 => .made Z
  | 16 => .parts Z
  | 17 => .is (.int .u32 ((sumOf Z).toNat : Int))
  | 18 => .is (.int .u32 ((sumOf A ^^^ sumOf B ^^^ sumOf Z).toNat : Int))
  | _ => .is (.bool true)

theorem region {c a b : Sl} {xs ys C : List (BitVec 8)} {n : Nat} {w0 : World} {Q : Bool → World → Prop} (ha : Rd w0 a 1 eB xs) (hb : Rd w0 b 1 eB ys) (hc : Rd w0 c 1 eB C) (hna : n ≤ xs.length) (hnb : n ≤ ys.length) (hn : n ≤ 500) (hcl : C.length ≤ 500)
    (hsum : sumOf C = sumOf (xs.take n) ^^^ sumOf (ys.take n) ^^^ sumOf (List.replicate n 0#8)) (hQ : ∀ w', Since w0 w' → Q true w') (J : (Bool × Unit) → World → Prop) (hJ : ∀ t w, Q t.1 w → J t w) :
    OrdP C_law2_CheckMixes (opsAt (Try.f5.body.getD .skip) [1, 1, 1, 1, 1, 0]) [(0, sv a), (1, sv b), (5, .int .i64 (n : Int)), (6, sv c)] (fun cur wo => decL [(4, .c .bool)] cur [] fun t => J t wo) w0 := by
  have hal := ha.len
  have hbl := hb.len
  have hac := ha.cap
  have hbc := hb.cap
  have ha' : Rd w0 ⟨sliceAddr a.b a.c 0 1, n - 0, a.c - 0⟩ 1 eB (xs.take n) := by
    have := ha.part (i := 0) (j := n) (c := a.c) (by omega) (by omega) (by omega) (by omega)
    simpa using this
  have hb' : Rd w0 ⟨sliceAddr b.b b.c 0 1, n - 0, b.c - 0⟩ 1 eB (ys.take n) := by
    have := hb.part (i := 0) (j := n) (c := b.c) (by omega) (by omega) (by omega) (by omega)
    simpa using this
  have hAl : (xs.take n).length ≤ 1000 := by simp; omega
  have hBl : (ys.take n).length ≤ 1000 := by simp; omega
  refine ordS_i sigs_eq apart (fun j => (pk c a ⟨sliceAddr a.b a.c 0 1, n - 0, a.c - 0⟩ b ⟨sliceAddr b.b b.c 0 1, n - 0, b.c - 0⟩ (xs.take n) (ys.take n) C (List.replicate n 0#8) n j).holds) Since (Since w0)
    (fun j v w w' h hs => PK.later h hs) (fun w => Mod.refl _ _) (Mod.refl _ _) ?_ ?_
  · refine ⟨?_, ?_, ?_, ?_, ?_, ?_, ?_, ?_, ?_, ?_, ?_, ?_, ?_, ?_, ?_, ?_, ?_, ?_, ?_, ?_, ?_, ?_, ?_, ?_, trivial⟩ <;> intro cur w hB hD hnew N M hN hM
    · exact op_move (rdT_out (hnew 6 rfl) rfl) (hN _ _ _ (Ext.refl _) hnew rfl (Mod.refl _ _) hB)
    · obtain ⟨v, hv, hs⟩ := hD 0 (by simp)
      cases hv
      exact op_build1 (rdT_cur (hs 41 rfl)) (built25 c) (hN _ _ _ (Ext.refl _) hnew ⟨⟨some ⟨w.heap.size, 0, none⟩, 1, 1⟩, rfl, part1_i w c C, (hc.later hB (by simp)).mod (Keep.alloc w _) (by simp) (fun _ _ => id)⟩ (Keep.alloc w _).mod (hB.keep (Keep.alloc w _)))
    · obtain ⟨v, hv, hs⟩ := hD 1 (by simp)
      obtain ⟨r, rfl, h1, h2⟩ := hv
      exact op_call1 (rdT_cur (hs 42 rfl)) rfl (T_Sum_i h1 h2 (by omega) (hN _ _ _ (Ext.refl _) hnew rfl (Mod.refl _ _) hB))
    · exact op_move (rdT_out (hnew 0 rfl) rfl) (hN _ _ _ (Ext.refl _) hnew rfl (Mod.refl _ _) hB)
    · exact op_move (rdT_out (hnew 5 rfl) rfl) (hN _ _ _ (Ext.refl _) hnew rfl (Mod.refl _ _) hB)
    · obtain ⟨v, hv, hs⟩ := hD 3 (by simp)
      cases hv
      obtain ⟨v, hv, hs2⟩ := hD 4 (by simp)
      cases hv
      exact op_slice_h (rdT_cur (hs 44 rfl)) (rdT_cur (hs2 45 rfl)) elem22.under size5 ⟨by omega, by omega⟩ (hN _ _ _ (Ext.refl _) hnew rfl (Mod.refl _ _) hB)
    · obtain ⟨v, hv, hs⟩ := hD 5 (by simp)
      cases hv
      exact op_build1 (rdT_cur (hs 46 rfl)) (built25 _) (hN _ _ _ (Ext.refl _) hnew ⟨⟨some ⟨w.heap.size, 0, none⟩, 1, 1⟩, rfl, part1_i w _ _, (ha'.later hB (by simp)).mod (Keep.alloc w _) (by simp) (fun _ _ => id)⟩ (Keep.alloc w _).mod (hB.keep (Keep.alloc w _)))
    · obtain ⟨v, hv, hs⟩ := hD 6 (by simp)
      obtain ⟨r, rfl, h1, h2⟩ := hv
      exact op_call1 (rdT_cur (hs 47 rfl)) rfl (T_Sum_i h1 h2 hAl (hN _ _ _ (Ext.refl _) hnew rfl (Mod.refl _ _) hB))
    · exact op_move (rdT_out (hnew 1 rfl) rfl) (hN _ _ _ (Ext.refl _) hnew rfl (Mod.refl _ _) hB)
    · exact op_move (rdT_out (hnew 5 rfl) rfl) (hN _ _ _ (Ext.refl _) hnew rfl (Mod.refl _ _) hB)
    · obtain ⟨v, hv, hs⟩ := hD 8 (by simp)
      cases hv
      obtain ⟨v, hv, hs2⟩ := hD 9 (by simp)
      cases hv
      exact op_slice_h (rdT_cur (hs 49 rfl)) (rdT_cur (hs2 50 rfl)) elem22.under size5 ⟨by omega, by omega⟩ (hN _ _ _ (Ext.refl _) hnew rfl (Mod.refl _ _) hB)
    · obtain ⟨v, hv, hs⟩ := hD 10 (by simp)
      cases hv
      exact op_build1 (rdT_cur (hs 51 rfl)) (built25 _) (hN _ _ _ (Ext.refl _) hnew ⟨⟨some ⟨w.heap.size, 0, none⟩, 1, 1⟩, rfl, part1_i w _ _, (hb'.later hB (by simp)).mod (Keep.alloc w _) (by simp) (fun _ _ => id)⟩ (Keep.alloc w _).mod (hB.keep (Keep.alloc w _)))
    · obtain ⟨v, hv, hs⟩ := hD 11 (by simp)
      obtain ⟨r, rfl, h1, h2⟩ := hv
      exact op_call1 (rdT_cur (hs 52 rfl)) rfl (T_Sum_i h1 h2 hBl (hN _ _ _ (Ext.refl _) hnew rfl (Mod.refl _ _) hB))
    · obtain ⟨v, hv, hs⟩ := hD 7 (by simp)
      cases hv
      obtain ⟨v, hv, hs2⟩ := hD 12 (by simp)
      cases hv
      refine op_bin (rdT_cur (hs 48 rfl)) (rdT_cur (hs2 53 rfl)) ?_
      show N cur (.int .u32 (bitsV .xor .u32 _ _)) w
      rw [bitsV_xor]
      exact hN _ _ _ (Ext.refl _) hnew rfl (Mod.refl _ _) hB
    · exact op_move (rdT_out (hnew 5 rfl) rfl) (hN _ _ _ (Ext.refl _) hnew rfl (Mod.refl _ _) hB)
    · obtain ⟨v, hv, hs⟩ := hD 14 (by simp)
      cases hv
      refine op_make (rdT_cur (hs 55 rfl)) (rdT_cur (hs 55 rfl)) (make_i elem22 (enc := eB) 0#8 rfl (fun _ => rfl) (by omega) (Int.le_refl _) (by omega) (by omega) fun w' hz hk => ?_)
      exact hN _ _ _ (Ext.refl _) hnew ⟨_, rfl, hz.rd fun _ => rfl⟩ hk.mod (hB.keep hk)
    · obtain ⟨v, hv, hs⟩ := hD 15 (by simp)
      obtain ⟨r, rfl, h1⟩ := hv
      exact op_build1 (rdT_cur (hs 56 rfl)) (built25 _) (hN _ _ _ (Ext.refl _) hnew ⟨⟨some ⟨w.heap.size, 0, none⟩, 1, 1⟩, r, rfl, part1_i w _ _, h1.mod (Keep.alloc w _) (by simp) (fun _ _ => id)⟩ (Keep.alloc w _).mod (hB.keep (Keep.alloc w _)))
    · obtain ⟨v, hv, hs⟩ := hD 16 (by simp)
      obtain ⟨r, s, rfl, h1, h2⟩ := hv
      exact op_call1 (rdT_cur (hs 57 rfl)) rfl (T_Sum_i h1 h2 (by simp; omega) (hN _ _ _ (Ext.refl _) hnew rfl (Mod.refl _ _) hB))
    · obtain ⟨v, hv, hs⟩ := hD 13 (by simp)
      cases hv
      obtain ⟨v, hv, hs2⟩ := hD 17 (by simp)
      cases hv
      refine op_bin (rdT_cur (hs 54 rfl)) (rdT_cur (hs2 58 rfl)) ?_
      show N cur (.int .u32 (bitsV .xor .u32 _ _)) w
      rw [bitsV_xor]
      exact hN _ _ _ (Ext.refl _) hnew rfl (Mod.refl _ _) hB
    · obtain ⟨v, hv, hs⟩ := hD 2 (by simp)
      cases hv
      obtain ⟨v, hv, hs2⟩ := hD 18 (by simp)
      cases hv
      refine op_bin (rdT_cur (hs 43 rfl)) (rdT_cur (hs2 59 rfl)) ?_
      show N cur (.bool (((sumOf C).toNat : Int) == ((sumOf (xs.take n) ^^^ sumOf (ys.take n) ^^^ sumOf (List.replicate n 0#8)).toNat : Int))) w
      rw [hsum]
      exact hN _ _ _ (Ext.refl _) hnew (by simp [pk, PK.holds]) (Mod.refl _ _) hB
    · obtain ⟨v, hv, hs⟩ := hD 19 (by simp)
      cases hv
      exact op_move (rdT_cur (hs 60 rfl)) (hN _ _ _ (Ext.refl _) hnew rfl (Mod.refl _ _) hB)
    · obtain ⟨v, hv, hs⟩ := hD 20 (by simp)
      cases hv
      refine guard_yes (s := 61) (by kernel_rfl) (hs 61 rfl) rfl fun cur' hx hx2 => ?_
      exact op_call0 rfl (T_awake_i fun w' hk => hN _ _ _ hx (fun s h => hx2 s (hnew s h)) rfl hk.mod (hB.keep hk))
    · obtain ⟨v, hv, hs⟩ := hD 20 (by simp)
      cases hv
      obtain ⟨v, hv, hs2⟩ := hD 21 (by simp)
      cases hv
      exact op_pick (rdT_cur (hs 61 rfl)) (rdT_cur (hs2 62 rfl)) (hN _ _ _ (Ext.refl _) hnew rfl (Mod.refl _ _) hB)
    · obtain ⟨v, hv, hs⟩ := hD 22 (by simp)
      cases hv
      exact op_assign (rdT_cur (hs 63 rfl)) (hN _ _ _ (Ext.refl _) hnew rfl (Mod.refl _ _) hB)
  · intro cur w hB hD
    obtain ⟨v, hv, hs⟩ := hD 23 (by decide)
    cases hv
    show onV (rdT cur [] 4) _
    rw [rdT_cur (hs 4 rfl)]
    exact hJ _ _ (hQ _ hB)
end Mix

theorem take_snoc_set {α : Type} (l : List α) (k : Nat) (d : α) (h : k < l.length) (m : Nat) : (l.take k ++ List.replicate (m + 1) d).set k l[k] = l.take (k + 1) ++ List.replicate m d := by
  have hk : (l.take k).length = k := by simp; omega
  rw [List.set_append_right _ _ (by omega), hk, Nat.sub_self, List.replicate_succ, List.set_cons_zero, List.take_succ_eq_append_getElem h, List.append_assoc]
  rfl
theorem xor8 (x y : BitVec 8) : bitsV .xor .u8 ((x.toNat : Nat) : Int) ((y.toNat : Nat) : Int) = (((x ^^^ y).toNat : Nat) : Int) := by
  show IntKind.wrap .u8 ((BitVec.ofInt 8 (x.toNat : Int) ^^^ BitVec.ofInt 8 (y.toNat : Int)).toNat : Int) = _
  have hc : BitVec.ofInt 8 (x.toNat : Int) = x := by simp
  have hd : BitVec.ofInt 8 (y.toNat : Int) = y := by simp
  rw [hc, hd, IntKind.wrap_u8]
  have h : (x ^^^ y).toNat < 256 := (x ^^^ y).isLt
  omega
theorem minInt_nat (x y : Nat) : minInt (x : Int) (y : Int) = ((min x y : Nat) : Int) := by
  unfold minInt; split <;> omega

theorem CheckMixes_i {a b : Sl} {W : World} {Q : Bool → World → Prop} {xs ys : List (BitVec 8)} (ha : Rd W a 1 eB xs) (hb : Rd W b 1 eB ys) (hQ : ∀ w', Since W w' → Q true w') : F_law2_CheckMixes a b W Q := by
  unfold F_law2_CheckMixes
  have hal := ha.len
  have hbl := hb.len
  refine cond_d (fun h => awake_i fun w' k => hQ _ k.mod) (fun h1 => ?_)
  refine cond_d (fun h => awake_i fun w' k => hQ _ k.mod) (fun h2 => ?_)
  rw [minInt_nat, hal, hbl]
  generalize hn : min xs.length ys.length = n
  refine make_i elem22 (enc := eB) 0#8 rfl (fun _ => rfl) (by omega) (Int.le_refl _) (by omega) (by omega) fun w3 hz k3 => ?_
  generalize hzl : List.zipWith (· ^^^ ·) xs ys = zs
  have hzn : zs.length = n := by rw [← hzl, List.length_zipWith, hn]
  refine loop_i (fun m t w => ∃ i, i ≤ n ∧ m = n - i ∧ t = ((i : Int), ()) ∧ Since W w ∧ Vec w 5 1 eB ⟨some ⟨W.heap.size, 0, none⟩, (n : Int).toNat, (n : Int).toNat⟩ (zs.take i ++ List.replicate (n - i) 0#8)) n
    ⟨0, Nat.zero_le _, rfl, rfl, k3.mod, by simpa using hz⟩ ?_
  rintro m t w ⟨i, hi, rfl, rfl, hs, hv⟩ X hX
  dsimp only
  refine cond_d (fun h => ?_) (fun h => ?_)
  · have hi' : i < n := by omega
    have hix : i < xs.length := by omega
    have hiy : i < ys.length := by omega
    have ra := ha.later hs (by simp)
    have rb := hb.later hs (by simp)
    refine ⟨⟨by omega, by omega⟩, ?_⟩
    obtain ⟨p, hp, hc⟩ := get_one ra i xs[i] (List.getElem?_eq_getElem hix)
    refine onSome_i hp (ld1_i (k := .int .u8) ((xs[i].toNat : Nat) : Int) hc ?_)
    refine ⟨⟨by omega, by omega⟩, ?_⟩
    obtain ⟨q, hq, hd⟩ := get_one rb i ys[i] (List.getElem?_eq_getElem hiy)
    refine onSome_i hq (ld1_i (k := .int .u8) ((ys[i].toNat : Nat) : Int) hd ?_)
    refine ⟨⟨by omega, by simpa using h⟩, ?_⟩
    refine onSome_i rfl ?_
    rw [xor8, w64 (by omega) (by omega)]
    have hzi : zs[i] = xs[i] ^^^ ys[i] := by subst hzl; simp
    refine (hv.mod (Mod.drew (Mod.refl (fun _ => False) w)) (fun _ _ => id)).store (t := 5) (fun _ => rfl) rfl (i := i) (by simp; omega) (xs[i] ^^^ ys[i]) rfl size5 (by simp [Value.oneCell']) fun w' hv' hm _ => ?_
    refine hX (n - (i + 1)) _ _ (by omega) ⟨i + 1, by omega, rfl, rfl, hs.drew.trans hm (fun j _ hj => by show W.heap.size ≤ j; rw [hj]; exact Nat.le_refl _), ?_⟩
    rw [show n - i = (n - (i + 1)) + 1 by omega, ← hzi, take_snoc_set zs i 0#8 (by omega)] at hv'
    exact hv'
  · have hi' : i = n := by omega
    subst hi'
    intro J hJ
    have hv2 := (hv.rd fun _ => rfl)
    rw [Nat.sub_self, List.replicate_zero, List.append_nil, ← hzn, List.take_length] at hv2
    have hD : Keep w w.drew := Mod.drew (Mod.refl _ w)
    have hsum : sumOf zs = sumOf (xs.take i) ^^^ sumOf (ys.take i) ^^^ sumOf (List.replicate i 0#8) := by
      have := sumOf_xor (xs.take i) (ys.take i) (by simp; omega)
      have e1 : List.zipWith (· ^^^ ·) (xs.take i) (ys.take i) = zs := by rw [← List.take_zipWith, hzl, ← hzn, List.take_length]
      have e2 : (xs.take i).length = i := by simp; omega
      rw [e1, e2] at this
      exact this
    rw [hzn] at hv2
    rw [← hal, ← hbl]
    exact Mix.region (ha.later hs (by simp) |>.mod hD (by simp) (fun _ _ => id)) (hb.later hs (by simp) |>.mod hD (by simp) (fun _ _ => id)) (hv2.mod hD (by simp) (fun _ _ => id)) (by omega) (by omega) (by omega) (by omega) hsum
      (fun w' h => hQ w' (Since.tr (hs.keep hD) h)) J hJ
end Go.Proofs.Ytllhelkaligbdaa
