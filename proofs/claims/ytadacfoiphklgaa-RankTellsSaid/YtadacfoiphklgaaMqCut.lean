/-
  What is cut out of the program's net.
-/
import Derived.Test.YtadacfoiphklgaaMqNet3
namespace Go.Proofs.Ytadacfoiphklgaa
open Go Go.Den

section
variable {N : NetS} {n : Nat} {X : Nat → List Arc} {v : Int} {w : World}
theorem has_at {Q : Bool → World → Prop} (h : NetAt w N n X) (hn : n ≤ 512) (hQ : ∀ r : Bool, (r = true ↔ 0 ≤ v ∧ v < n) → Q r w) : F_net_Net_has (some ⟨N.g, 0, none⟩) v w Q := by
  unfold F_net_Net_has
  refine cond_d (fun h1 => ?_) (fun h1 => hQ _ (by simp; omega))
  unfold F_net_Net_Len
  refine cond_i (fun h => by simp at h) (fun _ => ?_)
  exact onSome_i rfl (ld1_i (k := .slice) ⟨some ⟨N.go, 0, none⟩, n, n⟩ h.c0 (hQ _ (by simp; omega)))
theorem In_at {Q : Sl → World → Prop} (h : NetAt w N n X) (hn : n ≤ 512) (hX : ∀ j, (X j).length ≤ 512) (hQ : ∀ s' w', Vec w' tArc 4 eArc s' (if 0 ≤ v ∧ v < n then X (n + v.toNat) else []) → Keep w w' → (∀ b, s'.b = some b → w.heap.size ≤ b.block) → Q s' w') :
    F_net_Net_In (some ⟨N.g, 0, none⟩) v w Q := by
  unfold F_net_Net_In
  refine has_at h hn fun r hr => cond_i (fun h1 => ?_) (fun h1 => ?_)
  · have : ¬ (0 ≤ v ∧ v < n) := fun hv => by rw [hr.2 hv] at h1; cases h1
    rw [if_neg this] at hQ
    exact hQ _ w (Vec.nil _ _ _ _) (Mod.refl _ _) (fun b hb => by cases hb)
  · have hv := hr.1 (by cases r <;> simp at h1 ⊢)
    rw [if_pos hv] at hQ
    obtain ⟨u, rfl⟩ : ∃ u : Nat, v = (u : Int) := ⟨v.toNat, by omega⟩
    refine onSome_i rfl (ld1_i (k := .slice) ⟨some ⟨N.gi, 0, none⟩, n, n⟩ h.c1 ?_)
    refine ⟨⟨by omega, by show _ < ((n : Nat) : Int); omega⟩, onSome_i rfl ?_⟩
    obtain ⟨s, hs, hcell⟩ := h.inn (show u < n by omega)
    refine ld1_i (k := .slice) s hcell ?_
    have := hX (n + u)
    exact Clone_i ((h.row (n + u) s hs).rd lenA) (by omega) fun s' w' h1 h2 h3 => hQ s' w' h1 h2 h3
end

theorem mem_filter_not {l R : List Arc} {x : Arc} : x ∈ l.filter (fun y => decide (y ∉ R)) ↔ x ∈ l ∧ x ∉ R := by simp

/-- The rows while arcs are taken from their other ends. -/
def cutX (n : Nat) (l RO RI : List Arc) (j : Nat) : List Arc := if j < n then (outL l (j : Int)).filter (fun y => decide (y ∉ RI)) else (inL l ((j : Int) - n)).filter (fun y => decide (y ∉ RO))
theorem cutX_len {n : Nat} {l RO RI : List Arc} (h : OkL n l) (hn : n ≤ 512) (j : Nat) : (cutX n l RO RI j).length ≤ 512 := by
  unfold cutX
  split
  · have := List.length_filter_le (fun y => decide (y ∉ RI)) (outL l (j : Int)); have := h.out_len (j : Int); omega
  · have := List.length_filter_le (fun y => decide (y ∉ RO)) (inL l ((j : Int) - n)); have := h.in_len ((j : Int) - n); omega

theorem arc_eq {l : List Arc} (h : LSrt l) {x y : Arc} (hx : x ∈ l) (hy : y ∈ l) (hf : x.f = y.f) (ht : x.t = y.t) : x = y := by
  have h1 := findL_eq h hx
  have h2 := findL_eq h hy
  rw [hf, ht, h2] at h1
  exact (Option.some.inj h1).symm

theorem filter_step {key : Arc → Int} {row R : List Arc} {a : Arc} (hs : Srt key row) (h1 : ∀ x ∈ row, x ∉ R → key x = key a → x = a) :
    (row.filter fun y => decide (y ∉ R)).filter (fun y => decide (key y ≠ key a)) = row.filter fun y => decide (y ∉ R ++ [a]) := by
  refine ((hs.filter _).filter _).ext (hs.filter _) fun x => ?_
  simp only [List.mem_filter, decide_eq_true_eq, List.mem_append, List.mem_singleton, not_or]
  constructor
  · rintro ⟨⟨hx, hn⟩, hk⟩
    exact ⟨hx, hn, fun e => hk (by rw [e])⟩
  · rintro ⟨hx, hn, hne⟩
    exact ⟨⟨hx, hn⟩, fun hk => hne (h1 x hx hn hk)⟩

theorem Cut_i {N : NetS} {n : Nat} {l : List Arc} {v : Int} {w : World} {Q : World → Prop} (h : NetIs w N n l)
    (hQ : ∀ w' N', NetIs w' N' n (cutL l v) → N'.g = N.g → Mod N.has w w' → (∀ k, N'.has k → N.has k ∨ w.heap.size ≤ k) → Q w') : F_net_Net_Cut (some ⟨N.g, 0, none⟩) v w Q := by
  unfold F_net_Net_Cut
  have hsz := h.sz
  have hok := h.ok
  refine Out_i h fun s1 w1 hv1 k1 hb1 => ?_
  have h1 := h.keep k1
  have r1 := hv1.rd lenA
  have hX0 : rowsOf n l = cutX n l [] [] := by
    funext j
    unfold rowsOf cutX
    split <;> exact (List.filter_eq_self.2 (by simp)).symm
  have at1 : NetAt w1 N n (cutX n l [] []) := by rw [← hX0]; exact h1.at_
  refine loop_i (fun m t w2 => ∃ (i : Nat) (N2 : NetS), i ≤ (outL l v).length ∧ m = (outL l v).length - i ∧ t = ((i : Int), ()) ∧ NetAt w2 N2 n (cutX n l ((outL l v).take i) []) ∧ N2.g = N.g ∧ Rd w2 s1 4 eArc (outL l v) ∧ Mod N.has w w2 ∧ (∀ k, N2.has k → N.has k ∨ w1.heap.size ≤ k) ∧ w1.heap.size ≤ w2.heap.size) (outL l v).length
    ⟨0, N, Nat.zero_le _, rfl, rfl, by simpa using at1, rfl, r1, k1.wk, fun k hk => .inl hk, Nat.le_refl _⟩ ?_
  rintro m t w2 ⟨i, N2, hi, rfl, rfl, at2, hg2, r2, m2, hf2, z2⟩ X hX
  dsimp only
  have hl1 := hv1.len
  have hlenO := hok.out_len v
  have hrb : ∀ b, s1.b = some b → outL l v ≠ [] → w.heap.size ≤ b.block ∧ b.block < w1.heap.size := fun b hb _ => ⟨hb1 b hb, hv1.lt hb⟩
  refine cond_d (fun hlt => ?_) (fun hge => ?_)
  · have hi' : i < (outL l v).length := by omega
    refine ⟨⟨by omega, by omega⟩, ?_⟩
    obtain ⟨a0, ha0, hh⟩ := rd_tup r2 (List.getElem?_eq_getElem hi')
    generalize hxa : (outL l v)[i] = a at hh
    have hga : (outL l v)[i]? = some a := by rw [← hxa]; exact List.getElem?_eq_getElem hi'
    have hmem : a ∈ outL l v := List.mem_of_getElem? hga
    obtain ⟨hal, haf⟩ := mem_outL.1 hmem
    have hma := hok.may a hal
    refine onSome_i ha0 (ldN_i (tupA a) hh ?_)
    simp only [allocD]
    have k3 := Keep.alloc w2 (.cells #[Value.int .i64 0, Value.int .i64 0, Value.int .i64 0, Value.int .i64 0] 42)
    have o3 : Own (w2.alloc (.cells #[Value.int .i64 0, Value.int .i64 0, Value.int .i64 0, Value.int .i64 0] 42)) w2.heap.size 42 (eArc ⟨0, 0, 0, 0⟩) := Own.alloc' w2 _ 42
    generalize w2.alloc (.cells #[Value.int .i64 0, Value.int .i64 0, Value.int .i64 0, Value.int .i64 0] 42) = w3 at *
    refine zero_store o3 rfl fun w4 o4 m4 => ?_
    have k4 : Keep w2 w4 := Mod.fresh k3 m4 fun k hk => by omega
    generalize hb2 : w2.heap.size = b2 at *
    have hb2N : ¬ N2.has b2 := fun hk => by have := at2.lt hk; omega
    obtain ⟨u, hu⟩ : ∃ u : Nat, a.t = (u : Int) := ⟨a.t.toNat, by have := hma.2.2.1; omega⟩
    have hun : u < n := by have := hma.2.2.2.1; omega
    have d4 : Keep w4 w4.drew := Mod.drew (Mod.refl _ w4)
    have la : ∀ {w' : World}, Own w' b2 42 (eArc a) → w'.cell? ((⟨b2, 0, none⟩ : Addr).add 1) = some (.int .i64 (u : Int)) := fun ho => by
      rw [addr_lit, ho.cell, ← hu]; rfl
    have at4 := (at2.keep k4).keep d4
    have o4' := o4.mod d4 id
    rw [← hg2]
    refine onSome_i rfl (ld1_i (k := .slice) ⟨some ⟨N2.gi, 0, none⟩, n, n⟩ at4.c1 (ld1_i (k := .int .i64) (u : Int) (la o4') ?_))
    refine ⟨⟨by omega, by show _ < ((n : Nat) : Int); omega⟩, onSome_i rfl ?_⟩
    obtain ⟨s3, hs3, hc3⟩ := at4.inn hun
    refine ld1_i (k := .slice) s3 hc3 ?_
    have hrow := at4.row (n + u) s3 hs3
    have hXe : ∀ R, cutX n l R [] (n + u) = (inL l a.t).filter (fun y => decide (y ∉ R)) := fun R => by
      have : ¬ (n + u < n) := by omega
      simp only [cutX, this, if_false, hu]
      congr 2; omega
    rw [hXe] at hrow
    have hsrt : Srt Arc.f ((inL l a.t).filter (fun y => decide (y ∉ (outL l v).take i))) := (hok.srt.inn a.t).filter _
    have hlen := List.length_filter_le (fun y => decide (y ∉ (outL l v).take i)) (inL l a.t)
    have hlen2 := hok.in_len a.t
    have hnot : a ∉ (outL l v).take i := by
      intro hin
      obtain ⟨p, hp⟩ := List.mem_iff_getElem?.1 hin
      have hpi : p < i := by have := (List.getElem?_eq_some_iff.1 hp).1; simp at this; omega
      rw [List.getElem?_take_of_lt hpi] at hp
      have := (hok.srt.out v).get hpi hp hga
      omega
    have hin : a ∈ (inL l a.t).filter (fun y => decide (y ∉ (outL l v).take i)) := by
      rw [mem_filter_not]; exact ⟨mem_inL.2 ⟨hal, rfl⟩, hnot⟩
    refine byFrom_i (hrow.rd lenA) hsrt (by omega) fun j fnd w5 k5 low _ => ?_
    have d5 : Keep w5 w5.drew := Mod.drew (Mod.refl _ w5)
    have k45 := (d4.tr k5).tr d5
    have at5 := (at2.keep k4).keep k45
    have o5 := o4.mod k45 id
    refine onSome_i rfl (ld1_i (k := .slice) ⟨some ⟨N2.gi, 0, none⟩, n, n⟩ at5.c1 (ld1_i (k := .int .i64) (u : Int) (la o5) ?_))
    refine onSome_i rfl (ld1_i (k := .slice) ⟨some ⟨N2.gi, 0, none⟩, n, n⟩ at5.c1 (ld1_i (k := .int .i64) (u : Int) (la o5) ?_))
    refine ⟨⟨by omega, by show _ < ((n : Nat) : Int); omega⟩, onSome_i rfl ?_⟩
    obtain ⟨s6, hs6, hc6⟩ := at5.inn hun
    rw [hs3] at hs6; cases hs6
    refine ld1_i (k := .slice) s3 hc6 ?_
    have hrow5 := at5.row (n + u) s3 hs3
    rw [hXe] at hrow5
    have hj : j < ((inL l a.t).filter (fun y => decide (y ∉ (outL l v).take i))).length := (List.getElem?_eq_some_iff.1 (low.found hsrt hin haf)).1
    rw [w64 (n := (j : Int) + 1) (by omega) (by omega)]
    refine Delete_i hrow5 hj (by omega) fun s7 w6 hv7 m6 hb7 => ?_
    have hne : ∀ k, (∃ b, s3.b = some b ∧ k = b.block) → N2.has k := fun k ⟨b, hb, hk⟩ => .inr (.inr (.inr ⟨n + u, s3, b, hs3, hb, hk.symm⟩))
    have o6 := o5.mod m6 fun hk => hb2N (hne _ hk)
    refine ⟨la o6, ?_, ⟨by omega, by show _ < ((n : Nat) : Int); omega⟩, onSome_i rfl ?_⟩
    · have := at5.head.mod m6 fun ⟨b, hb, hk⟩ => (at5.sep (n + u) s3 b hs3 hb).1 hk.symm
      rw [addr_lit, this.cell]; rfl
    refine at5.putIn hun hs3 hv7 m6 (.inl hb7) fun w7 at7 m7 z7 => ?_
    rw [w64 (n := (i : Int) + 1) (by omega) (by omega)]
    have hfun : (fun j' => if j' = n + u then ((inL l a.t).filter (fun y => decide (y ∉ (outL l v).take i))).take j ++ ((inL l a.t).filter (fun y => decide (y ∉ (outL l v).take i))).drop (j + 1) else cutX n l ((outL l v).take i) [] j') = cutX n l ((outL l v).take (i + 1)) [] := by
      funext j'
      rw [List.take_add_one, hga, Option.toList_some]
      split
      · rename_i he
        subst he
        rw [hXe, low.del hsrt hin haf, ← haf]
        refine filter_step (hok.srt.inn a.t) fun x hx _ hk => ?_
        obtain ⟨hx1, hx2⟩ := mem_inL.1 hx
        exact arc_eq hok.srt hx1 hal hk hx2
      · rename_i he
        unfold cutX
        split
        · rfl
        · refine List.filter_congr fun x hx => ?_
          have : x ≠ a := by
            rintro rfl
            have := (mem_inL.1 hx).2
            omega
          simp [this]
    rw [hfun] at at7
    have m27 : Mod N2.has w2 w7 := (k4.wk.tr k45.wk).tr m7
    refine hX ((outL l v).length - (i + 1)) _ _ (by omega) ⟨i + 1, _, hi', rfl, rfl, at7, hg2, ?_, m2.trans m27 (fun k hk hk2 => ?_), fun k hk => ?_, by have := m27.size; omega⟩
    · refine r2.mod m27 eArc_ne fun b hb hk => ?_
      have hb' := hrb b hb (by intro e; rw [e] at hi'; simp at hi')
      rcases hf2 _ hk with h' | h'
      · have := h.at_.lt h'; omega
      · omega
    · rcases hf2 k hk2 with h' | h'
      · exact h'
      · have := k1.size; omega
    · rcases NetS.has_set (N := N2) (P := fun _ => False) hs3 (fun a _ => .inl hb7) hk with h' | h'
      · exact hf2 k h'
      · exact h'.elim
  · have hi' : i = (outL l v).length := by omega
    subst hi'
    rw [List.take_length] at at2
    generalize hO : outL l v = O at *
    have hmemO : ∀ x, x ∈ O ↔ x ∈ l ∧ x.f = v := fun x => by rw [← hO]; exact mem_outL
    rw [← hg2]
    refine In_at at2 hsz (cutX_len hok hsz) fun s8 w8 hv8 k8 hfr8 => ?_
    have hI : (if 0 ≤ v ∧ v < n then cutX n l O [] (n + v.toNat) else []) = inL l v := by
      split
      · rename_i hv
        have : ¬ (n + v.toNat < n) := by omega
        simp only [cutX, this, if_false]
        rw [show ((n + v.toNat : Nat) : Int) - (n : Int) = v by omega]
        refine List.filter_eq_self.2 fun x hx => ?_
        obtain ⟨hx1, hx2⟩ := mem_inL.1 hx
        have hmx := (hok.may x hx1).2.2.2.2.1
        simp only [decide_eq_true_eq, hmemO]
        rintro ⟨_, hf⟩
        omega
      · rename_i hv
        symm
        refine List.filter_eq_nil_iff.2 fun x hx hxv => ?_
        have e : x.t = v := by simpa using hxv
        have := hok.may x hx
        exact hv ⟨by rw [← e]; exact this.2.2.1, by rw [← e]; exact this.2.2.2.1⟩
    rw [hI] at hv8
    have at8 := at2.keep k8
    have r8 := hv8.rd lenA
    have m8 : Mod N.has w w8 := m2.trans k8 fun _ _ h => h.elim
    have z8 : w1.heap.size ≤ w8.heap.size := Nat.le_trans z2 k8.size
    have hl8 := hv8.len
    have hlenI := hok.in_len v
    refine loop_i (fun m t w9 => ∃ (i : Nat) (N3 : NetS), i ≤ (inL l v).length ∧ m = (inL l v).length - i ∧ t = ((i : Int), ()) ∧ NetAt w9 N3 n (cutX n l O ((inL l v).take i)) ∧ N3.g = N.g ∧ Rd w9 s8 4 eArc (inL l v) ∧ Mod N.has w w9 ∧ (∀ k, N3.has k → N.has k ∨ w1.heap.size ≤ k) ∧ w8.heap.size ≤ w9.heap.size ∧ (∀ k, N3.has k → N2.has k)) (inL l v).length
      ⟨0, N2, Nat.zero_le _, rfl, rfl, by simpa using at8, hg2, r8, m8, hf2, Nat.le_refl _, fun k hk => hk⟩ ?_
    rintro m t w9 ⟨i, N3, hi, rfl, rfl, at9, hg3, r9, m9, hf3, z9, hn3⟩ Y hY
    dsimp only
    refine cond_d (fun hlt => ?_) (fun hge => ?_)
    · have hi' : i < (inL l v).length := by omega
      refine ⟨⟨by omega, by omega⟩, ?_⟩
      obtain ⟨a0, ha0, hh⟩ := rd_tup r9 (List.getElem?_eq_getElem hi')
      generalize hxa : (inL l v)[i] = a at hh
      have hga : (inL l v)[i]? = some a := by rw [← hxa]; exact List.getElem?_eq_getElem hi'
      have hmem : a ∈ inL l v := List.mem_of_getElem? hga
      obtain ⟨hal, hat⟩ := mem_inL.1 hmem
      have hma := hok.may a hal
      refine onSome_i ha0 (ldN_i (tupA a) hh ?_)
      simp only [allocD]
      have k3 := Keep.alloc w9 (.cells #[Value.int .i64 0, Value.int .i64 0, Value.int .i64 0, Value.int .i64 0] 42)
      have o3 : Own (w9.alloc (.cells #[Value.int .i64 0, Value.int .i64 0, Value.int .i64 0, Value.int .i64 0] 42)) w9.heap.size 42 (eArc ⟨0, 0, 0, 0⟩) := Own.alloc' w9 _ 42
      generalize w9.alloc (.cells #[Value.int .i64 0, Value.int .i64 0, Value.int .i64 0, Value.int .i64 0] 42) = w3 at *
      refine zero_store o3 rfl fun w4 o4 m4 => ?_
      have k4 : Keep w9 w4 := Mod.fresh k3 m4 fun k hk => by omega
      generalize hb2 : w9.heap.size = b2 at *
      have hb2N : ¬ N3.has b2 := fun hk => by have := at9.lt hk; omega
      obtain ⟨u, hu⟩ : ∃ u : Nat, a.f = (u : Int) := ⟨a.f.toNat, by have := hma.1; omega⟩
      have hun : u < n := by have := hma.2.1; omega
      have d4 : Keep w4 w4.drew := Mod.drew (Mod.refl _ w4)
      have la : ∀ {w' : World}, Own w' b2 42 (eArc a) → w'.cell? ((⟨b2, 0, none⟩ : Addr).add 0) = some (.int .i64 (u : Int)) := fun ho => by
        rw [addr_lit, ho.cell, ← hu]; rfl
      have at4 := (at9.keep k4).keep d4
      have o4' := o4.mod d4 id
      rw [hg2, ← hg3]
      refine onSome_i rfl (ld1_i (k := .slice) ⟨some ⟨N3.go, 0, none⟩, n, n⟩ at4.c0 (ld1_i (k := .int .i64) (u : Int) (la o4') ?_))
      refine ⟨⟨by omega, by show _ < ((n : Nat) : Int); omega⟩, onSome_i rfl ?_⟩
      obtain ⟨s3, hs3, hc3⟩ := at4.out hun
      refine ld1_i (k := .slice) s3 hc3 ?_
      have hrow := at4.row u s3 hs3
      have hXe : ∀ R, cutX n l O R u = (outL l a.f).filter (fun y => decide (y ∉ R)) := fun R => by
        simp only [cutX, hun, if_true, hu]
      rw [hXe] at hrow
      have hsrt : Srt Arc.t ((outL l a.f).filter (fun y => decide (y ∉ (inL l v).take i))) := (hok.srt.out a.f).filter _
      have hlen := List.length_filter_le (fun y => decide (y ∉ (inL l v).take i)) (outL l a.f)
      have hlen2 := hok.out_len a.f
      have hnot : a ∉ (inL l v).take i := by
        intro hin
        obtain ⟨p, hp⟩ := List.mem_iff_getElem?.1 hin
        have hpi : p < i := by have := (List.getElem?_eq_some_iff.1 hp).1; simp at this; omega
        rw [List.getElem?_take_of_lt hpi] at hp
        have := (hok.srt.inn v).get hpi hp hga
        omega
      have hin : a ∈ (outL l a.f).filter (fun y => decide (y ∉ (inL l v).take i)) := by
        rw [mem_filter_not]; exact ⟨mem_outL.2 ⟨hal, rfl⟩, hnot⟩
      refine byTo_i (hrow.rd lenA) hsrt (by omega) fun j fnd w5 k5 low _ => ?_
      have d5 : Keep w5 w5.drew := Mod.drew (Mod.refl _ w5)
      have k45 := (d4.tr k5).tr d5
      have at5 := (at9.keep k4).keep k45
      have o5 := o4.mod k45 id
      refine onSome_i rfl (ld1_i (k := .slice) ⟨some ⟨N3.go, 0, none⟩, n, n⟩ at5.c0 (ld1_i (k := .int .i64) (u : Int) (la o5) ?_))
      refine onSome_i rfl (ld1_i (k := .slice) ⟨some ⟨N3.go, 0, none⟩, n, n⟩ at5.c0 (ld1_i (k := .int .i64) (u : Int) (la o5) ?_))
      refine ⟨⟨by omega, by show _ < ((n : Nat) : Int); omega⟩, onSome_i rfl ?_⟩
      obtain ⟨s6, hs6, hc6⟩ := at5.out hun
      rw [hs3] at hs6; cases hs6
      refine ld1_i (k := .slice) s3 hc6 ?_
      have hrow5 := at5.row u s3 hs3
      rw [hXe] at hrow5
      have hj : j < ((outL l a.f).filter (fun y => decide (y ∉ (inL l v).take i))).length := (List.getElem?_eq_some_iff.1 (low.found hsrt hin hat)).1
      rw [w64 (n := (j : Int) + 1) (by omega) (by omega)]
      refine Delete_i hrow5 hj (by omega) fun s7 w6 hv7 m6 hb7 => ?_
      have hne : ∀ k, (∃ b, s3.b = some b ∧ k = b.block) → N3.has k := fun k ⟨b, hb, hk⟩ => .inr (.inr (.inr ⟨u, s3, b, hs3, hb, hk.symm⟩))
      have o6 := o5.mod m6 fun hk => hb2N (hne _ hk)
      refine ⟨la o6, ?_, ⟨by omega, by show _ < ((n : Nat) : Int); omega⟩, onSome_i rfl ?_⟩
      · have := at5.head.mod m6 fun ⟨b, hb, hk⟩ => (at5.sep u s3 b hs3 hb).1 hk.symm
        rw [addr_lit, this.cell]; rfl
      refine at5.putOut hun hs3 hv7 m6 (.inl hb7) fun w7 at7 m7 z7 => ?_
      rw [w64 (n := (i : Int) + 1) (by omega) (by omega)]
      have hfun : (fun j' => if j' = u then ((outL l a.f).filter (fun y => decide (y ∉ (inL l v).take i))).take j ++ ((outL l a.f).filter (fun y => decide (y ∉ (inL l v).take i))).drop (j + 1) else cutX n l O ((inL l v).take i) j') = cutX n l O ((inL l v).take (i + 1)) := by
        funext j'
        rw [List.take_add_one, hga, Option.toList_some]
        split
        · rename_i he
          subst he
          rw [hXe, low.del hsrt hin hat, ← hat]
          refine filter_step (hok.srt.out a.f) fun x hx _ hk => ?_
          obtain ⟨hx1, hx2⟩ := mem_outL.1 hx
          exact arc_eq hok.srt hx1 hal hx2 hk
        · rename_i he
          unfold cutX
          split
          · refine List.filter_congr fun x hx => ?_
            have : x ≠ a := by
              rintro rfl
              have := (mem_outL.1 hx).2
              omega
            simp [this]
          · rfl
      rw [hfun] at at7
      have m97 : Mod N3.has w9 w7 := (k4.wk.tr k45.wk).tr m7
      have hset : ∀ k, ({ N3 with rows := N3.rows.set u s7 } : NetS).has k → N3.has k := fun k hk => by
        rcases NetS.has_set (N := N3) (P := fun _ => False) hs3 (fun a _ => .inl hb7) hk with h' | h'
        · exact h'
        · exact h'.elim
      refine hY ((inL l v).length - (i + 1)) _ _ (by omega) ⟨i + 1, _, hi', rfl, rfl, at7, hg3, ?_, m9.trans m97 (fun k hk hk2 => ?_), fun k hk => hf3 k (hset k hk), by have := m97.size; omega, fun k hk => hn3 k (hset k hk)⟩
      · refine r9.mod m97 eArc_ne fun b hb hk => ?_
        have hb8 := hfr8 b hb
        have := at2.lt (hn3 _ hk)
        omega
      · rcases hf3 k hk2 with h' | h'
        · exact h'
        · have := k1.size; omega
    · have hi' : i = (inL l v).length := by omega
      subst hi'
      rw [List.take_length] at at9
      have hrows : ∀ j, j ≠ n + v.toNat ∨ ¬ (0 ≤ v ∧ v < n) → j ≠ v.toNat ∨ ¬ (0 ≤ v ∧ v < n) → cutX n l O (inL l v) j = rowsOf n (cutL l v) j := by
        intro j hj1 hj2
        unfold cutX rowsOf cutL
        split
        · rename_i hjn
          unfold outL
          rw [List.filter_filter, List.filter_filter]
          refine List.filter_congr fun x hx => ?_
          obtain ⟨a1, a2, a3, a4, _⟩ := hok.may x hx
          apply Bool.eq_iff_iff.2
          simp only [Bool.and_eq_true, decide_eq_true_eq, mem_inL, hx, true_and]
          omega
        · rename_i hjn
          unfold inL
          rw [List.filter_filter, List.filter_filter]
          refine List.filter_congr fun x hx => ?_
          obtain ⟨a1, a2, a3, a4, _⟩ := hok.may x hx
          apply Bool.eq_iff_iff.2
          simp only [Bool.and_eq_true, decide_eq_true_eq, hmemO, hx, true_and]
          omega
      rw [hg2, ← hg3]
      refine has_at at9 hsz fun r hr => cond_i (fun hb => ?_) (fun hb => ?_)
      · have hv := hr.1 hb
        obtain ⟨u, rfl⟩ : ∃ u : Nat, v = (u : Int) := ⟨v.toNat, by omega⟩
        have hun : u < n := by omega
        simp only [Int.toNat_natCast] at hrows
        refine onSome_i rfl (ld1_i (k := .slice) ⟨some ⟨N3.go, 0, none⟩, n, n⟩ at9.c0 (onSome_i rfl (ld1_i (k := .slice) ⟨some ⟨N3.gi, 0, none⟩, n, n⟩ at9.c1 ?_)))
        refine ⟨⟨by omega, by show _ < ((n : Nat) : Int); omega⟩, onSome_i rfl ?_⟩
        have d9 : Keep w9 w9.drew := Mod.drew (Mod.refl _ w9)
        have at9' := at9.keep d9
        obtain ⟨sa, hsa, _⟩ := at9'.out hun
        refine at9'.putOut (s' := ⟨none, 0, 0⟩) hun hsa (Vec.nil _ _ _ _) (Mod.refl _ _) (.inr fun a ha => by cases ha) fun w10 at10 m10 _ => ?_
        refine ⟨⟨by omega, by show _ < ((n : Nat) : Int); omega⟩, onSome_i rfl ?_⟩
        obtain ⟨sb, hsb, _⟩ := at10.inn hun
        refine at10.putIn (s' := ⟨none, 0, 0⟩) hun hsb (Vec.nil _ _ _ _) (Mod.refl _ _) (.inr fun a ha => by cases ha) fun w11 at11 m11 _ => ?_
        have hs1 : ∀ k, ({ N3 with rows := N3.rows.set u ⟨none, 0, 0⟩ } : NetS).has k → N3.has k := fun k hk => by
          rcases NetS.has_set (N := N3) (P := fun _ => False) hsa (fun a ha => by cases ha) hk with h' | h'
          · exact h'
          · exact h'.elim
        have hs2 : ∀ k, ({ N3 with rows := (N3.rows.set u ⟨none, 0, 0⟩).set (n + u) ⟨none, 0, 0⟩ } : NetS).has k → N3.has k := fun k hk => by
          rcases NetS.has_set (N := { N3 with rows := N3.rows.set u ⟨none, 0, 0⟩ }) (P := fun _ => False) hsb (fun a ha => by cases ha) hk with h' | h'
          · exact hs1 k h'
          · exact h'.elim
        have m911 : Mod N3.has w9 w11 := (d9.wk.tr m10).trans m11 fun k _ hk => hs1 k hk
        refine hQ w11 { N3 with rows := (N3.rows.set u ⟨none, 0, 0⟩).set (n + u) ⟨none, 0, 0⟩ } ⟨?_, hok.cut _, hsz⟩ hg3 (m9.trans m911 fun k hk hk2 => ?_) fun k hk => ?_
        · have hfun : (fun j => if j = n + u then [] else (fun j => if j = u then [] else cutX n l O (inL l (u : Int)) j) j) = rowsOf n (cutL l (u : Int)) := by
            funext j
            by_cases hj1 : j = n + u
            · subst hj1
              have : ¬ (n + u < n) := by omega
              simp only [if_true, rowsOf, this, if_false]
              symm
              refine List.filter_eq_nil_iff.2 fun x hx hxt => ?_
              have h2 := (mem_cutL.1 hx).2.2
              have : x.t = ((n + u : Nat) : Int) - n := by simpa using hxt
              omega
            · simp only [hj1, if_false]
              by_cases hj2 : j = u
              · subst hj2
                simp only [if_true, rowsOf, hun]
                symm
                refine List.filter_eq_nil_iff.2 fun x hx hxf => ?_
                have h2 := (mem_cutL.1 hx).2.1
                have : x.f = (j : Int) := by simpa using hxf
                omega
              · simp only [hj2, if_false]
                exact hrows j (.inl hj1) (.inl hj2)
          rw [← hfun]; exact at11
        · rcases hf3 k hk2 with h' | h'
          · exact h'
          · have := k1.size; omega
        · rcases hf3 k (hs2 k hk) with h' | h'
          · exact .inl h'
          · exact .inr (Nat.le_trans k1.size h')
      · have hv : ¬ (0 ≤ v ∧ v < n) := fun hv => by rw [hr.2 hv] at hb; cases hb
        have hfun : cutX n l O (inL l v) = rowsOf n (cutL l v) := by
          funext j; exact hrows j (.inr hv) (.inr hv)
        rw [hfun] at at9
        exact hQ w9 N3 ⟨at9, hok.cut _, hsz⟩ hg3 m9 fun k hk => (hf3 k hk).imp id fun h' => Nat.le_trans k1.size h'
end Go.Proofs.Ytadacfoiphklgaa
