/-
  What is put into the program's net.
-/
import Derived.Test.YtadacfoiphklgaaMqNet
namespace Go.Proofs.Ytadacfoiphklgaa
open Go Go.Den

theorem own_all {w : World} {g : Nat} {e : TypeId} {cs : List Value} (h : Own w g e cs) : HoldsAt w ⟨g, 0, none⟩ 0 cs := h.holds fun j v hj => by simpa using hj
theorem laid_i {key : Arc → Int} {s : Sl} {xs : List Arc} {a : Arc} {i : Nat} {found : Bool} {w : World} {Q : Sl → World → Prop} (hs : Vec w tArc 4 eArc s xs) (hsrt : Srt key xs) (low : IsLow key xs (key a) i) (hf : found = true ↔ ∃ x ∈ xs, key x = key a) (hb : xs.length ≤ 512)
    (hQ : ∀ s' w', Vec w' tArc 4 eArc s' (insBy key xs a) → Mod (fun k => ∃ b, s.b = some b ∧ k = b.block) w w' → (s'.b = s.b ∨ ∀ b, s'.b = some b → w.heap.size ≤ b.block) → Q s' w') : F_net_laid s (i : Int) found (tupA a) w Q := by
  cases found with
  | true =>
    obtain ⟨x, hx, hk⟩ := hf.1 rfl
    have hi : i < xs.length := (List.getElem?_eq_some_iff.1 (low.found hsrt hx hk)).1
    exact laid_at_i hs hi fun w' h1 h2 => hQ s w' (by rw [← low.ins_at hsrt hx hk]; exact h1) h2 (.inl rfl)
  | false =>
    have hn : ∀ x ∈ xs, key x ≠ key a := fun x hx hk => by have := hf.2 ⟨x, hx, hk⟩; cases this
    exact laid_new_i hs low.le (by omega) fun s' w' h1 h2 h3 => hQ s' w' (by rw [← low.ins_new hn]; exact h1) h2 (h3.imp id fun ⟨b, hb', hlt⟩ c hc => by rw [hb'] at hc; cases hc; exact hlt)

theorem Put_i {N : NetS} {n : Nat} {l : List Arc} {a : Arc} {w : World} {Q : Bool → World → Prop} (h : NetIs w N n l)
    (hQ : ∀ w' N', NetIs w' N' n (putL n l a).1 → N'.g = N.g → Mod N.has w w' → (∀ k, N'.has k → N.has k ∨ w.heap.size ≤ k) → Q (putL n l a).2 w') : F_net_Net_Put (some ⟨N.g, 0, none⟩) (tupA a) w Q := by
  unfold F_net_Net_Put
  simp only [allocD]
  have k1 := Keep.alloc w (.cells #[Value.int .i64 a.f, Value.int .i64 a.t, Value.int .i64 a.w, Value.int .i64 a.m] 42)
  have oa1 : Own (w.alloc (.cells #[Value.int .i64 a.f, Value.int .i64 a.t, Value.int .i64 a.w, Value.int .i64 a.m] 42)) w.heap.size 42 (eArc a) := Own.alloc' w _ 42
  generalize hw1 : w.alloc (.cells #[Value.int .i64 a.f, Value.int .i64 a.t, Value.int .i64 a.w, Value.int .i64 a.m] 42) = w1 at *
  generalize hb1 : w.heap.size = b1 at *
  have hold : ∀ k, N.has k → k ≠ b1 := fun k hk => by have := h.at_.lt hk; omega
  refine cond_i (fun h => by simp at h) (fun _ => ?_)
  refine ldN_i (tupA a) (own_all oa1) ?_
  have h1 := h.keep k1
  refine may_i h1.at_.head fun w2 r k2 hr => ?_
  have h2 := h1.keep k2
  have k12 := k1.tr k2
  have oa2 := oa1.mod k2 id
  refine cond_i (fun hr0 => ?_) (fun hr0 => ?_)
  · have hno : ¬ mayA n a := fun hm => by rw [hr.2 hm] at hr0; cases hr0
    have e : putL n l a = (l, false) := by unfold putL; rw [if_neg hno]
    rw [e] at hQ
    exact hQ w2 N h2 rfl k12.wk fun k hk => .inl hk
  have hm : mayA n a := hr.1 (by cases r <;> simp at hr0 ⊢)
  have hsz := h.sz
  have hf0 := hm.1
  have hf1 := hm.2.1
  have ht0 := hm.2.2.1
  have ht1 := hm.2.2.2.1
  obtain ⟨v, hv⟩ : ∃ v : Nat, a.f = (v : Int) := ⟨a.f.toNat, by omega⟩
  obtain ⟨u, hu⟩ : ∃ u : Nat, a.t = (u : Int) := ⟨a.t.toNat, by omega⟩
  have hvn : v < n := by omega
  have hun : u < n := by omega
  have la : ∀ {w' : World}, Own w' b1 42 (eArc a) → w'.cell? ((⟨b1, 0, none⟩ : Addr).add 0) = some (.int .i64 (v : Int)) ∧ w'.cell? ((⟨b1, 0, none⟩ : Addr).add 1) = some (.int .i64 (u : Int)) ∧ w'.cell? ((⟨b1, 0, none⟩ : Addr).add 2) = some (.int .i64 a.w) := fun ho => by
    refine ⟨?_, ?_, ?_⟩ <;> rw [addr_lit, ho.cell]
    · rw [← hv]; rfl
    · rw [← hu]; rfl
    · rfl
  have d2 : Keep w2 w2.drew := Mod.drew (Mod.refl _ w2)
  have h2' := h2.keep d2
  have oa2' := oa2.mod d2 id
  refine onSome_i rfl (ld1_i (k := .slice) ⟨some ⟨N.go, 0, none⟩, n, n⟩ h2'.at_.c0 (ld1_i (k := .int .i64) (v : Int) (la oa2').1 ?_))
  refine ⟨⟨by omega, by show _ < ((n : Nat) : Int); omega⟩, onSome_i rfl ?_⟩
  obtain ⟨s, hs, hcell⟩ := h2'.at_.out hvn
  refine ld1_i (k := .slice) s hcell (ld1_i (k := .int .i64) (u : Int) (la oa2').2.1 ?_)
  have hrow := h2'.at_.row v s hs
  have hX : rowsOf n l v = outL l a.f := by rw [hv]; simp [rowsOf, hvn]
  rw [hX] at hrow
  have hlenO := h.ok.out_len a.f
  rw [← hu]
  refine byTo_i (hrow.rd lenA) (h.ok.srt.out a.f) (by omega) fun i found w3 k3 low hfound => ?_
  have h3 := h2'.keep k3
  have k23 := (k12.tr d2).tr k3
  have oa3 := oa2'.mod k3 id
  intro J hJ
  have hfind : (found = true) ↔ ∃ x ∈ l, x.f = a.f ∧ x.t = a.t := by
    rw [hfound]
    constructor
    · rintro ⟨x, hx, hk⟩; exact ⟨x, (mem_outL.1 hx).1, (mem_outL.1 hx).2, hk⟩
    · rintro ⟨x, hx, hk1, hk2⟩; exact ⟨x, mem_outL.2 ⟨hx, hk1⟩, hk2⟩
  have hJ' : putL n l a = (insL l a, true) → J () w3.drew := by
    intro e
    rw [e] at hQ
    apply hJ
    have d3 : Keep w3 w3.drew.drew := Mod.drew (Mod.drew (Mod.refl _ w3))
    have h4 := h3.keep d3
    have oa4 := oa3.mod d3 id
    have k4 := k23.tr d3
    generalize w3.drew.drew = w4 at *
    refine onSome_i rfl (ld1_i (k := .slice) ⟨some ⟨N.go, 0, none⟩, n, n⟩ h4.at_.c0 (ld1_i (k := .int .i64) (v : Int) (la oa4).1 ?_))
    refine onSome_i rfl (ld1_i (k := .slice) ⟨some ⟨N.go, 0, none⟩, n, n⟩ h4.at_.c0 (ld1_i (k := .int .i64) (v : Int) (la oa4).1 ?_))
    refine ⟨⟨by omega, by show _ < ((n : Nat) : Int); omega⟩, onSome_i rfl ?_⟩
    obtain ⟨s', hs', hcell4⟩ := h4.at_.out hvn
    rw [hs] at hs'; cases hs'
    refine ld1_i (k := .slice) s hcell4 (ldN_i (tupA a) (own_all oa4) ?_)
    have hrow4 := h4.at_.row v s hs
    rw [hX] at hrow4
    refine laid_i hrow4 (h.ok.srt.out a.f) low hfound (by omega) fun s6 w5 hv6 m5 hb6 => ?_
    have hne : ∀ k, (∃ b, s.b = some b ∧ k = b.block) → N.has k := fun k ⟨b, hb, hk⟩ => .inr (.inr (.inr ⟨v, s, b, hs, hb, hk.symm⟩))
    have oa5 := oa4.mod m5 fun hk => hold _ (hne _ hk) rfl
    refine ⟨(la oa5).1, ?_, ⟨by omega, by show _ < ((n : Nat) : Int); omega⟩, onSome_i rfl ?_⟩
    · have := h4.at_.head.mod m5 fun ⟨b, hb, hk⟩ => (h4.at_.sep v s b hs hb).1 hk.symm
      rw [addr_lit, this.cell]; rfl
    refine h4.at_.putOut hvn hs hv6 m5 hb6 fun w6 h6 m6 z6 => ?_
    have oa6 := oa4.mod m6 fun hk => hold _ hk rfl
    have hw4 : w.heap.size ≤ w4.heap.size := k4.size
    have hh6 : ∀ k, ({ N with rows := N.rows.set v s6 } : NetS).has k → N.has k ∨ w4.heap.size ≤ k := fun k hk =>
      NetS.has_set (P := fun k => w4.heap.size ≤ k) hs (fun a ha => hb6.imp id fun hq => hq a ha) hk
    have d6 : Keep w6 w6.drew := Mod.drew (Mod.refl _ w6)
    have h6' := h6.keep d6
    have oa6' := oa6.mod d6 id
    refine onSome_i rfl (ld1_i (k := .slice) ⟨some ⟨N.gi, 0, none⟩, n, n⟩ h6'.c1 (ld1_i (k := .int .i64) (u : Int) (la oa6').2.1 ?_))
    refine ⟨⟨by omega, by show _ < ((n : Nat) : Int); omega⟩, onSome_i rfl ?_⟩
    obtain ⟨s8, hs8, hcell8⟩ := h6'.inn hun
    refine ld1_i (k := .slice) s8 hcell8 (ld1_i (k := .int .i64) (v : Int) (la oa6').1 ?_)
    have hX8 : (if n + u = v then insBy Arc.t (outL l a.f) a else rowsOf n l (n + u)) = inL l a.t := by
      have : ¬ (n + u = v) := by omega
      have h2 : ¬ (n + u < n) := by omega
      simp only [this, if_false, rowsOf, h2]
      rw [hu]; congr 1; omega
    have hrow8 := h6'.row (n + u) s8 hs8
    rw [hX8] at hrow8
    have hlenI := h.ok.in_len a.t
    rw [← hv]
    refine byFrom_i (hrow8.rd lenA) (h.ok.srt.inn a.t) (by omega) fun i8 f8 w7 k7 low8 hf8 => ?_
    have d7 : Keep w7 w7.drew := Mod.drew (Mod.refl _ w7)
    have k7' := k7.tr d7
    have h7 := h6'.keep k7'
    have oa7 := oa6'.mod k7' id
    refine onSome_i rfl (ld1_i (k := .slice) ⟨some ⟨N.gi, 0, none⟩, n, n⟩ h7.c1 (ld1_i (k := .int .i64) (u : Int) (la oa7).2.1 ?_))
    refine onSome_i rfl (ld1_i (k := .slice) ⟨some ⟨N.gi, 0, none⟩, n, n⟩ h7.c1 (ld1_i (k := .int .i64) (u : Int) (la oa7).2.1 ?_))
    refine ⟨⟨by omega, by show _ < ((n : Nat) : Int); omega⟩, onSome_i rfl ?_⟩
    obtain ⟨s9, hs9, hcell9⟩ := h7.inn hun
    rw [hs8] at hs9; cases hs9
    refine ld1_i (k := .slice) s8 hcell9 (ldN_i (tupA a) (own_all oa7) ?_)
    have hrow9 := h7.row (n + u) s8 hs8
    rw [hX8] at hrow9
    have hfin : found = true ↔ ∃ x ∈ inL l a.t, x.f = a.f := by
      rw [hfind]
      constructor
      · rintro ⟨x, hx, hk1, hk2⟩; exact ⟨x, mem_inL.2 ⟨hx, hk2⟩, hk1⟩
      · rintro ⟨x, hx, hk⟩; exact ⟨x, (mem_inL.1 hx).1, hk, (mem_inL.1 hx).2⟩
    refine laid_i hrow9 (h.ok.srt.inn a.t) low8 hfin (by omega) fun s12 w8 hv12 m8 hb12 => ?_
    have hne8 : ∀ k, (∃ b, s8.b = some b ∧ k = b.block) → ({ N with rows := N.rows.set v s6 } : NetS).has k := fun k ⟨b, hb, hk⟩ => .inr (.inr (.inr ⟨n + u, s8, b, hs8, hb, hk.symm⟩))
    have hb1w : b1 < w4.heap.size := oa4.lt
    have hb1n : ¬ ({ N with rows := N.rows.set v s6 } : NetS).has b1 := fun hk => by
      rcases hh6 b1 hk with h' | h'
      · exact hold _ h' rfl
      · omega
    have oa8 := oa7.mod m8 fun hk => hb1n (hne8 _ hk)
    refine ⟨(la oa8).2.1, ?_, ⟨by omega, by show _ < ((n : Nat) : Int); omega⟩, onSome_i rfl ?_⟩
    · have := h7.head.mod m8 fun ⟨b, hb, hk⟩ => (h7.sep (n + u) s8 b hs8 hb).1 hk.symm
      rw [addr_lit, this.cell]; rfl
    refine h7.putIn hun hs8 hv12 m8 hb12 fun w9 h9 m9 z9 => ?_
    have m46 : Mod N.has w w6 := k4.wk.tr m6
    have s67 : w4.heap.size ≤ w7.drew.heap.size := Nat.le_trans m6.size (Nat.le_trans d6.size k7'.size)
    have m69 : Mod N.has w w9 := ((m46.tr d6.wk).tr k7'.wk).trans m9 fun k hk hk' => by
      rcases hh6 k hk' with h' | h'
      · exact h'
      · omega
    refine hQ w9 { N with rows := (N.rows.set v s6).set (n + u) s12 } ⟨?_, h.ok.ins hm, h.sz⟩ rfl m69 fun k hk => ?_
    · have hfun : (fun j => if j = n + u then insBy Arc.f (inL l a.t) a else (fun j => if j = v then insBy Arc.t (outL l a.f) a else rowsOf n l j) j) = rowsOf n (insL l a) := by
        funext j
        by_cases hj1 : j = n + u
        · subst hj1
          have h2 : ¬ (n + u < n) := by omega
          simp only [if_true, rowsOf, h2, if_false]
          rw [inL_ins h.ok.srt, if_pos (by omega)]
          congr 2; omega
        · simp only [hj1, if_false]
          by_cases hj2 : j = v
          · subst hj2
            simp only [if_true, rowsOf, hvn]
            rw [outL_ins h.ok.srt, if_pos (by omega), hv]
          · simp only [hj2, if_false, rowsOf]
            split
            · rw [outL_ins h.ok.srt, if_neg (by omega)]
            · rw [inL_ins h.ok.srt, if_neg (by omega)]
      rw [← hfun]; exact h9
    · rcases NetS.has_set (N := { N with rows := N.rows.set v s6 }) (P := fun k => w7.drew.heap.size ≤ k) hs8 (fun a ha => hb12.imp id fun hq => hq a ha) hk with h' | h'
      · rcases hh6 k h' with h'' | h''
        · exact .inl h''
        · exact .inr (by omega)
      · exact .inr (by omega)
  have d3 : Keep w3 w3.drew := Mod.drew (Mod.refl _ w3)
  have h3' := h3.keep d3
  have oa3' := oa3.mod d3 id
  refine cond_i (fun hfd => ?_) (fun hfd => ?_)
  · obtain ⟨x, hx, hxk⟩ := hfound.1 hfd
    have hxi := low.found (h.ok.srt.out a.f) hx hxk
    have hi : i < (outL l a.f).length := (List.getElem?_eq_some_iff.1 hxi).1
    have hxl := mem_outL.1 hx
    have efind : findL l a.f a.t = some x := by rw [← hxl.2, ← hxk]; exact findL_eq h.ok.srt hxl.1
    refine onSome_i rfl (ld1_i (k := .slice) ⟨some ⟨N.go, 0, none⟩, n, n⟩ h3'.at_.c0 (ld1_i (k := .int .i64) (v : Int) (la oa3').1 ?_))
    refine ⟨⟨by omega, by show _ < ((n : Nat) : Int); omega⟩, onSome_i rfl ?_⟩
    obtain ⟨s', hs', hcell3⟩ := h3'.at_.out hvn
    rw [hs] at hs'; cases hs'
    refine ld1_i (k := .slice) s hcell3 ?_
    have hrow3 := h3'.at_.row v s hs
    rw [hX] at hrow3
    have hl3 := hrow3.len
    refine ⟨⟨by omega, by omega⟩, ?_⟩
    obtain ⟨b, hb, hh⟩ := (hrow3.rd lenA).get i x hxi
    refine onSome_i hb (ld1_i (k := .int .i64) x.w ?_ (ld1_i (k := .int .i64) a.w (la oa3').2.2 ?_))
    · exact (holds_iff.1 hh) 2 _ rfl
    refine cond_d (fun hle => ?_) (fun hle => ?_)
    · have e : putL n l a = (l, false) := by unfold putL; rw [if_pos hm, efind]; simp only [hle, if_true]
      rw [e] at hQ
      exact hQ _ N h3' rfl (k23.tr d3).wk fun k hk => .inl hk
    · exact hJ' (by unfold putL; rw [if_pos hm, efind]; simp only [hle, if_false])
  · have efind : findL l a.f a.t = none := by
      cases hfl : findL l a.f a.t with
      | none => rfl
      | some x =>
        obtain ⟨h1, h2, h3⟩ := findL_some hfl
        rw [hfind.2 ⟨x, h1, h2, h3⟩] at hfd; cases hfd
    exact hJ' (by unfold putL; rw [if_pos hm, efind])
end Go.Proofs.Ytadacfoiphklgaa
