/-
  The document's net: how it lies in memory, and what its functions compute.
-/
import Derived.Test.YtadacfoiphklgaaMqCut
namespace Go.Proofs.Ytadacfoiphklgaa
open Go Go.Den

structure RNetIs (w : World) (g : Nat) (s : Sl) (n : Nat) (l : List Arc) : Prop where
  head : Own w g tRNet [.int .i64 (n : Int), sv s]
  vec : Vec w tArc 4 eArc s l
  sep : ∀ a, s.b = some a → a.block ≠ g
  ok : OkL n l
  sz : n ≤ 512
def rhas (g : Nat) (s : Sl) (k : Nat) : Prop := k = g ∨ ∃ a, s.b = some a ∧ a.block = k
section
variable {w w' : World} {g : Nat} {s : Sl} {n : Nat} {l : List Arc}
theorem RNetIs.mod {F : Nat → Prop} (h : RNetIs w g s n l) (hm : Mod F w w') (hF : ∀ k, rhas g s k → ¬ F k) : RNetIs w' g s n l :=
  ⟨h.head.mod hm (hF _ (.inl rfl)), h.vec.mod hm fun a ha => hF _ (.inr ⟨a, ha, rfl⟩), h.sep, h.ok, h.sz⟩
theorem RNetIs.keep (h : RNetIs w g s n l) (hm : Keep w w') : RNetIs w' g s n l := h.mod hm fun _ _ => id
theorem RNetIs.lt (h : RNetIs w g s n l) {k : Nat} (hk : rhas g s k) : k < w.heap.size := by
  rcases hk with rfl | ⟨a, ha, rfl⟩
  · exact h.head.lt
  · exact h.vec.lt ha
theorem RNetIs.c0 (h : RNetIs w g s n l) : w.cell? ((⟨g, 0, none⟩ : Addr).add 0) = some (.int .i64 (n : Int)) := by rw [addr_lit, h.head.cell]; rfl
theorem RNetIs.c1 (h : RNetIs w g s n l) : w.cell? ((⟨g, 0, none⟩ : Addr).add 1) = some (sv s) := by rw [addr_lit, h.head.cell]; rfl

theorem within_i {x a b : Int} {Q : Bool → World → Prop} (hQ : ∀ r : Bool, (r = true ↔ a ≤ x ∧ x ≤ b) → Q r w) : F_ref4_within x a b w Q := by
  unfold F_ref4_within
  refine cond_d (fun h => hQ _ (by simp; omega)) (fun h => hQ _ (by simp; omega))

theorem rmay_i {a : Arc} {Q : Bool → World → Prop} {e1 : Value} (hh : Own w g tRNet [.int .i64 (n : Int), e1]) (hn : n ≤ 512) (hQ : ∀ w' (r : Bool), Keep w w' → (r = true ↔ mayA n a) → Q r w') : F_ref4_Net_mayArc (some ⟨g, 0, none⟩) (tupA a) w Q := by
  unfold F_ref4_Net_mayArc
  simp only [allocD]
  have k1 := Keep.alloc w (.cells #[Value.int .i64 a.f, Value.int .i64 a.t, Value.int .i64 a.w, Value.int .i64 a.m] 42)
  have oa : Own (w.alloc (.cells #[Value.int .i64 a.f, Value.int .i64 a.t, Value.int .i64 a.w, Value.int .i64 a.m] 42)) w.heap.size 42 (eArc a) := Own.alloc' w _ 42
  generalize hw1 : w.alloc (.cells #[Value.int .i64 a.f, Value.int .i64 a.t, Value.int .i64 a.w, Value.int .i64 a.m] 42) = w1 at *
  generalize hb1 : w.heap.size = b1 at *
  have d1 : Keep w1 w1.drew := Mod.drew (Mod.refl _ w1)
  have hk := k1.tr d1
  have oa' := oa.mod d1 id
  have hh' := hh.mod hk id
  generalize w1.drew = w3 at *
  have l0 : w3.cell? ((⟨b1, 0, none⟩ : Addr).add 0) = some (.int .i64 a.f) := by rw [addr_lit, oa'.cell]; rfl
  have l1 : w3.cell? ((⟨b1, 0, none⟩ : Addr).add 1) = some (.int .i64 a.t) := by rw [addr_lit, oa'.cell]; rfl
  have l2 : w3.cell? ((⟨b1, 0, none⟩ : Addr).add 2) = some (.int .i64 a.w) := by rw [addr_lit, oa'.cell]; rfl
  have l3 : w3.cell? ((⟨b1, 0, none⟩ : Addr).add 3) = some (.int .i64 a.m) := by rw [addr_lit, oa'.cell]; rfl
  have ln : w3.cell? ((⟨g, 0, none⟩ : Addr).add 0) = some (.int .i64 (n : Int)) := by rw [addr_lit, hh'.cell]; rfl
  have wn : IntKind.wrap .i64 ((n : Int) - 1) = (n : Int) - 1 := w64 (by omega) (by omega)
  have no : ¬ mayA n a → Q false w3 := fun h => hQ w3 false hk ⟨fun h => by simp at h, fun h' => absurd h' h⟩
  have step : ∀ {r : Bool} {p : Prop} {A B : Prop}, (r = true ↔ p) → (p → A) → (¬ p → B) → cond r A B := fun hr h1 h2 => cond_i (fun h => h1 (hr.1 h)) (fun h => h2 fun hp => by rw [hr.2 hp] at h; cases h)
  refine ld1_i (k := .int .i64) a.f l0 (onSome_i rfl (ld1_i (k := .int .i64) (n : Int) ln ?_))
  rw [wn]
  refine within_i fun r hr => step hr (fun h1 => ?_) (fun h1 => no fun hm => h1 ⟨hm.1, by have := hm.2.1; omega⟩)
  refine ld1_i (k := .int .i64) a.t l1 (onSome_i rfl (ld1_i (k := .int .i64) (n : Int) ln ?_))
  rw [wn]
  refine within_i fun r hr => step hr (fun h2 => ?_) (fun h2 => no fun hm => h2 ⟨hm.2.2.1, by have := hm.2.2.2.1; omega⟩)
  refine ld1_i (k := .int .i64) a.f l0 (ld1_i (k := .int .i64) a.t l1 ?_)
  refine cond_i (fun h => ?_) (fun h => no fun hm => hm.2.2.2.2.1 (by simpa using h))
  have h3 : a.f ≠ a.t := by simpa using h
  refine ld1_i (k := .int .i64) a.w l2 ?_
  refine within_i fun r hr => step hr (fun h4 => ?_) (fun h4 => no fun hm => h4 ⟨hm.2.2.2.2.2.1, hm.2.2.2.2.2.2.1⟩)
  refine ld1_i (k := .int .i64) a.m l3 ?_
  have base : (a.m = -1 ∨ (0 ≤ a.m ∧ a.m < n ∧ a.m ≠ a.f ∧ a.m ≠ a.t)) → mayA n a := fun h => ⟨h1.1, by omega, h2.1, by omega, h3, h4.1, h4.2, h⟩
  refine cond_i (fun h => hQ w3 true hk ⟨fun _ => base (.inl (by simpa using h)), fun _ => rfl⟩) (fun h => ?_)
  have hm1 : a.m ≠ -1 := by simpa using h
  refine ld1_i (k := .int .i64) a.m l3 (onSome_i rfl (ld1_i (k := .int .i64) (n : Int) ln ?_))
  rw [wn]
  refine within_i fun r hr => step hr (fun h5 => ?_) (fun h5 => no fun hm => ?_)
  · refine ld1_i (k := .int .i64) a.m l3 (ld1_i (k := .int .i64) a.f l0 ?_)
    refine cond_i (fun h => ?_) (fun h => no fun hm => ?_)
    · have h6 : a.m ≠ a.f := by simpa using h
      refine ld1_i (k := .int .i64) a.m l3 (ld1_i (k := .int .i64) a.t l1 (hQ w3 _ hk ?_))
      constructor
      · intro h; exact base (.inr ⟨h5.1, by omega, h6, by simpa using h⟩)
      · intro hm
        rcases hm.2.2.2.2.2.2.2 with h' | h'
        · exact absurd h' hm1
        · simpa using h'.2.2.2
    · have h6 : a.m = a.f := by simpa using h
      rcases hm.2.2.2.2.2.2.2 with h' | h'
      · exact hm1 h'
      · exact h'.2.2.1 h6
  · rcases hm.2.2.2.2.2.2.2 with h' | h'
    · exact hm1 h'
    · exact h5 ⟨h'.1, by have := h'.2.1; omega⟩

theorem midR (i j : Nat) (h : i + j < 9223372036854775808) : IntKind.wrap .i64 (Int.tdiv (IntKind.wrap .i64 ((i : Int) + (j : Int))) (2 : Int)) = (((i + j) / 2 : Nat) : Int) := by
  rw [w64 (n := (i : Int) + (j : Int)) (by omega) (by omega), show ((i : Int) + (j : Int)) = ((i + j : Nat) : Int) by omega, show Int.tdiv ((i + j : Nat) : Int) 2 = (((i + j) / 2 : Nat) : Int) from rfl, w64 (by omega) (by omega)]

theorem rFind_i {f t : Int} {Q : Int → Bool → World → Prop} (h : RNetIs w g s n l) (hl : l.length < 1099511627776)
    (hQ : ∀ (i : Nat) (found : Bool) w', Keep w w' → LowL l f t i → (found = true ↔ ∃ x ∈ l, x.f = f ∧ x.t = t) → Q (i : Int) found w') : F_ref4_Net_Find (some ⟨g, 0, none⟩) f t w Q := by
  unfold F_ref4_Net_Find
  have d0 : Keep w w.drew := Mod.drew (Mod.refl _ w)
  have h0 := h.keep d0
  have hsl := h.vec.len
  refine onSome_i rfl (ld1_i (k := .slice) s h0.c1 ?_)
  refine loop_i (fun m t' w' => ∃ i j : Nat, i ≤ j ∧ j ≤ l.length ∧ m = j - i ∧ t' = ((i : Int), (j : Int), ()) ∧ w' = w.drew ∧ (∀ p x, p < i → l[p]? = some x → x.f < f ∨ (x.f = f ∧ x.t < t)) ∧ (∀ p x, j ≤ p → l[p]? = some x → ¬ (x.f < f ∨ (x.f = f ∧ x.t < t)))) l.length
    ⟨0, l.length, by omega, by omega, by omega, by rw [hsl]; rfl, rfl, fun p x hp => by omega, fun p x hp hx => by have := (List.getElem?_eq_some_iff.1 hx).1; omega⟩ ?_
  rintro m t' w' ⟨i, j, hij, hj, rfl, rfl, rfl, hlo, hhi⟩ X hX
  dsimp only
  have cell : ∀ {w1 : World}, RNetIs w1 g s n l → ∀ (q : Nat) (x : Arc), l[q]? = some x → ∃ a, s.b = some a ∧ w1.cell? ((a.add (q * 4)).add 0) = some (.int .i64 x.f) ∧ w1.cell? ((a.add (q * 4)).add 1) = some (.int .i64 x.t) := fun h1 q x hx => by
    obtain ⟨a, ha, hh⟩ := (h1.vec.rd lenA).get q x hx
    exact ⟨a, ha, (holds_iff.1 hh) 0 _ rfl, (holds_iff.1 hh) 1 _ rfl⟩
  refine cond_d (fun hlt => ?_) (fun hge => ?_)
  · have hlt : i < j := by omega
    rw [midR i j (by omega)]
    have hm : (i + j) / 2 < l.length := by omega
    obtain ⟨a, ha, cf, ct⟩ := cell h0 _ _ (List.getElem?_eq_getElem hm)
    have up : (l[(i + j) / 2].f < f ∨ (l[(i + j) / 2].f = f ∧ l[(i + j) / 2].t < t)) → ∀ p x, p < (i + j) / 2 + 1 → l[p]? = some x → x.f < f ∨ (x.f = f ∧ x.t < t) := fun hv p x hp hx => by
      rcases Nat.lt_or_ge p ((i + j) / 2) with h' | h'
      · have := h.ok.srt.get h' hx (List.getElem?_eq_getElem hm); omega
      · have : p = (i + j) / 2 := by omega
        subst this; rw [List.getElem?_eq_getElem hm] at hx; cases hx; exact hv
    have dn : ¬ (l[(i + j) / 2].f < f ∨ (l[(i + j) / 2].f = f ∧ l[(i + j) / 2].t < t)) → ∀ p x, (i + j) / 2 ≤ p → l[p]? = some x → ¬ (x.f < f ∨ (x.f = f ∧ x.t < t)) := fun hv p x hp hx => by
      rcases Nat.eq_or_lt_of_le hp with h' | h'
      · subst h'; rw [List.getElem?_eq_getElem hm] at hx; cases hx; exact hv
      · have := h.ok.srt.get h' (List.getElem?_eq_getElem hm) hx; omega
    refine ⟨by omega, onSome_i rfl (ld1_i (k := .slice) s h0.c1 ⟨⟨by omega, by omega⟩, onSome_i ha (ld1_i (k := .int .i64) _ cf ?_)⟩)⟩
    rw [w64 (n := (((i + j) / 2 : Nat) : Int) + 1) (by omega) (by omega)]
    refine cond_d (fun h1 => ?_) (fun h1 => ?_)
    · exact hX (j - ((i + j) / 2 + 1)) _ _ (by omega) ⟨(i + j) / 2 + 1, j, by omega, hj, rfl, rfl, rfl, up (.inl h1), hhi⟩
    · refine onSome_i rfl (ld1_i (k := .slice) s h0.c1 ⟨⟨by omega, by omega⟩, onSome_i ha (ld1_i (k := .int .i64) _ cf ?_)⟩)
      refine cond_i (fun h2 => ?_) (fun h2 => ?_)
      · have h2 : l[(i + j) / 2].f = f := by simpa using h2
        refine onSome_i rfl (ld1_i (k := .slice) s h0.c1 ⟨⟨by omega, by omega⟩, onSome_i ha (ld1_i (k := .int .i64) _ ct ?_)⟩)
        refine cond_d (fun h3 => ?_) (fun h3 => ?_)
        · exact hX (j - ((i + j) / 2 + 1)) _ _ (by omega) ⟨(i + j) / 2 + 1, j, by omega, hj, rfl, rfl, rfl, up (.inr ⟨h2, h3⟩), hhi⟩
        · exact hX ((i + j) / 2 - i) _ _ (by omega) ⟨i, (i + j) / 2, by omega, by omega, rfl, rfl, rfl, hlo, dn (by omega)⟩
      · have h2 : l[(i + j) / 2].f ≠ f := by simpa using h2
        exact hX ((i + j) / 2 - i) _ _ (by omega) ⟨i, (i + j) / 2, by omega, by omega, rfl, rfl, rfl, hlo, dn (by omega)⟩
  · have hje : j = i := by omega
    subst hje
    have low : LowL l f t j := ⟨hj, hlo, hhi⟩
    have d1 : Keep w.drew w.drew.drew := Mod.drew (Mod.refl _ _)
    have h1 := h0.keep d1
    have kk := d0.tr d1
    have found : ∀ x ∈ l, x.f = f → x.t = t → l[j]? = some x := fun x hx hf ht => by
      obtain ⟨p, hp⟩ := List.mem_iff_getElem?.1 hx
      have h2 : j ≤ p := by
        apply Nat.le_of_not_lt
        intro hlt
        have := hlo p x hlt hp
        omega
      rcases Nat.eq_or_lt_of_le h2 with e | hlt
      · rw [e]; exact hp
      · have hjl : j < l.length := by have := (List.getElem?_eq_some_iff.1 hp).1; omega
        have h3 := hhi j l[j] (Nat.le_refl _) (List.getElem?_eq_getElem hjl)
        have h4 := h.ok.srt.get hlt (List.getElem?_eq_getElem hjl) hp
        omega
    refine onSome_i rfl (ld1_i (k := .slice) s h1.c1 ?_)
    refine cond_d (fun hlt => ?_) (fun hlt => ?_)
    · have hjl : j < l.length := by omega
      obtain ⟨a, ha, cf, ct⟩ := cell h1 _ _ (List.getElem?_eq_getElem hjl)
      refine onSome_i rfl (ld1_i (k := .slice) s h1.c1 ⟨⟨by omega, by omega⟩, onSome_i ha (ld1_i (k := .int .i64) _ cf ?_)⟩)
      refine cond_i (fun h2 => ?_) (fun h2 => ?_)
      · have h2 : l[j].f = f := by simpa using h2
        refine onSome_i rfl (ld1_i (k := .slice) s h1.c1 ⟨⟨by omega, by omega⟩, onSome_i ha (ld1_i (k := .int .i64) _ ct ?_)⟩)
        refine hQ j _ _ kk low ?_
        constructor
        · intro h3; exact ⟨_, List.getElem_mem hjl, h2, by simpa using h3⟩
        · rintro ⟨x, hx, hf, ht⟩
          have := found x hx hf ht
          rw [List.getElem?_eq_getElem hjl] at this
          cases this
          simpa using ht
      · have h2 : l[j].f ≠ f := by simpa using h2
        refine hQ j false _ kk low ⟨fun h => by simp at h, ?_⟩
        rintro ⟨x, hx, hf, ht⟩
        have := found x hx hf ht
        rw [List.getElem?_eq_getElem hjl] at this
        cases this
        exact absurd hf h2
    · refine hQ j false _ kk low ⟨fun h => by simp at h, ?_⟩
      rintro ⟨x, hx, hf, ht⟩
      have := (List.getElem?_eq_some_iff.1 (found x hx hf ht)).1
      omega
end
end Go.Proofs.Ytadacfoiphklgaa
