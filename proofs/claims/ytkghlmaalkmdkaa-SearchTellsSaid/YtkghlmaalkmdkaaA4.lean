/-
  Where two trees meet, and the row of stops there. No program in sight.
-/
import Derived.Deep.Slices
import Derived.Test.YtkghlmaalkmdkaaA3
import Derived.Test.YtkghlmaalkmdkaaA2
namespace Go.Den
open Go

def MeetIs (us ds : List Int) (k : Nat) (at_ far : Int) : Prop :=
  (at_ = -1 ∧ far = 0 ∧ ∀ v x y, v < k → us[v]? = some x → ds[v]? = some y → ¬ (0 ≤ x ∧ 0 ≤ y)) ∨
  (0 ≤ at_ ∧ at_ < k ∧ ∃ x y, us[at_.toNat]? = some x ∧ ds[at_.toNat]? = some y ∧ 0 ≤ x ∧ 0 ≤ y ∧ far = x + y ∧ ∀ v x' y', v < k → us[v]? = some x' → ds[v]? = some y' → 0 ≤ x' → 0 ≤ y' → far ≤ x' + y')
/-- By way of some number. -/
def DP (P1 P2 : Int → Int → Prop) (d : Int) : Prop := ∃ m u v, P1 m u ∧ P2 m v ∧ d = u + v

theorem MeetIs.start (us ds : List Int) : MeetIs us ds 0 (-1) 0 := .inl ⟨rfl, rfl, fun v x y hv => by omega⟩
section
variable {us ds : List Int} {k : Nat} {at_ far x y : Int}
theorem MeetIs.skip (h : MeetIs us ds k at_ far) (hx : us[k]? = some x) (hy : ds[k]? = some y) (hno : 0 ≤ x → 0 ≤ y → 0 ≤ at_ ∧ far ≤ x + y) : MeetIs us ds (k + 1) at_ far := by
  rcases h with ⟨h1, h2, h3⟩ | ⟨h1, h2, x0, y0, g1, g2, g3, g4, g5, g6⟩
  · refine .inl ⟨h1, h2, fun v x' y' hv hx' hy' hh => ?_⟩
    rcases Nat.lt_or_ge v k with h | h
    · exact h3 v x' y' h hx' hy' hh
    · have : v = k := by omega
      subst this
      rw [hx] at hx'; rw [hy] at hy'; cases hx'; cases hy'
      have := (hno hh.1 hh.2).1; omega
  · refine .inr ⟨h1, by omega, x0, y0, g1, g2, g3, g4, g5, fun v x' y' hv hx' hy' p1 p2 => ?_⟩
    rcases Nat.lt_or_ge v k with h | h
    · exact g6 v x' y' h hx' hy' p1 p2
    · have : v = k := by omega
      subst this
      rw [hx] at hx'; rw [hy] at hy'; cases hx'; cases hy'
      exact (hno p1 p2).2
theorem MeetIs.take (h : MeetIs us ds k at_ far) (hx : us[k]? = some x) (hy : ds[k]? = some y) (h0 : 0 ≤ x) (h1 : 0 ≤ y) (hlt : at_ < 0 ∨ x + y < far) : MeetIs us ds (k + 1) (k : Int) (x + y) := by
  refine .inr ⟨by omega, by omega, x, y, by rw [Int.toNat_natCast]; exact hx, by rw [Int.toNat_natCast]; exact hy, h0, h1, rfl, fun v x' y' hv hx' hy' p1 p2 => ?_⟩
  rcases Nat.lt_or_ge v k with hvk | hvk
  · rcases h with ⟨g1, g2, g3⟩ | ⟨g1, g2, x0, y0, _, _, _, _, _, g6⟩
    · exact absurd ⟨p1, p2⟩ (g3 v x' y' hvk hx' hy')
    · have := g6 v x' y' hvk hx' hy' p1 p2; omega
  · have : v = k := by omega
    subst this
    rw [hx] at hx'; rw [hy] at hy'; cases hx'; cases hy'
    exact Int.le_refl _
theorem MeetIs.least {n : Nat} {P1 P2 : Int → Int → Prop} (h1 : FarIs n P1 us) (h2 : FarIs n P2 ds) (hr : ∀ v d, P1 v d → 0 ≤ v ∧ v < n) (h : MeetIs us ds n at_ far) : ∃ dd, LeastIs (DP P1 P2) dd ∧ far = max dd 0 ∧ (0 ≤ at_ ↔ 0 ≤ dd) := by
  have val : ∀ m u v, P1 m u → P2 m v → ∃ x y, us[m.toNat]? = some x ∧ ds[m.toNat]? = some y ∧ 0 ≤ x ∧ 0 ≤ y ∧ x ≤ u ∧ y ≤ v := fun m u v p1 p2 => by
    obtain ⟨m0, m1⟩ := hr m u p1
    have em : ((m.toNat : Nat) : Int) = m := Int.toNat_of_nonneg m0
    have g1 := List.getElem?_eq_getElem (show m.toNat < us.length by rw [h1.1]; omega)
    have g2 := List.getElem?_eq_getElem (show m.toNat < ds.length by rw [h2.1]; omega)
    have l1 := h1.2 _ _ g1
    have l2 := h2.2 _ _ g2
    rw [em] at l1 l2
    rcases l1 with ⟨_, l1⟩ | ⟨a0, _, a2⟩
    · exact absurd p1 (l1 u)
    rcases l2 with ⟨_, l2⟩ | ⟨b0, _, b2⟩
    · exact absurd p2 (l2 v)
    exact ⟨_, _, g1, g2, a0, b0, a2 u p1, b2 v p2⟩
  rcases h with ⟨e1, e2, e3⟩ | ⟨e1, e2, x, y, g1, g2, g3, g4, g5, g6⟩
  · refine ⟨-1, .inl ⟨rfl, fun d ⟨m, u, v, p1, p2, _⟩ => ?_⟩, by rw [e2]; rfl, by omega⟩
    obtain ⟨x, y, q1, q2, q3, q4, _⟩ := val m u v p1 p2
    exact e3 m.toNat x y (by have := hr m u p1; omega) q1 q2 ⟨q3, q4⟩
  · have ea : ((at_.toNat : Nat) : Int) = at_ := Int.toNat_of_nonneg e1
    refine ⟨far, .inr ⟨by omega, ⟨at_, x, y, ?_, ?_, g5⟩, fun d ⟨m, u, v, p1, p2, hd⟩ => ?_⟩, by omega, by omega⟩
    · have := h1.2 _ _ g1
      rw [ea] at this
      rcases this with ⟨h, _⟩ | ⟨_, h, _⟩
      · omega
      · exact h
    · have := h2.2 _ _ g2
      rw [ea] at this
      rcases this with ⟨h, _⟩ | ⟨_, h, _⟩
      · omega
      · exact h
    · obtain ⟨x', y', q1, q2, q3, q4, q5, q6⟩ := val m u v p1 p2
      have := g6 m.toNat x' y' (by have := hr m u p1; omega) q1 q2 q3 q4
      omega
end

theorem along_snoc {L : List Arc} {e : Arc} {y v : Int} (he : e ∈ L) (hf : e.f = y) (ht : e.t = v) : ∀ {l : List Int} {s : Int}, Along L (l ++ [y]) s → Along L (l ++ [y] ++ [v]) (s + e.w)
  | [], s, h => by
    cases h with
    | one => have := Along.cons he hf ht (.one v); rw [Int.add_zero] at this; rw [Int.zero_add]; exact this
  | [a], s, h => by
    cases h with
    | cons he' hf' ht' h' =>
      rw [Int.add_assoc]
      exact .cons he' hf' ht' (along_snoc he hf ht (l := []) h')
  | a :: b :: l, s, h => by
    cases h with
    | cons he' hf' ht' h' =>
      rw [Int.add_assoc]
      exact .cons he' hf' ht' (along_snoc he hf ht (l := b :: l) h')
/-- A row of stops, unpacked. -/
theorem rowT_along {n : Nat} {L A : List Arc} {R : List Int} (H : UnpOk n L A R) : ∀ {r : List Int} {a d : Int}, Along A (a :: r) d → ∃ z, rowT A a r = some z ∧ Along L (a :: z) d ∧ (a :: z).getLast? = (a :: r).getLast?
  | [], a, d, h => by
    cases h with
    | one => exact ⟨[], rfl, .one a, rfl⟩
  | b :: r, a, d, h => by
    cases h with
    | @cons e _ _ _ d' he hf ht h' =>
      obtain ⟨z, hz, haz, hlz⟩ := rowT_along H h'
      obtain ⟨l, hl⟩ := way_of H he
      have hal := way_along H hl e he rfl rfl
      rw [hf, ht] at hl
      obtain ⟨m, rfl⟩ := way_shape hl
      refine ⟨(m ++ [b]) ++ z, ?_, ?_, ?_⟩
      · show (match wayO A a b with | none => none | some l => (rowT A b r).map fun z => l.tail ++ z) = _
        rw [(wayO_some H).2 hl, hz]; rfl
      · have := along_app haz hal
        simpa using this
      · have e1 : a :: (m ++ [b] ++ z) = (a :: m) ++ (b :: z) := by simp
        have e2 : a :: b :: r = [a] ++ (b :: r) := rfl
        rw [e1, e2, List.getLast?_append, List.getLast?_append, hlz]
        rw [List.getLast?_cons]; rfl
theorem row_along {n : Nat} {L A : List Arc} {R : List Int} (H : UnpOk n L A R) {st : List Int} {d : Int} (h : Along A st d) : ∃ p, rowO A st = some p ∧ Along L p d ∧ p.head? = st.head? ∧ p.getLast? = st.getLast? := by
  cases st with
  | nil => cases h
  | cons a r =>
    obtain ⟨z, hz, h1, h2⟩ := rowT_along H h
    refine ⟨a :: z, ?_, h1, rfl, h2⟩
    show (rowT A a r).map _ = _
    rw [hz]; rfl

/-! ### Up, and down -/
theorem up_gw {n : Nat} {A : List Arc} {R : List Int} {a : Int} (a0 : 0 ≤ a) (a1 : a < n) {v d : Int} : GW (inSrc n [a]) (upL A R) (fun e => e.t) v d ↔ UpW A R a v d := by
  constructor
  · intro h
    induction h with
    | @nil v hs =>
      have : v = a := by simpa using hs.1
      subst this; exact .nil
    | @snoc v d e _ he ih =>
      have hm := List.mem_filter.1 he
      obtain ⟨h1, h2⟩ := mem_outL.1 hm.1
      exact .snoc e ih h1 h2 (by rw [h2]; simpa using hm.2)
  · intro h
    induction h with
    | nil => exact .nil ⟨by simp, a0, a1⟩
    | snoc e _ he hf hr ih => exact .snoc (en := fun e => e.t) e ih (List.mem_filter.2 ⟨mem_outL.2 ⟨he, hf⟩, by rw [← hf]; simpa using hr⟩)
theorem DownW.cons {A : List Arc} {R : List Int} {x w d : Int} (e : Arc) (he : e ∈ A) (hr : rankOf R e.t < rankOf R e.f) (ht : e.t = x) (h : DownW A R x w d) : DownW A R e.f w (e.w + d) := by
  induction h with
  | nil => rw [Int.add_zero, ← ht]; have := DownW.snoc e (.nil e.f) he rfl hr; rwa [Int.zero_add] at this
  | snoc e' _ he' hf' hr' ih => rw [← Int.add_assoc]; exact .snoc e' ih he' hf' hr'
theorem down_gw {n : Nat} {A : List Arc} {R : List Int} {ts : List Int} {v d : Int} : GW (inSrc n ts) (downL A R) (fun e => e.f) v d ↔ ∃ t, inSrc n ts t ∧ DownW A R v t d := by
  constructor
  · intro h
    induction h with
    | nil hs => exact ⟨_, hs, .nil _⟩
    | @snoc v d e _ he ih =>
      obtain ⟨t, ht, hd⟩ := ih
      have hm := List.mem_filter.1 he
      obtain ⟨h1, h2⟩ := mem_inL.1 hm.1
      refine ⟨t, ht, ?_⟩
      have := DownW.cons e h1 (by rw [h2]; simpa using hm.2) h2 hd
      rw [Int.add_comm]; exact this
  · rintro ⟨t, ht, h⟩
    have key : ∀ {u b d' : Int}, DownW A R u b d' → ∀ d0, GW (inSrc n ts) (downL A R) (fun e => e.f) b d0 → GW (inSrc n ts) (downL A R) (fun e => e.f) u (d0 + d') := fun {u b d'} hd => by
      induction hd with
      | nil => intro d0 h0; rw [Int.add_zero]; exact h0
      | snoc e _ he hf hr ih =>
        intro d0 h0
        have := GW.snoc (en := fun e => e.f) e h0 (List.mem_filter.2 ⟨mem_inL.2 ⟨he, rfl⟩, by simpa using hr⟩)
        have this : GW (inSrc n ts) (downL A R) (fun e => e.f) e.f (d0 + e.w) := this
        have e2 : e.f = _ := hf
        rw [e2] at this
        have := ih _ this
        rw [Int.add_assoc, Int.add_comm e.w] at this
        exact this
    have := key h 0 (.nil ht)
    rwa [Int.zero_add] at this
theorem up_rank {A : List Arc} {R : List Int} {a v d : Int} (h : UpW A R a v d) : v = a ∨ rankOf R a < rankOf R v := by
  induction h with
  | nil => exact .inl rfl
  | snoc e _ _ hf hr ih =>
    refine .inr ?_
    rcases ih with h | h
    · rw [← h, ← hf]; exact hr
    · rw [← hf] at h; omega
theorem down_rank {A : List Arc} {R : List Int} {v a d : Int} (h : DownW A R v a d) : v = a ∨ rankOf R a < rankOf R v := by
  induction h with
  | nil => exact .inl rfl
  | snoc e _ _ hf hr ih =>
    refine .inr ?_
    rcases ih with h | h
    · rw [h, ← hf]; exact hr
    · rw [← hf] at h; omega
end Go.Den

/-
  How far, by lowering again and again, over such arcs. No program in sight.
-/
namespace Go.Den
open Go

structure CInv (n : Nat) (src : Int → Prop) (nx : Int → List Arc) (en : Arc → Int) (ds : List Int) : Prop where
  len : ds.length = n
  srcs : ∀ v, src v → ds[v.toNat]? = some 0
  val : ∀ (v : Nat) (d : Int), ds[v]? = some d → d = -1 ∨ (0 ≤ d ∧ GW src nx en (v : Int) d ∧ d + BW ≤ met ds * BW)
section
variable {n : Nat} {src : Int → Prop} {nx : Int → List Arc} {en : Arc → Int} {ds : List Int}
theorem CInv.lower (h : CInv n src nx en ds) (hN : NxOk n src nx en) (hn : n ≤ 512) {v : Nat} {x y : Int} {e : Arc} (hx : ds[v]? = some x) (hx0 : 0 ≤ x) (he : e ∈ nx (v : Int)) (hy : ds[(en e).toNat]? = some y) (hlt : y < 0 ∨ x + e.w < y) :
    CInv n src nx en (ds.set (en e).toNat (x + e.w)) ∧ total (ds.set (en e).toNat (x + e.w)) < total ds := by
  obtain ⟨m1, m2, m3, m4⟩ := hN.arc _ e he
  have hmet := met_set (d := x + e.w) hy (by omega)
  obtain ⟨gx, bx⟩ : GW src nx en (v : Int) x ∧ x + BW ≤ met ds * BW := by
    rcases h.val _ _ hx with h1 | ⟨_, h2, h3⟩
    · omega
    · exact ⟨h2, h3⟩
  have htl : (en e).toNat < ds.length := by rw [h.len]; omega
  have et : (((en e).toNat : Nat) : Int) = en e := Int.toNat_of_nonneg m1
  have hw : GW src nx en (en e) (x + e.w) := .snoc e gx he
  have hnew : x + e.w + BW ≤ met (ds.set (en e).toNat (x + e.w)) * BW := by
    rw [hmet]
    rcases hlt with hlt | hlt
    · rw [if_pos hlt]; simp only [BW] at *; omega
    · rcases h.val _ _ hy with hy' | ⟨_, _, hy'⟩
      · rw [hy', if_pos (by omega)]; simp only [BW] at *; omega
      · rw [if_neg (by omega)]; simp only [BW] at *; omega
  refine ⟨⟨by rw [List.length_set]; exact h.len, fun u hu => ?_, fun u d hd => ?_⟩, ?_⟩
  · rw [List.getElem?_set]
    by_cases hat : (en e).toNat = u.toNat
    · have := h.srcs u hu
      rw [← hat, hy] at this
      cases this; omega
    · rw [if_neg hat]; exact h.srcs u hu
  · rw [List.getElem?_set] at hd
    by_cases hat : (en e).toNat = u
    · rw [if_pos hat, if_pos htl] at hd
      cases hd
      subst hat
      exact .inr ⟨by omega, by rw [et]; exact hw, hnew⟩
    · rw [if_neg hat] at hd
      refine (h.val u d hd).imp id fun ⟨g1, g2, g3⟩ => ⟨g1, g2, ?_⟩
      have : met ds ≤ met (ds.set (en e).toNat (x + e.w)) := by rw [hmet]; omega
      simp only [BW] at *; omega
  · have ht := total_set (d := x + e.w) hy
    have hm2 := met_le (ds.set (en e).toNat (x + e.w))
    rw [List.length_set, h.len] at hm2
    have hb : bulk (x + e.w) < bulk y := by
      unfold bulk
      rw [if_neg (by omega)]
      simp only [BW] at *
      split <;> omega
    omega
theorem CInv.done (h : CInv n src nx en ds) (hN : NxOk n src nx en) (hr : ∀ (v : Nat) (x y : Int) (e : Arc), ds[v]? = some x → 0 ≤ x → e ∈ nx (v : Int) → ds[(en e).toNat]? = some y → 0 ≤ y ∧ y ≤ x + e.w) : FarIs n (GW src nx en) ds := by
  have reach : ∀ {v d : Int}, GW src nx en v d → ∃ c, ds[v.toNat]? = some c ∧ 0 ≤ c ∧ c ≤ d := fun {v d} hw => by
    induction hw with
    | nil hs => exact ⟨0, h.srcs _ hs, Int.le_refl _, Int.le_refl _⟩
    | @snoc v d e hw he ih =>
      obtain ⟨c, h1, h2, h3⟩ := ih
      have hv := hw.rng hN
      have ev : ((v.toNat : Nat) : Int) = v := Int.toNat_of_nonneg hv.1
      obtain ⟨m1, m2, _⟩ := hN.arc _ e he
      have hy := List.getElem?_eq_getElem (show (en e).toNat < ds.length by rw [h.len]; omega)
      have := hr v.toNat c _ e h1 h2 (by rw [ev]; exact he) hy
      exact ⟨_, hy, this.1, by omega⟩
  refine ⟨h.len, fun v d hd => ?_⟩
  rcases h.val v d hd with h1 | ⟨h1, h2, _⟩
  · refine .inl ⟨h1, fun k hk => ?_⟩
    obtain ⟨c, g1, g2, _⟩ := reach hk
    rw [Int.toNat_natCast, hd] at g1; cases g1; omega
  · refine .inr ⟨h1, h2, fun k hk => ?_⟩
    obtain ⟨c, g1, _, g3⟩ := reach hk
    rw [Int.toNat_natCast, hd] at g1; cases g1; exact g3
end
end Go.Den

/-
  What is nearest, to some, by the levels, is so in the net. No program in sight.
-/
namespace Go.Den
open Go

theorem least_equiv {P P' : Int → Prop} {x : Int} (h : LeastIs P x) (h1 : ∀ d, P d → ∃ d', d' ≤ d ∧ P' d') (h2 : ∀ d, P' d → ∃ d', d' ≤ d ∧ P d') : LeastIs P' x := by
  rcases h with ⟨e, hn⟩ | ⟨h0, hx, hm⟩
  · refine .inl ⟨e, fun k hk => ?_⟩
    obtain ⟨d', _, hd⟩ := h2 k hk
    exact hn d' hd
  · obtain ⟨d', hle, hd⟩ := h1 x hx
    obtain ⟨d2, hle2, hd2⟩ := h2 d' hd
    have := hm d2 hd2
    have e : d' = x := by omega
    rw [e] at hd
    refine .inr ⟨h0, hd, fun k hk => ?_⟩
    obtain ⟨d3, hle3, hd3⟩ := h2 k hk
    have := hm d3 hd3
    omega
theorem LeastIs.or {P P' : Int → Prop} {b d : Int} (h : LeastIs P b) (h' : LeastIs P' d) : LeastIs (fun k => P k ∨ P' k) (if 0 ≤ d ∧ (b < 0 ∨ d < b) then d else b) := by
  rcases h with ⟨e, hn⟩ | ⟨h0, hx, hm⟩ <;> rcases h' with ⟨e', hn'⟩ | ⟨h0', hx', hm'⟩
  · rw [if_neg (by omega)]; exact .inl ⟨e, fun k hk => hk.elim (hn k) (hn' k)⟩
  · rw [if_pos (by omega)]; exact .inr ⟨h0', .inr hx', fun k hk => hk.elim (fun h => absurd h (hn k)) (hm' k)⟩
  · rw [if_neg (by omega)]; exact .inr ⟨h0, .inl hx, fun k hk => hk.elim (hm k) fun h => absurd h (hn' k)⟩
  · by_cases hlt : d < b
    · rw [if_pos ⟨h0', .inr hlt⟩]
      exact .inr ⟨h0', .inr hx', fun k hk => hk.elim (fun h => by have := hm k h; omega) (hm' k)⟩
    · rw [if_neg (by omega)]
      exact .inr ⟨h0, .inl hx, fun k hk => hk.elim (hm k) fun h => by have := hm' k h; omega⟩
theorem LeastIs.no {P : Int → Prop} (h : ∀ k, ¬ P k) : LeastIs P (-1) := .inl ⟨rfl, h⟩
theorem LeastIs.is {x : Int} (h : 0 ≤ x) : LeastIs (fun k => k = x) x := .inr ⟨h, rfl, fun k hk => by omega⟩
theorem DistIs.least {L : List Arc} {a v d : Int} (h : DistIs L a v d) : LeastIs (Walk L (-1) a v) d := h

section
variable {n : Nat} {L : List Arc} (hL : OkL n L) (hw : ∀ e ∈ L, e.w ≤ 20) (hn : n ≤ 30) {a : Int} (a0 : 0 ≤ a) (a1 : a < n)
include hL hw hn a0 a1
/-- To the nearest of some. -/
theorem udd_least {ts : List Int} {x : Int} : LeastIs (fun d => ∃ t, inSrc n ts t ∧ Walk L (-1) a t d) x →
    LeastIs (DP (GW (inSrc n [a]) (upL (bldN n L n).all (bldN n L n).rank) (fun e => e.t)) (GW (inSrc n ts) (downL (bldN n L n).all (bldN n L n).rank) (fun e => e.f))) x := by
  intro h
  refine least_equiv h (fun d ⟨t, ht, hd⟩ => ?_) (fun d ⟨m, u, v, hu, hv, e⟩ => ?_)
  · obtain ⟨m, d1, d2, h1, h2, h3⟩ := (ud_iff hL hw hn a0 a1 ht.2.1 ht.2.2).1 d hd
    exact ⟨d1 + d2, h3, m, d1, d2, (up_gw a0 a1).2 h1, down_gw.2 ⟨t, ht, h2⟩, rfl⟩
  · obtain ⟨t, ht, h2⟩ := down_gw.1 hv
    refine ⟨d, Int.le_refl _, t, ht, ?_⟩
    rw [e]
    exact (ud_iff hL hw hn a0 a1 ht.2.1 ht.2.2).2 m u v ((up_gw a0 a1).1 hu) h2
end
/-- To some is to one of them. -/
theorem gw_each {n : Nat} {A : List Arc} {R ts : List Int} {v d : Int} : GW (inSrc n ts) (downL A R) (fun e => e.f) v d ↔ ∃ t ∈ ts, GW (inSrc n [t]) (downL A R) (fun e => e.f) v d := by
  rw [down_gw]
  constructor
  · rintro ⟨t, ht, h⟩
    exact ⟨t, ht.1, down_gw.2 ⟨t, ⟨by simp, ht.2⟩, h⟩⟩
  · rintro ⟨t, ht, h⟩
    obtain ⟨t', ht', h'⟩ := down_gw.1 h
    have : t' = t := by simpa using ht'.1
    subst this
    exact ⟨t', ⟨ht, ht'.2⟩, h'⟩
theorem dp_each {n : Nat} {A : List Arc} {R ts : List Int} {P : Int → Int → Prop} {d : Int} : DP P (GW (inSrc n ts) (downL A R) (fun e => e.f)) d ↔ ∃ t ∈ ts, DP P (GW (inSrc n [t]) (downL A R) (fun e => e.f)) d := by
  constructor
  · rintro ⟨m, u, v, h1, h2, h3⟩
    obtain ⟨t, ht, h⟩ := gw_each.1 h2
    exact ⟨t, ht, m, u, v, h1, h, h3⟩
  · rintro ⟨t, ht, m, u, v, h1, h2, h3⟩
    exact ⟨m, u, v, h1, gw_each.2 ⟨t, ht, h2⟩, h3⟩
theorem dp_mono {n : Nat} {A : List Arc} {R ts ts' : List Int} {P : Int → Int → Prop} (hs : ∀ t ∈ ts, t ∈ ts') {d : Int} (h : DP P (GW (inSrc n ts) (downL A R) (fun e => e.f)) d) : DP P (GW (inSrc n ts') (downL A R) (fun e => e.f)) d := by
  obtain ⟨t, ht, h⟩ := dp_each.1 h
  exact dp_each.2 ⟨t, hs t ht, h⟩
theorem LeastIs.le {P P' : Int → Prop} {x y : Int} (h : LeastIs P x) (h' : LeastIs P' y) (hs : ∀ k, P k → P' k) (h0 : 0 ≤ x) : 0 ≤ y ∧ y ≤ x := by
  rcases h with ⟨e, _⟩ | ⟨_, hx, _⟩
  · omega
  · rcases h' with ⟨_, hn⟩ | ⟨h1, _, hm⟩
    · exact absurd (hs x hx) (hn x)
    · exact ⟨h1, hm x (hs x hx)⟩
end Go.Den

/-
  Arguments that are slices of structs or arrays of whole numbers.
-/
namespace Go.Den
open Go Go.ChangeShapes Go.WideShapes Go.ChangeAt Go.RowKit Go.Deep

/-- Is the cell 'i' of a type a whole number of 64 bits? -/
def leaf64 (P : Program) : Nat → TypeId → Nat → Bool
  | 0, _, _ => false
  | d + 1, t, i => match P.underlying t with
    | some (.int .i64) => Nat.beq i 0
    | some (.struct fs) => fs.toList.any fun f => Nat.ble f.offset i && Nat.blt i (f.offset + P.cellsOf f.type) && leaf64 P d f.type (i - f.offset)
    | some (.array n e) => Nat.blt 0 (P.cellsOf e) && Nat.blt (i / P.cellsOf e) n && leaf64 P d e (i % P.cellsOf e)
    | _ => false
def leaves64 (P : Program) (t : TypeId) (n : Nat) : Bool := allLt (fun i => leaf64 P 5 t i) n

theorem mapM_each {α β : Type} {f : α → Option β} : ∀ {l : List α} {ys : List β}, l.mapM f = some ys → ∀ x ∈ l, ∃ y, f x = some y
  | [], _, _, x, hx => by cases hx
  | a :: l, ys, h, x, hx => by
    simp only [List.mapM_cons, Option.bind_eq_bind, Option.pure_def] at h
    cases ha : f a with
    | none => simp [ha] at h
    | some y =>
      cases hl : l.mapM f with
      | none => simp [ha, hl] at h
      | some zs =>
        rcases List.mem_cons.1 hx with e | hx
        · subst e; exact ⟨y, ha⟩
        · exact mapM_each hl x hx

section
variable {H : Type} {enc : TypeId × Value → H} {P : Program} {w : World} {base : Nat} {spare : Nat → Bool} {held : Bool}

theorem leaf64_spec : ∀ (d : Nat) {fuel : Nat} {t : TypeId} {cs : List Value} {x : DataW H × List MemPlace} {i : Nat}, leaf64 P d t i = true → DataW.trod enc P w base spare held fuel t cs = some x → ∃ n : Int, cs[i]? = some (.int .i64 n)
  | 0, _, _, _, _, _, h, _ => by simp [leaf64] at h
  | d + 1, 0, _, _, _, _, _, hx => by simp [DataW.trod] at hx
  | d + 1, fuel + 1, t, cs, x, i, h, hx => by
    unfold leaf64 at h
    cases hu : P.underlying t with
    | none => rw [hu] at h; cases h
    | some u =>
      rw [hu] at h
      cases u
      case int k =>
        cases k <;> try (cases h; done)
        obtain ⟨n, hc, _, _⟩ := DataW.trod_int hu hx
        have hi : i = 0 := Nat.eq_of_beq_eq_true h
        subst hi
        exact ⟨n, by rw [hc]; rfl⟩
      case struct fs =>
        have hx' : (if cs.length = P.cellsOf t then (fs.toList.mapM fun f => DataW.trod enc P w base spare held fuel f.type ((cs.drop f.offset).take (P.cellsOf f.type))).map fun xs => (DataW.agg (xs.map (·.1)), xs.flatMap (·.2)) else none) = some x := by
          rw [← hx]
          conv => rhs; unfold DataW.trod; rw [hu]
        split at hx'
        · simp only [List.any_eq_true, Bool.and_eq_true] at h
          obtain ⟨f, hf, ⟨h1, h2⟩, h3⟩ := h
          cases hm : (fs.toList.mapM fun f => DataW.trod enc P w base spare held fuel f.type ((cs.drop f.offset).take (P.cellsOf f.type))) with
          | none => rw [hm] at hx'; cases hx'
          | some ys =>
            obtain ⟨y, hy⟩ := mapM_each hm f hf
            obtain ⟨n, hn⟩ := leaf64_spec d h3 hy
            have l1 : f.offset ≤ i := Nat.le_of_ble_eq_true h1
            have l2 : i < f.offset + P.cellsOf f.type := by simpa using h2
            rw [List.getElem?_take_of_lt (by omega), List.getElem?_drop, show f.offset + (i - f.offset) = i by omega] at hn
            exact ⟨n, hn⟩
        · cases hx'
      case array m e =>
        have hx' : (if cs.length = P.cellsOf t then ((List.range m).mapM fun i => DataW.trod enc P w base spare held fuel e ((cs.drop (i * P.cellsOf e)).take (P.cellsOf e))).map fun xs => (DataW.agg (xs.map (·.1)), xs.flatMap (·.2)) else none) = some x := by
          rw [← hx]
          conv => rhs; unfold DataW.trod; rw [hu]
        split at hx'
        · simp only [Bool.and_eq_true] at h
          obtain ⟨⟨h0, h1⟩, h3⟩ := h
          have l0 : 0 < P.cellsOf e := by simpa using h0
          have l1 : i / P.cellsOf e < m := by simpa using h1
          cases hm : ((List.range m).mapM fun i => DataW.trod enc P w base spare held fuel e ((cs.drop (i * P.cellsOf e)).take (P.cellsOf e))) with
          | none => rw [hm] at hx'; cases hx'
          | some ys =>
            obtain ⟨y, hy⟩ := mapM_each hm (i / P.cellsOf e) (List.mem_range.2 l1)
            obtain ⟨n, hn⟩ := leaf64_spec d h3 hy
            rw [List.getElem?_take_of_lt (Nat.mod_lt _ l0), List.getElem?_drop, Nat.div_add_mod'] at hn
            exact ⟨n, hn⟩
        · cases hx'
      all_goals cases h

/-- A slice whose elements are whole numbers all through. -/
theorem arg_rows {t e : TypeId} {m b : Nat} {v : Value} {d : DataW H} {ps : List MemPlace} (ht : P.underlying t = some (.slice e)) (hc : P.cellsOf e = m) (hlf : leaves64 P e m = true)
    (hval : Value.okWide P w .any b t v) (h : DataW.Trod enc P w 0 (fun _ => true) true t v d ps) :
    ∃ (s : Sl) (rows : List (List Int)), v = .slice s.b s.l s.c ∧ Rd w s m (fun r => r.map (Value.int .i64)) rows ∧ (∀ r ∈ rows, r.length = m) := by
  obtain ⟨a1, len, cap, rfl⟩ := okWide_slice ht hval
  obtain ⟨fuel, hf⟩ := h
  rcases open_slice ht hf with ⟨hcs, hx⟩ | ⟨a, len', cap', k, n, D, Pl, hcs, _, hl, hm, hk, _, hel⟩
  · simp [Value.cells] at hcs
    obtain ⟨rfl, rfl, rfl⟩ := hcs
    exact ⟨⟨none, 0, 0⟩, [], rfl, Rd.nil _ _ _, by simp⟩
  · simp [Value.cells] at hcs
    obtain ⟨rfl, rfl, rfl⟩ := hcs
    have hk' : k = cap := by simpa using hk
    have each : ∀ i, i < len → ∃ r : List Int, r.length = m ∧ HoldsAt w (a.add (i * m)) 0 (r.map (Value.int .i64)) := by
      intro i hi
      obtain ⟨cs, h1, h2⟩ := hel i (by omega)
      rw [hc] at h1
      obtain ⟨_, hlen, hcell⟩ := World.cells?_some h1
      have hints : ∀ j, j < m → ∃ n : Int, cs[j]? = some (.int .i64 n) := fun j hj => leaf64_spec 5 (allLt_spec hlf j hj) h2
      have conv : ∀ (cs : List Value), (∀ j, j < cs.length → ∃ n : Int, cs[j]? = some (.int .i64 n)) → ∃ r : List Int, cs = r.map (Value.int .i64) := by
        intro cs
        induction cs with
        | nil => intro _; exact ⟨[], rfl⟩
        | cons c cs ih =>
          intro hh
          obtain ⟨n, hn⟩ := hh 0 (by simp)
          simp at hn
          obtain ⟨r, hr⟩ := ih fun j hj => hh (j + 1) (by simpa using hj)
          exact ⟨n :: r, by rw [hn, hr]; rfl⟩
      obtain ⟨r, hr⟩ := conv cs fun j hj => hints j (by omega)
      refine ⟨r, by rw [← hlen, hr]; simp, ?_⟩
      rw [holds_iff]
      intro j v hj
      rw [← hr] at hj
      have hjm : j < m := by have := (List.getElem?_eq_some_iff.1 hj).1; omega
      rw [Nat.zero_add, hcell j hjm]; exact hj
    obtain ⟨rows, hlr, hrows⟩ : ∃ rows : List (List Int), rows.length = len ∧ ∀ i r, rows[i]? = some r → r.length = m ∧ HoldsAt w (a.add (i * m)) 0 (r.map (Value.int .i64)) := by
      have build : ∀ q, q ≤ len → ∃ rows : List (List Int), rows.length = q ∧ ∀ i r, rows[i]? = some r → r.length = m ∧ HoldsAt w (a.add (i * m)) 0 (r.map (Value.int .i64)) := by
        intro q
        induction q with
        | zero => intro _; exact ⟨[], rfl, by simp⟩
        | succ q ih =>
          intro hq
          obtain ⟨rows, h1, h2⟩ := ih (by omega)
          obtain ⟨r, h3, h4⟩ := each q (by omega)
          refine ⟨rows ++ [r], by simp [h1], fun i r' hi => ?_⟩
          by_cases hiq : i < rows.length
          · rw [List.getElem?_append_left hiq] at hi; exact h2 i r' hi
          · rw [List.getElem?_append_right (by omega)] at hi
            have : i - rows.length = 0 := by have := (List.getElem?_eq_some_iff.1 hi).1; simp at this; omega
            rw [this] at hi
            simp at hi
            subst hi
            have : i = q := by omega
            subst this
            exact ⟨h3, h4⟩
      exact build len (Nat.le_refl _)
    exact ⟨⟨some a, len, cap⟩, rows, rfl, ⟨hlr.symm, hl, fun i r hi => ⟨a, rfl, (hrows i r hi).2⟩⟩, fun r hr => by obtain ⟨i, hi⟩ := List.mem_iff_getElem?.1 hr; exact (hrows i r hi).1⟩
end

/-- The same rows, otherwise told. -/
theorem Rd.map {α β : Type} {w : World} {s : Sl} {n : Nat} {e : α → List Value} {e' : β → List Value} {xs : List α} (h : Rd w s n e xs) (f : α → β) (hf : ∀ x ∈ xs, e' (f x) = e x) : Rd w s n e' (xs.map f) := by
  refine ⟨by rw [List.length_map]; exact h.len, h.cap, fun i y hy => ?_⟩
  rw [List.getElem?_map] at hy
  cases hx : xs[i]? with
  | none => rw [hx] at hy; cases hy
  | some x =>
    rw [hx] at hy
    cases hy
    obtain ⟨a, ha, hh⟩ := h.get i x hx
    exact ⟨a, ha, by rw [hf x (List.mem_of_getElem? hx)]; exact hh⟩
end Go.Den

/-
  Arguments that are slices of bools.
-/
namespace Go.Den
open Go Go.ChangeShapes Go.WideShapes Go.ChangeAt Go.RowKit Go.Deep

section
variable {H : Type} {enc : TypeId × Value → H} {P : Program} {w : World}
theorem arg_bools {t e : TypeId} {b : Nat} {v : Value} {d : DataW H} {ps : List MemPlace} (ht : P.underlying t = some (.slice e)) (he : P.underlying e = some .bool) (hc : P.cellsOf e = 1)
    (hval : Value.okWide P w .any b t v) (h : DataW.Trod enc P w 0 (fun _ => true) true t v d ps) :
    ∃ (s : Sl) (bs : List Bool), v = .slice s.b s.l s.c ∧ Rd w s 1 (fun b => [Value.bool b]) bs := by
  obtain ⟨a1, len, cap, rfl⟩ := okWide_slice ht hval
  obtain ⟨fuel, hf⟩ := h
  rcases open_slice ht hf with ⟨hcs, hx⟩ | ⟨a, len', cap', k, n, D, Pl, hcs, _, hl, hm, hk, _, hel⟩
  · simp [Value.cells] at hcs
    obtain ⟨rfl, rfl, rfl⟩ := hcs
    exact ⟨⟨none, 0, 0⟩, [], rfl, Rd.nil _ _ _⟩
  · simp [Value.cells] at hcs
    obtain ⟨rfl, rfl, rfl⟩ := hcs
    have hk' : k = cap := by simpa using hk
    have each : ∀ i, i < len → ∃ r : Bool, HoldsAt w (a.add (i * 1)) 0 [Value.bool r] := by
      intro i hi
      obtain ⟨cs, h1, h2⟩ := hel i (by omega)
      rw [hc] at h1
      obtain ⟨_, hlen, hcell⟩ := World.cells?_some h1
      obtain ⟨r, hr, _⟩ := DataW.trod_bool he h2
      refine ⟨r, ?_⟩
      rw [holds_iff]
      intro j v hj
      rw [← hr] at hj
      have hjm : j < 1 := by have := (List.getElem?_eq_some_iff.1 hj).1; omega
      rw [Nat.zero_add, hcell j hjm]; exact hj
    have build : ∀ q, q ≤ len → ∃ rows : List Bool, rows.length = q ∧ ∀ i r, rows[i]? = some r → HoldsAt w (a.add (i * 1)) 0 [Value.bool r] := by
      intro q
      induction q with
      | zero => intro _; exact ⟨[], rfl, by simp⟩
      | succ q ih =>
        intro hq
        obtain ⟨rows, h1, h2⟩ := ih (by omega)
        obtain ⟨r, h4⟩ := each q (by omega)
        refine ⟨rows ++ [r], by simp [h1], fun i r' hi => ?_⟩
        by_cases hiq : i < rows.length
        · rw [List.getElem?_append_left hiq] at hi; exact h2 i r' hi
        · rw [List.getElem?_append_right (by omega)] at hi
          have : i - rows.length = 0 := by have := (List.getElem?_eq_some_iff.1 hi).1; simp at this; omega
          rw [this] at hi
          simp at hi
          subst hi
          have : i = q := by omega
          subst this
          exact h4
    obtain ⟨rows, hlr, hrows⟩ := build len (Nat.le_refl _)
    exact ⟨⟨some a, len, cap⟩, rows, rfl, ⟨hlr.symm, hl, fun i r hi => ⟨a, rfl, hrows i r hi⟩⟩⟩
end
end Go.Den
