/-
  A new net, and a copy of one.
-/
import Derived.Test.YtadacfoiphklgaaMqNet2
namespace Go.Proofs.Ytadacfoiphklgaa
open Go Go.Den

abbrev eSl (s : Sl) : List Value := [sv s]
theorem own_of_vec {w : World} {e : TypeId} {g n : Nat} {xs : List Sl} (h : Vec w e 1 eSl ⟨some ⟨g, 0, none⟩, n, n⟩ xs) : Own w g e (xs.map sv) := by
  rcases h.own with ⟨h0, _⟩ | ⟨g', rest, hb, ho, hl⟩
  · cases h0
  · have : g' = g := by cases hb; rfl
    subst this
    have hlen := h.len
    have hf : xs.flatMap eSl = xs.map sv := by
      clear ho hl hb h hlen
      induction xs with
      | nil => rfl
      | cons x r ih => simp [List.flatMap_cons, ih]
    have hr : rest = [] := by
      rw [List.length_append, hf, List.length_map] at hl
      apply List.eq_nil_of_length_eq_zero
      have : n = xs.length := hlen
      simp only at hl
      omega
    rw [hr, List.append_nil, hf] at ho
    exact ho

theorem init_i {w : World} {n go gi : Nat} (hn : n ≤ 512) (h1 : Own w go tsArc ((List.replicate n (⟨none, 0, 0⟩ : Sl)).map sv)) (h2 : Own w gi tsArc ((List.replicate n (⟨none, 0, 0⟩ : Sl)).map sv)) (hne : go ≠ gi) :
    NetIs (w.alloc (.cells #[sv ⟨some ⟨go, 0, none⟩, n, n⟩, sv ⟨some ⟨gi, 0, none⟩, n, n⟩] tNet)) ⟨w.heap.size, go, gi, List.replicate (n + n) ⟨none, 0, 0⟩⟩ n [] := by
  have k := Keep.alloc w (.cells #[sv ⟨some ⟨go, 0, none⟩, n, n⟩, sv ⟨some ⟨gi, 0, none⟩, n, n⟩] tNet)
  have l1 := h1.lt
  have l2 := h2.lt
  have nil : ∀ (i : Nat) (s : Sl), (List.replicate (n + n) (⟨none, 0, 0⟩ : Sl))[i]? = some s → s = ⟨none, 0, 0⟩ := fun i s hs => by
    rw [List.getElem?_replicate] at hs
    split at hs
    · exact (Option.some.inj hs).symm
    · cases hs
  refine ⟨⟨Own.alloc' w _ _, ?_, ?_, by simp, ?_, ?_, ?_, ?_⟩, OkL.nil n, hn⟩
  · have : (List.replicate (n + n) (⟨none, 0, 0⟩ : Sl)).take n = List.replicate n ⟨none, 0, 0⟩ := by simp
    rw [this]; exact h1.mod k id
  · have : (List.replicate (n + n) (⟨none, 0, 0⟩ : Sl)).drop n = List.replicate n ⟨none, 0, 0⟩ := by simp
    rw [this]; exact h2.mod k id
  · intro i s hs
    rw [nil i s hs]
    have : rowsOf n [] i = [] := by simp [rowsOf, outL, inL]
    rw [this]; exact Vec.nil _ _ _ _
  · intro i s a hs ha; rw [nil i s hs] at ha; cases ha
  · intro i j s u a b hs _ ha _ _; rw [nil i s hs] at ha; cases ha
  · exact ⟨fun e : w.heap.size = go => by omega, fun e : w.heap.size = gi => by omega, hne⟩

theorem New_i {n : Int} {s : Sl} {xs : List Arc} {w : World} {Q : Option Addr → Int → World → Prop} (hr : Rd w s 4 eArc xs) (hlen : xs.length < 1099511627776)
    (hbad : ∀ w', Keep w w' → ¬ (0 ≤ n ∧ n ≤ 512 ∧ ∀ a ∈ xs, mayA n.toNat a) → Q none 1 w')
    (hok : ∀ w' N, 0 ≤ n → n ≤ 512 → (∀ a ∈ xs, mayA n.toNat a) → NetIs w' N n.toNat (putAll n.toNat [] xs) → Keep w w' → (∀ k, N.has k → w.heap.size ≤ k) → Q (some ⟨N.g, 0, none⟩) 0 w') : F_net_New n s w Q := by
  unfold F_net_New
  have hl := hr.len
  refine cond_d (fun h => hbad w (Mod.refl _ _) (by omega)) (fun h0 => ?_)
  refine cond_d (fun h => hbad w (Mod.refl _ _) (by omega)) (fun h1 => ?_)
  obtain ⟨m, rfl⟩ : ∃ m : Nat, n = (m : Int) := ⟨n.toNat, by omega⟩
  have hm : m ≤ 512 := by omega
  simp only [Int.toNat_natCast] at hbad hok
  intro J hJ
  have main : ∀ w1 N, NetIs w1 N m [] → Keep w w1 → (∀ k, N.has k → w.heap.size ≤ k) → J (some ⟨N.g, 0, none⟩, ()) w1 := by
    intro w1 N hN hk hfr
    apply hJ
    refine loop_i (fun c t w2 => ∃ (i : Nat) (N2 : NetS), i ≤ xs.length ∧ c = xs.length - i ∧ t = ((i : Int), ()) ∧ NetIs w2 N2 m (putAll m [] (xs.take i)) ∧ N2.g = N.g ∧ Keep w w2 ∧ (∀ k, N2.has k → w.heap.size ≤ k) ∧ (∀ a ∈ xs.take i, mayA m a)) xs.length
      ⟨0, N, Nat.zero_le _, rfl, rfl, by simpa [putAll] using hN, rfl, hk, hfr, by simp⟩ ?_
    rintro c t w2 ⟨i, N2, hi, rfl, rfl, hN2, hg, hk2, hfr2, hmay⟩ X hX
    dsimp only
    refine cond_d (fun hlt => ?_) (fun hge => ?_)
    · have hi' : i < xs.length := by omega
      refine ⟨⟨by omega, by omega⟩, ?_⟩
      obtain ⟨a, ha, hh⟩ := rd_tup (hr.mod hk2 eArc_ne (fun _ _ => id)) (List.getElem?_eq_getElem hi')
      refine onSome_i ha (ldN_i (tupA xs[i]) hh ?_)
      simp only [allocD]
      have k3 := Keep.alloc w2 (.cells #[Value.int .i64 0, Value.int .i64 0, Value.int .i64 0, Value.int .i64 0] 42)
      have o3 : Own (w2.alloc (.cells #[Value.int .i64 0, Value.int .i64 0, Value.int .i64 0, Value.int .i64 0] 42)) w2.heap.size 42 (eArc ⟨0, 0, 0, 0⟩) := Own.alloc' w2 _ 42
      generalize w2.alloc (.cells #[Value.int .i64 0, Value.int .i64 0, Value.int .i64 0, Value.int .i64 0] 42) = w3 at *
      refine zero_store o3 rfl fun w4 o4 m4 => ?_
      have k4 : Keep w2 w4 := Mod.fresh k3 m4 fun k hk => by omega
      have hN4 := hN2.keep k4
      refine ldN_i (tupA xs[i]) (own_all o4) ?_
      rw [← hg]
      refine may_i hN4.at_.head fun w5 r k5 hrm => ?_
      have hN5 := hN4.keep k5
      have o5 := o4.mod k5 id
      have k25 := k4.tr k5
      refine cond_i (fun hb => ?_) (fun hb => ?_)
      · refine hbad w5 (hk2.tr k25) fun ⟨_, _, hall⟩ => ?_
        rw [hrm.2 (hall _ (List.getElem_mem hi'))] at hb; cases hb
      · have hma : mayA m xs[i] := hrm.1 (by cases r <;> simp at hb ⊢)
        refine ldN_i (tupA xs[i]) (own_all o5) ?_
        refine Put_i hN5 fun w6 N6 hN6 hg6 m6 hf6 => ?_
        rw [w64 (by omega) (by omega)]
        refine hX (xs.length - (i + 1)) _ _ (by omega) ⟨i + 1, N6, hi', rfl, rfl, ?_, by rw [hg6, hg], Mod.fresh (hk2.tr k25) m6 hfr2, fun k hk => ?_, ?_⟩
        · rw [List.take_succ_eq_append_getElem hi', putAll_snoc]; exact hN6
        · rcases hf6 k hk with h | h
          · exact hfr2 k h
          · have := hk2.size; have := k25.size; omega
        · rw [List.take_succ_eq_append_getElem hi']
          intro x hx
          rcases List.mem_append.1 hx with hx | hx
          · exact hmay x hx
          · simp at hx; subst hx; exact hma
    · have hi' : i = xs.length := by omega
      subst hi'
      rw [List.take_length] at hN2 hmay
      rw [← hg]
      exact hok w2 N2 (by omega) (by omega) hmay hN2 hk2 hfr2
  have kd : Keep w w.drew := Mod.drew (Mod.refl _ w)
  have both : ∀ {K : World → Sl → Sl → Prop}, (∀ w8 g1 g2, Own w8 g1 tsArc ((List.replicate m (⟨none, 0, 0⟩ : Sl)).map sv) → Own w8 g2 tsArc ((List.replicate m (⟨none, 0, 0⟩ : Sl)).map sv) → g1 ≠ g2 → Keep w w8 → w.heap.size ≤ g1 → w.heap.size ≤ g2 → K w8 ⟨some ⟨g1, 0, none⟩, m, m⟩ ⟨some ⟨g2, 0, none⟩, m, m⟩) →
      makeSliceD Try.prog tssArc (.int .i64 (m : Int)) (.int .i64 (m : Int)) w.drew fun s1 w7 => makeSliceD Try.prog tssArc (.int .i64 (m : Int)) (.int .i64 (m : Int)) w7 fun s2 w8 => K w8 s1 s2 := by
    intro K hK
    refine make_i elem_ssArc (enc := eSl) ⟨none, 0, 0⟩ rfl (fun _ => rfl) (by omega) (Int.le_refl _) (by omega) (by omega) fun w7 hv7 k7 => ?_
    refine make_i elem_ssArc (enc := eSl) ⟨none, 0, 0⟩ rfl (fun _ => rfl) (by omega) (Int.le_refl _) (by omega) (by omega) fun w8 hv8 k8 => ?_
    have hv7' := hv7.mod k8 (fun _ _ => id)
    have hlt : w.drew.heap.size < w7.heap.size := hv7.lt rfl
    exact hK w8 _ _ (own_of_vec hv7') (own_of_vec hv8) (by omega) ((kd.tr k7).tr k8) (Nat.le_refl _) (Nat.le_trans kd.size k7.size)
  have fr : ∀ (w8 : World) (g1 g2 : Nat), w.heap.size ≤ g1 → w.heap.size ≤ g2 → Keep w w8 → ∀ k, (⟨w8.heap.size, g1, g2, List.replicate (m + m) ⟨none, 0, 0⟩⟩ : NetS).has k → w.heap.size ≤ k := by
    intro w8 g1 g2 h1 h2 hk k hh
    rcases hh with h | h | h | ⟨i, s, a, hs, ha, _⟩
    · rw [h]; exact hk.size
    · rw [h]; exact h1
    · rw [h]; exact h2
    · rw [List.getElem?_replicate] at hs
      split at hs
      · cases hs; cases ha
      · cases hs
  refine ⟨both fun w8 g1 g2 h1 h2 hne hk hg1 hg2 => ?_, both fun w8 g1 g2 h1 h2 hne hk hg1 hg2 => ?_⟩
  · exact main _ ⟨w8.heap.size, g1, g2, List.replicate (m + m) ⟨none, 0, 0⟩⟩ (init_i hm h1 h2 hne) (Mod.alloc hk _) (fr w8 g1 g2 hg1 hg2 hk)
  · exact main _ ⟨w8.heap.size, g2, g1, List.replicate (m + m) ⟨none, 0, 0⟩⟩ (init_i hm h2 h1 (Ne.symm hne)) (Mod.alloc hk _) (fr w8 g2 g1 hg2 hg1 hk)

end Go.Proofs.Ytadacfoiphklgaa
