/-
  The nets that the laws make: arcs by numbers.
-/
import Derived.Test.YtadacfoiphklgaaFL15
import Derived.Test.YtadacfoiphklgaaMqRNet2
namespace Go.Proofs.Ytadacfoiphklgaa
open Go Go.Den

abbrev eB (b : Bool) : List Value := [.bool b]
theorem lenB : ∀ b : Bool, (eB b).length = 1 := fun _ => rfl
theorem oneB : ∀ b : Bool, ∀ u ∈ eB b, u.oneCell' = true := by intro b u hu; simp at hu; subst hu; rfl
abbrev eI (n : Int) : List Value := [.int .i64 n]
theorem lenI : ∀ b : Int, (eI b).length = 1 := fun _ => rfl
theorem oneI : ∀ b : Int, ∀ u ∈ eI b, u.oneCell' = true := by intro b u hu; simp at hu; subst hu; rfl
theorem eI_ne (n : Int) : eI n ≠ [] := by simp
/-- One place of a row of single cells. -/
theorem rd_cell {α : Type} {w : World} {s : Sl} {k : CK} {e : α → k.T} {xs : List α} (h : Rd w s 1 (fun x => [k.enc (e x)]) xs) {i : Nat} {x : α} (hx : xs[i]? = some x) : ∃ a, s.b = some a ∧ w.cell? (a.add (i * 1)) = some (k.enc (e x)) := by
  obtain ⟨a, ha, hh⟩ := h.get i x hx
  exact ⟨a, ha, by have := hh.1; rwa [add_add, Nat.add_zero] at this⟩

abbrev R3 := Int × Int × Int
abbrev eR3 (r : R3) : List Value := [.int .i64 r.1, .int .i64 r.2.1, .int .i64 r.2.2]
theorem eR3_ne (r : R3) : eR3 r ≠ [] := by simp
def arcOf3 (n : Int) (r : R3) : List Arc := if r.1 % n = r.2.1 % n then [] else [⟨r.1 % n, r.2.1 % n, 1 + r.2.2 % 20, -1⟩]
def arcsOf (n : Int) (rows : List R3) : List Arc := if n ≤ 1 then [] else rows.flatMap (arcOf3 n)

theorem Round_i {k n : Int} {w : World} {Q : Int → World → Prop} (hn : 0 < n) (h63 : n ≤ 1000000) (hQ : Q (k % n) w) : F_alike_Round k n w Q := by
  unfold F_alike_Round
  have h1 := Int.emod_nonneg k (b := n) (by omega)
  have h2 := Int.emod_lt_of_pos k hn
  have h3 : k.tmod n = if 0 ≤ k then k % n else if k % n = 0 then 0 else k % n - n := by
    rw [Int.tmod_eq_emod]
    have hd : n ∣ k ↔ k % n = 0 := Int.dvd_iff_emod_eq_zero
    by_cases h0 : 0 ≤ k
    · simp [h0]
    · by_cases hz : k % n = 0
      · simp [h0, hz, hd]
      · have : ((n.natAbs : Nat) : Int) = n := by omega
        simp [h0, hz, hd, this]
  refine ⟨by omega, cond_d (fun h => ?_) (fun h => ?_)⟩
  · have e : k.tmod n + n = k % n := by rw [h3] at h ⊢; split at h <;> rename_i h0 <;> simp only [h0, if_true, if_false] at h ⊢ <;> (try split at h) <;> (try split) <;> omega
    rw [e, w64 (by omega) (by omega)]; exact hQ
  · have e : k.tmod n = k % n := by rw [h3] at h ⊢; split at h <;> rename_i h0 <;> simp only [h0, if_true, if_false] at h ⊢ <;> (try split at h) <;> (try split) <;> omega
    rw [e]; exact hQ

theorem arcOf3_len (n : Int) (r : R3) : (arcOf3 n r).length ≤ 1 := by unfold arcOf3; split <;> simp
theorem flat_arc_len (n : Int) : ∀ rows : List R3, (rows.flatMap (arcOf3 n)).length ≤ rows.length
  | [] => by simp
  | r :: rs => by
    have := flat_arc_len n rs
    have := arcOf3_len n r
    simp only [List.flatMap_cons, List.length_append, List.length_cons]; omega
theorem arcsOf_len (n : Int) (rows : List R3) : (arcsOf n rows).length ≤ rows.length := by
  unfold arcsOf; split
  · simp
  · exact flat_arc_len n rows
theorem arcsOf_may {n : Int} (hn : n ≤ 512) {rows : List R3} : ∀ a ∈ arcsOf n rows, mayA n.toNat a ∧ a.m = -1 := by
  unfold arcsOf
  split
  · simp
  · intro a ha
    obtain ⟨r, _, hr⟩ := List.mem_flatMap.1 ha
    unfold arcOf3 at hr
    split at hr
    · cases hr
    · simp at hr
      subst hr
      have h1 := Int.emod_nonneg r.1 (b := n) (by omega)
      have h2 := Int.emod_lt_of_pos r.1 (b := n) (by omega)
      have h3 := Int.emod_nonneg r.2.1 (b := n) (by omega)
      have h4 := Int.emod_lt_of_pos r.2.1 (b := n) (by omega)
      have h5 := Int.emod_nonneg r.2.2 (b := 20) (by omega)
      have h6 := Int.emod_lt_of_pos r.2.2 (b := 20) (by omega)
      refine ⟨⟨by simpa using h1, ?_, by simpa using h3, ?_, by simpa using ‹_›, by simp only; omega, by simp only; omega, .inl rfl⟩, rfl⟩ <;> simp only <;> omega
theorem cap_all {xs : List Arc} (h : xs.length < 1000000) (m i : Nat) : (putAll m [] (xs.take i)).length < 1099511627776 := by
  have key : ∀ (ys p : List Arc), (putAll m p ys).length ≤ p.length + ys.length := by
    intro ys
    induction ys with
    | nil => intro p; simp [putAll]
    | cons y ys ih =>
      intro p
      have h3 := ih (putL m p y).1
      have h4 : (putL m p y).1.length ≤ p.length + 1 := by
        have hins : (insL p y).length ≤ p.length + 1 := by
          unfold insL
          rw [List.length_append, List.length_cons]
          have hd : ∀ q : List Arc, (q.filter fun x => lexlt x y).length + (q.filter fun x => lexlt y x).length ≤ q.length := by
            intro q
            induction q with
            | nil => simp
            | cons z q ihq =>
              simp only [List.filter_cons]
              have hno : ¬ (lexlt z y = true ∧ lexlt y z = true) := by rw [lexlt_iff, lexlt_iff]; omega
              cases hz : lexlt z y <;> cases hz' : lexlt y z <;> simp_all <;> omega
          have := hd p
          omega
        unfold putL
        split
        · split
          · split
            · simp
            · exact hins
          · exact hins
        · simp
      show (putAll m (putL m p y).1 ys).length ≤ _
      simp only [List.length_cons]; omega
  have := key (xs.take i) []
  simp at this
  omega

theorem arcs_i {n : Int} {l : Sl} {rows : List R3} {W w : World} {Q : Sl → World → Prop} (hn : n ≤ 512) (hl : Rd W l 3 eR3 rows) (hlen : rows.length ≤ 1000) (hk : Keep W w)
    (hQ : ∀ s w', Vec w' tArc 4 eArc s (arcsOf n rows) → Keep w w' → (∀ b, s.b = some b → w.heap.size ≤ b.block) → Q s w') : F_law15_arcs n l w Q := by
  unfold F_law15_arcs
  have hll := hl.len
  refine loop_i (fun c t w2 => ∃ (i : Nat) (s : Sl), i ≤ rows.length ∧ c = rows.length - i ∧ t = (s, (i : Int), ()) ∧ (n ≤ 1 → i = 0) ∧ Vec w2 tArc 4 eArc s ((rows.take i).flatMap (arcOf3 n)) ∧ Keep w w2 ∧ (∀ b, s.b = some b → w.heap.size ≤ b.block)) rows.length
    ⟨0, _, Nat.zero_le _, rfl, rfl, fun _ => rfl, by simpa using Vec.nil _ _ _ _, Mod.refl _ _, fun b hb => by cases hb⟩ ?_
  rintro c t w2 ⟨i, s, hi, rfl, rfl, h0, hv, k2, hf⟩ X hX
  dsimp only
  refine cond_d (fun hlt => ?_) (fun hge => ?_)
  · refine cond_d (fun h1 => ?_) (fun h1 => ?_)
    · have hi' : i < rows.length := by omega
      have d2 : Keep w2 w2.drew := Mod.drew (Mod.refl _ w2)
      have kd : Keep w w2.drew := k2.tr d2
      obtain ⟨a, ha, hh⟩ := (hl.mod (hk.tr kd) eR3_ne (fun _ _ => id)).get i rows[i] (List.getElem?_eq_getElem hi')
      generalize hr : rows[i] = r at hh
      obtain ⟨x, y, z⟩ := r
      have g0 := hh.1
      have g1 := hh.2.1
      have g2 := hh.2.2.1
      simp only [Nat.zero_add] at g0 g1 g2
      have f1 : Int.toNat (0 : Int) * 1 = 0 := rfl
      have f2 : Int.toNat (1 : Int) * 1 = 1 := rfl
      have f3 : Int.toNat (2 : Int) * 1 = 2 := rfl
      simp only [Int.toNat_natCast, f1, f2, f3]
      refine ⟨⟨by omega, by omega⟩, onSome_i ha ⟨⟨by omega, by omega⟩, ld1_i (k := .int .i64) x g0 ?_⟩⟩
      refine ⟨⟨by omega, by omega⟩, onSome_i ha ⟨⟨by omega, by omega⟩, ld1_i (k := .int .i64) y g1 ?_⟩⟩
      refine Round_i (by omega) (by omega) ⟨g1, Round_i (by omega) (by omega) ?_⟩
      have tk : (rows.take (i + 1)).flatMap (arcOf3 n) = (rows.take i).flatMap (arcOf3 n) ++ arcOf3 n (x, y, z) := by
        rw [List.take_succ_eq_append_getElem hi', hr, List.flatMap_append]; simp
      rw [w64 (by omega) (by omega)]
      refine cond_i (fun hne => ?_) (fun heq => ?_)
      · refine ⟨⟨by omega, by omega⟩, onSome_i ha ⟨⟨by omega, by omega⟩, ld1_i (k := .int .i64) z g2 ?_⟩⟩
        refine Round_i (by omega) (by omega) ?_
        have h5 := Int.emod_nonneg z (b := 20) (by omega)
        have h6 := Int.emod_lt_of_pos z (b := 20) (by omega)
        rw [w64 (n := 1 + z % 20) (by omega) (by omega)]
        simp only [allocD]
        have hne' : x % n ≠ y % n := by simpa using hne
        have e3 : arcOf3 n (x, y, z) = [⟨x % n, y % n, 1 + z % 20, -1⟩] := by unfold arcOf3; rw [if_neg hne']
        have hlit := Vec.lit (w2.drew) tArc eArc lenA [(⟨x % n, y % n, 1 + z % 20, -1⟩ : Arc)] #[Value.int .i64 (x % n), Value.int .i64 (y % n), Value.int .i64 (1 + z % 20), Value.int .i64 (-1)] rfl (by simp [maxLen])
        have k3 := Keep.alloc w2.drew (.cells #[Value.int .i64 (x % n), Value.int .i64 (y % n), Value.int .i64 (1 + z % 20), Value.int .i64 (-1)] tArc)
        have hcap := flat_arc_len n (rows.take i)
        have hcap2 : (rows.take i).length ≤ 1000 := by simp; omega
        refine append_i elem_sArc lenA oneA (hv.mod (d2.tr k3) (fun _ _ => id)) (hlit.rd lenA) (by simp only [List.length_singleton]; omega) (by simp only [List.length_singleton]; omega) fun r w4 hv4 m4 f4 _ => ?_
        have k4 : Keep w w4 := Mod.fresh (kd.tr k3) m4 fun k ⟨b, hb, e⟩ => by subst e; exact hf b hb
        refine hX (rows.length - (i + 1)) _ _ (by omega) ⟨i + 1, r, hi', rfl, rfl, fun h => by omega, by rw [tk, e3]; exact hv4, k4, fun b hb => ?_⟩
        rcases f4 with e | ⟨a', e, hle⟩
        · exact hf b (e ▸ hb)
        · rw [e] at hb; cases hb
          exact Nat.le_trans (kd.tr k3).size hle
      · have heq' : x % n = y % n := by simpa using heq
        have e3 : arcOf3 n (x, y, z) = [] := by unfold arcOf3; rw [if_pos heq']
        exact hX (rows.length - (i + 1)) _ _ (by omega) ⟨i + 1, s, hi', rfl, rfl, fun h => by omega, by rw [tk, e3, List.append_nil]; exact hv.mod d2 (fun _ _ => id), kd, hf⟩
    · refine hQ s w2 ?_ k2 hf
      have : i = 0 := h0 (by omega)
      subst this
      have e : arcsOf n rows = [] := by unfold arcsOf; rw [if_pos (by omega)]
      rw [e]; simpa using hv
  · refine hQ s w2 ?_ k2 hf
    have e : i = rows.length := by omega
    subst e
    rw [List.take_length] at hv
    unfold arcsOf
    split
    · have : rows.length = 0 := h0 (by assumption)
      have : rows = [] := List.eq_nil_of_length_eq_zero this
      subst this; simpa using hv
    · exact hv

/-- The net that the arcs make. -/
abbrev netOf (n : Int) (rows : List R3) : List Arc := putAll n.toNat [] (arcsOf n rows)
theorem netOf_ok {n : Int} {rows : List R3} : OkL n.toNat (netOf n rows) := putAll_ok _ (OkL.nil _)

theorem made_i {n : Int} {l : Sl} {rows : List R3} {W : World} {Q : Option Addr → Option Addr → World → Prop} (h0 : 0 ≤ n) (hn : n ≤ 512) (hl : Rd W l 3 eR3 rows) (hlen : rows.length ≤ 1000)
    (hQ : ∀ w' N g s, NetIs w' N n.toNat (netOf n rows) → RNetIs w' g s n.toNat (netOf n rows) → (∀ k, N.has k → ¬ rhas g s k) → Keep W w' → (∀ k, N.has k → W.heap.size ≤ k) → (∀ k, rhas g s k → W.heap.size ≤ k) → Q (some ⟨N.g, 0, none⟩) (some ⟨g, 0, none⟩) w') : F_law15_made n l W Q := by
  unfold F_law15_made
  have hsz := arcsOf_len n rows
  refine arcs_i hn hl hlen (Mod.refl _ _) fun s1 w1 v1 k1 f1 => ?_
  refine New_i (v1.rd lenA) (by omega) (fun w2 _ hno => absurd ⟨h0, hn, fun a ha => (arcsOf_may hn a ha).1⟩ hno) fun w2 N _ _ _ hN k2 f2 => ?_
  refine cond_i (fun h => by simp at h) (fun _ => ?_)
  refine arcs_i hn hl hlen (k1.tr k2) fun s3 w3 v3 k3 f3 => ?_
  refine NewNet_i (v3.rd lenA) (by omega) (cap_all (by omega)) (fun w4 _ hno => absurd ⟨h0, hn, fun a ha => (arcsOf_may hn a ha).1⟩ hno) fun w4 g s' _ _ _ hR k4 f4 => ?_
  refine hQ w4 N g s' ((hN.keep k3).keep k4) hR (fun k hk hk' => ?_) (((k1.tr k2).tr k3).tr k4) (fun k hk => Nat.le_trans k1.size (f2 k hk)) (fun k hk => Nat.le_trans ((k1.tr k2).tr k3).size (f4 k hk))
  have := (hN.keep k3).at_.lt hk
  have := f4 k hk'
  omega
end Go.Proofs.Ytadacfoiphklgaa
