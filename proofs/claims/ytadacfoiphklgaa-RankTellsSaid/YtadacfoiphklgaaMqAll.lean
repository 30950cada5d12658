/-
  The document's distances: All.
-/
import Derived.Test.YtadacfoiphklgaaFWit
import Derived.Test.YtadacfoiphklgaaMqMade
import Derived.Test.YtadacfoiphklgaaMpWit
namespace Go.Proofs.Ytadacfoiphklgaa
open Go Go.Den

theorem rAll_i {w : World} {g : Nat} {s : Sl} {n : Nat} {L : List Arc} {a : Int} {Q : Sl → World → Prop} (h : RNetIs w g s n L) (hl : L.length < 1099511627776)
    (hQ : ∀ s' w' ds, Vec w' tInt 1 eI s' ds → ds.length = n → (0 ≤ a → a < n → ∀ (v : Nat) (d : Int), ds[v]? = some d → DistIs L a (v : Int) d) → (¬ (0 ≤ a ∧ a < n) → ∀ (v : Nat) (d : Int), ds[v]? = some d → d = -1) → Keep w w' → (∀ b, s'.b = some b → w.heap.size ≤ b.block) → Q s' w') :
    F_ref4_Net_All (some ⟨g, 0, none⟩) a w Q := by
  unfold F_ref4_Net_All
  have hL := h.ok
  have hn := h.sz
  refine onSome_i rfl (ld1_i (k := .int .i64) (n : Int) h.c0 ?_)
  refine make_i elem_sInt (enc := eI) (0 : Int) rfl lenI (by omega) (Int.le_refl _) (by omega) (by omega) fun w1 v1 k1 => ?_
  simp only [Int.toNat_natCast] at v1 ⊢
  generalize hB : w.heap.size = B at *
  generalize hs1 : (⟨some ⟨B, 0, none⟩, n, n⟩ : Sl) = s1 at *
  have s1l : s1.l = n := by rw [← hs1]
  have s1b : s1.b = some ⟨B, 0, none⟩ := by rw [← hs1]
  have nB : ∀ k, rhas g s k → ¬ k = B := fun k hk e => by have := h.lt hk; omega
  have fresh : ∀ b, s1.b = some b → B ≤ b.block := fun b hb => by rw [s1b] at hb; cases hb; exact Nat.le_refl _
  -- one place is written
  have put : ∀ {wa : World} {ds : List Int} {i : Nat} {x : Int} {K : World → Prop}, Keep w wa → Vec wa tInt 1 eI s1 ds → i < ds.length → (∀ wb, Keep w wb → Vec wb tInt 1 eI s1 (ds.set i x) → K wb) → storeD Try.prog tInt ((⟨B, 0, none⟩ : Addr).add (i * 1)) (.int .i64 x) wa K := fun {wa ds i x K} k v hi hK => by
    refine v.store lenI s1b hi x (v := .int .i64 x) rfl size_Int (oneI x) fun wb vb mb _ => hK wb (k.fresh mb fun b e => by rw [show b = B from e]; omega) vb
  have get : ∀ {wa : World} {ds : List Int} {i : Nat} {x : Int}, Vec wa tInt 1 eI s1 ds → ds[i]? = some x → wa.cell? ((⟨B, 0, none⟩ : Addr).add (i * 1)) = some (.int .i64 x) := fun {wa ds i x} v hx => by
    obtain ⟨p, hp, hc⟩ := rd_cell (k := .int .i64) (e := fun x => x) (v.rd lenI) hx
    rw [s1b] at hp; cases hp; exact hc
  have wi : ∀ i : Nat, i < 1099511627776 → IntKind.wrap .i64 ((i : Int) + 1) = ((i + 1 : Nat) : Int) := fun i hi => by rw [w64 (by omega) (by omega)]; rfl
  refine loop_i (fun c t w2 => ∃ (i : Nat) (ds : List Int), i ≤ n ∧ c = n - i ∧ t = ((i : Int), ()) ∧ ds.length = n ∧ (∀ j, j < i → ds[j]? = some (-1)) ∧ Vec w2 tInt 1 eI s1 ds ∧ Keep w w2) n
    ⟨0, List.replicate n 0, Nat.zero_le _, rfl, rfl, by simp, fun j hj => by omega, v1, k1⟩ ?_
  rintro c t w2 ⟨i, ds, hi, rfl, rfl, dl, hds, v2, k2⟩ X hX
  dsimp only
  have h2 := h.keep k2
  refine onSome_i rfl (ld1_i (k := .int .i64) (n : Int) h2.c0 ?_)
  refine cond_d (fun hlt => ?_) (fun hge => ?_)
  · refine ⟨⟨by omega, hlt⟩, onSome_i rfl ?_⟩
    rw [Int.toNat_natCast]
    refine put k2 v2 (by omega) fun wb kb vb => ?_
    rw [wi i (by omega)]
    refine hX (n - (i + 1)) _ _ (by omega) ⟨i + 1, ds.set i (-1), by omega, rfl, rfl, by rw [List.length_set]; exact dl, fun j hj => ?_, vb, kb⟩
    rw [List.getElem?_set]
    by_cases e : i = j
    · rw [if_pos e, if_pos (by omega)]
    · rw [if_neg e]; exact hds j (by omega)
  · have e : i = n := by omega
    subst e
    have hrep : ds = List.replicate i (-1) := by
      apply List.ext_getElem?
      intro j
      rw [List.getElem?_replicate]
      by_cases hj : j < i
      · rw [if_pos hj]; exact hds j hj
      · rw [if_neg hj, List.getElem?_eq_none (by omega)]
    refine onSome_i rfl (ld1_i (k := .int .i64) (i : Int) h2.c0 ?_)
    rw [w64 (n := (i : Int) - 1) (by omega) (by omega)]
    refine within_i fun r hr => ?_
    refine cond_i (fun hb => ?_) (fun hb => ?_)
    · have hno : ¬ (0 ≤ a ∧ a < i) := fun h => by rw [hr.2 ⟨h.1, by omega⟩] at hb; cases hb
      exact hQ s1 w2 ds v2 dl (fun h0 h1 => absurd ⟨h0, h1⟩ hno) (fun _ v d hd => by
        rw [hrep, List.getElem?_replicate] at hd
        split at hd
        · cases hd; rfl
        · cases hd) k2 fresh
    · have hr' := hr.1 (by cases r <;> simp at hb ⊢)
      have ha : 0 ≤ a := hr'.1
      have ha' : a < i := by omega
      refine ⟨⟨ha, ha'⟩, onSome_i rfl ?_⟩
      refine put k2 v2 (by omega) fun w5 k5 v5 => ?_
      have b5 : BF i L a (ds.set a.toNat 0) := by rw [hrep]; exact BF.start ha ha'
      generalize ds.set a.toNat 0 = ds0 at *
      clear hds hrep v2 k2 h2 dl
      refine loop_i (fun c t w6 => ∃ (ag : Bool) (ds : List Int), t = (ag, ()) ∧ c = (if ag then total ds + 1 else 0) ∧ BF i L a ds ∧ Vec w6 tInt 1 eI s1 ds ∧ Keep w w6 ∧
          (ag = false → ∀ e ∈ L, ∀ x y, ds[e.f.toNat]? = some x → ds[e.t.toNat]? = some y → 0 ≤ x → 0 ≤ y ∧ y ≤ x + e.w)) (total ds0 + 1)
        ⟨true, ds0, rfl, rfl, b5, v5, k5, fun h => by cases h⟩ ?_
      rintro c t w6 ⟨ag, ds, rfl, rfl, b6, v6, k6, hfix⟩ Y hY
      dsimp only
      cases ag with
      | false =>
        refine cond_i (fun h => by cases h) (fun _ => ?_)
        exact hQ s1 w6 ds v6 b6.len (fun _ _ => b6.dist hL ha (hfix rfl)) (fun hno => absurd ⟨ha, ha'⟩ hno) k6 fresh
      | true =>
        refine cond_i (fun _ => ?_) (fun h => by cases h)
        simp only [if_true] at hY
        refine loop_i (fun c t w7 => ∃ (j : Nat) (ag : Bool) (ds' : List Int), j ≤ L.length ∧ c = L.length - j ∧ t = (ag, (j : Int), ()) ∧ BF i L a ds' ∧ Vec w7 tInt 1 eI s1 ds' ∧ Keep w w7 ∧ (ag = true → total ds' < total ds) ∧
            (ag = false → ds' = ds ∧ ∀ m e, m < j → L[m]? = some e → ∀ x y, ds[e.f.toNat]? = some x → ds[e.t.toNat]? = some y → 0 ≤ x → 0 ≤ y ∧ y ≤ x + e.w)) L.length
          ⟨0, false, ds, Nat.zero_le _, rfl, rfl, b6, v6, k6, (fun h => by cases h), fun _ => ⟨rfl, fun m e hm => by omega⟩⟩ ?_
        rintro c t w7 ⟨j, ag, ds', hj, rfl, rfl, b7, v7, k7, hag, hno⟩ Z hZ
        dsimp only
        have h7 := h.keep k7
        have hsl := h7.vec.len
        refine onSome_i rfl (ld1_i (k := .slice) s h7.c1 ?_)
        refine cond_d (fun hlt => ?_) (fun hge => ?_)
        · have hj' : j < L.length := by omega
          obtain ⟨p, hp, hh⟩ := rd_tup (h7.vec.rd lenA) (List.getElem?_eq_getElem hj')
          have hget : L[j]? = some L[j] := List.getElem?_eq_getElem hj'
          have heL := List.getElem_mem hj'
          generalize L[j] = e at *
          obtain ⟨ef0, ef1, et0, et1, _, ew0, ew1, _⟩ := hL.may e heL
          refine onSome_i rfl (ld1_i (k := .slice) s h7.c1 ⟨⟨by omega, by omega⟩, onSome_i hp (ldN_i (tupA e) hh ?_)⟩)
          simp only [allocD]
          have kA := Keep.alloc w7 (.cells #[Value.int .i64 0, Value.int .i64 0, Value.int .i64 0, Value.int .i64 0] 42)
          have oA : Own (w7.alloc (.cells #[Value.int .i64 0, Value.int .i64 0, Value.int .i64 0, Value.int .i64 0] 42)) w7.heap.size 42 (eArc ⟨0, 0, 0, 0⟩) := Own.alloc' w7 _ _
          generalize w7.alloc (.cells #[Value.int .i64 0, Value.int .i64 0, Value.int .i64 0, Value.int .i64 0] 42) = wA at *
          refine zero_store (x := e) oA rfl fun w9 o9 m9 => ?_
          have k9' : Keep w7 w9 := Mod.fresh kA m9 fun b hb => by omega
          have k9 : Keep w w9 := k7.tr k9'
          have v9 := v7.mod k9' fun _ _ => id
          generalize w7.heap.size = b9 at *
          have d9 : Keep w9 w9.drew := Mod.drew (Mod.refl _ w9)
          have dd9 : Keep w9.drew w9.drew.drew := Mod.drew (Mod.refl _ w9.drew)
          have oD := o9.mod d9 id
          have oDD := oD.mod dd9 id
          have vD := v9.mod d9 fun _ _ => id
          have vDD := vD.mod dd9 fun _ _ => id
          have c0 : w9.drew.cell? ((⟨b9, 0, none⟩ : Addr).add 0) = some (.int .i64 e.f) := by rw [addr_lit, oD.cell]; rfl
          have c1 : w9.drew.cell? ((⟨b9, 0, none⟩ : Addr).add 1) = some (.int .i64 e.t) := by rw [addr_lit, oD.cell]; rfl
          have c2 : w9.drew.cell? ((⟨b9, 0, none⟩ : Addr).add 2) = some (.int .i64 e.w) := by rw [addr_lit, oD.cell]; rfl
          have e0 : w9.drew.drew.cell? ((⟨b9, 0, none⟩ : Addr).add 0) = some (.int .i64 e.f) := by rw [addr_lit, oDD.cell]; rfl
          have e1 : w9.drew.drew.cell? ((⟨b9, 0, none⟩ : Addr).add 1) = some (.int .i64 e.t) := by rw [addr_lit, oDD.cell]; rfl
          have e2 : w9.drew.drew.cell? ((⟨b9, 0, none⟩ : Addr).add 2) = some (.int .i64 e.w) := by rw [addr_lit, oDD.cell]; rfl
          have dl := b7.len
          have hx : ds'[e.f.toNat]? = some ds'[e.f.toNat] := List.getElem?_eq_getElem (by omega)
          have hy : ds'[e.t.toNat]? = some ds'[e.t.toNat] := List.getElem?_eq_getElem (by omega)
          generalize ds'[e.f.toNat] = x at *
          generalize ds'[e.t.toNat] = y at *
          have xb : x < 1000000000000000 ∧ -2 < x := by
            have hml : met ds' ≤ i := b7.len ▸ met_le ds'
            rcases b7.walk _ _ hx with h1 | ⟨h1, _, h3⟩ <;> omega
          have bf : 0 ≤ e.f ∧ e.f < (i : Int) := ⟨ef0, ef1⟩
          have bt : 0 ≤ e.t ∧ e.t < (i : Int) := ⟨et0, et1⟩
          have go : ∀ w10, Keep w w10 → Vec w10 tInt 1 eI s1 (ds'.set e.t.toNat (x + e.w)) → 0 ≤ x → (y < 0 ∨ x + e.w < y) → Z (true, IntKind.wrap .i64 ((j : Int) + 1), ()) w10 := fun w10 k10 v10 hx0 hlt' => by
            obtain ⟨b10, t10⟩ := b7.lower hL hn heL hx hy hx0 hlt'
            rw [wi j (by omega)]
            refine hZ (L.length - (j + 1)) _ _ (by omega) ⟨j + 1, true, _, hj', rfl, rfl, b10, v10, k10, fun _ => ?_, fun h => by cases h⟩
            cases ag with
            | true => have := hag rfl; omega
            | false => rw [(hno rfl).1] at t10 ⊢; exact t10
          have stay : (0 ≤ x → 0 ≤ y ∧ y ≤ x + e.w) → Z (ag, IntKind.wrap .i64 ((j : Int) + 1), ()) w9.drew := fun hok => by
            rw [wi j (by omega)]
            refine hZ (L.length - (j + 1)) _ _ (by omega) ⟨j + 1, ag, ds', hj', rfl, rfl, b7, vD, k9.tr d9, hag, fun hf => ⟨(hno hf).1, fun m e' hm he' x' y' hx' hy' hx0 => ?_⟩⟩
            rcases Nat.lt_or_ge m j with h | h
            · exact (hno hf).2 m e' h he' x' y' hx' hy' hx0
            · have : m = j := by omega
              subst this
              rw [hget] at he'; cases he'
              rw [← (hno hf).1] at hx' hy'
              rw [hx] at hx'; rw [hy] at hy'
              cases hx'; cases hy'
              exact hok hx0
          refine ld1_i (k := .int .i64) e.f c0 ⟨bf, onSome_i rfl (ld1_i (k := .int .i64) x (get vD hx) ?_)⟩
          refine cond_d (fun hx0 => ?_) (fun hx0 => stay fun h => absurd h hx0)
          have hx0' : 0 ≤ x := hx0
          refine ld1_i (k := .int .i64) e.t c1 ⟨bt, onSome_i rfl (ld1_i (k := .int .i64) y (get vD hy) ?_)⟩
          have wxw : IntKind.wrap .i64 (x + e.w) = x + e.w := w64 (by omega) (by omega)
          refine cond_d (fun hy0 => ?_) (fun hy0 => ?_)
          · refine ld1_i (k := .int .i64) e.t e1 (ld1_i (k := .int .i64) e.f e0 ⟨bf, onSome_i rfl (ld1_i (k := .int .i64) x (get vDD hx) (ld1_i (k := .int .i64) e.w e2 ⟨bt, onSome_i rfl ?_⟩))⟩)
            rw [wxw]
            exact put ((k9.tr d9).tr dd9) vDD (by omega) fun w10 k10 v10 => go w10 k10 v10 hx0' (.inl hy0)
          · refine ld1_i (k := .int .i64) e.t c1 ⟨bt, onSome_i rfl (ld1_i (k := .int .i64) y (get vD hy) (ld1_i (k := .int .i64) e.f c0 ⟨bf, onSome_i rfl (ld1_i (k := .int .i64) x (get vD hx) (ld1_i (k := .int .i64) e.w c2 ?_))⟩))⟩
            rw [wxw]
            refine cond_d (fun hgt => ?_) (fun hle => stay fun _ => ?_)
            · refine ld1_i (k := .int .i64) e.t e1 (ld1_i (k := .int .i64) e.f e0 ⟨bf, onSome_i rfl (ld1_i (k := .int .i64) x (get vDD hx) (ld1_i (k := .int .i64) e.w e2 ⟨bt, onSome_i rfl ?_⟩))⟩)
              rw [wxw]
              exact put ((k9.tr d9).tr dd9) vDD (by omega) fun w10 k10 v10 => go w10 k10 v10 hx0' (.inr hgt)
            · have h1 : ¬ y < 0 := hy0
              have h2 : ¬ y > x + e.w := hle
              omega
        · have ej : j = L.length := by omega
          subst ej
          refine hY _ _ _ ?_ ⟨ag, ds', rfl, rfl, b7, v7, k7, fun hf e he x y hx hy hx0 => ?_⟩
          · cases ag with
            | true => have := hag rfl; simp only [if_true]; omega
            | false => simp
          · obtain ⟨m, hm⟩ := List.mem_iff_getElem?.1 he
            have := (List.getElem?_eq_some_iff.1 hm).1
            rw [(hno hf).1] at hx hy
            exact (hno hf).2 m e this hm x y hx hy hx0
end Go.Proofs.Ytadacfoiphklgaa
