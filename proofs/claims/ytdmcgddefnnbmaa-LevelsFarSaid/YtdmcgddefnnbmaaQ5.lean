/-
  Chapter 16's laws: what 'LevelsTell' computes is true.
-/
import Derived.Test.YtdmcgddefnnbmaaQ4
import Derived.Test.YtdmcgddefnnbmaaFWit
import Derived.Test.YtdmcgddefnnbmaaQ3
import Derived.Test.YtdmcgddefnnbmaaA3
import Derived.Test.YtdmcgddefnnbmaaQ1
namespace Go.Proofs.Ytdmcgddefnnbmaa
open Go Go.Den

theorem awake16_i {w : World} {Q : Bool → World → Prop} (hQ : ∀ w', Keep w w' → Q true w') : F_law16_awake w Q := by
  unfold F_law16_awake
  simp only [allocD]
  have k1 := Keep.alloc w (.cells #[Value.int .i64 (0 : Int), Value.int .i64 (1 : Int), Value.int .i64 (0 : Int), Value.int .i64 (1 : Int), Value.int .i64 (2 : Int), Value.int .i64 (0 : Int)] 55)
  refine built_i (by omega) (by omega) (rd_r3 (rows := [(0, 1, 0), (1, 2, 0)]) rfl 2 rfl (by omega)) (by simp) fun w2 H RH g s hH _ _ k2 _ => ?_
  have K2 := k1.tr k2
  have e1 : rankOf (bldN (3 : Int).toNat (netOf 3 [(0, 1, 0), (1, 2, 0)]) (3 : Int).toNat).rank 0 = 0 := by decide +kernel
  have e2 : rankOf (bldN (3 : Int).toNat (netOf 3 [(0, 1, 0), (1, 2, 0)]) (3 : Int).toNat).rank 5 = -1 := by decide +kernel
  have e3 : (upL (bldN (3 : Int).toNat (netOf 3 [(0, 1, 0), (1, 2, 0)]) (3 : Int).toNat).all (bldN (3 : Int).toNat (netOf 3 [(0, 1, 0), (1, 2, 0)]) (3 : Int).toNat).rank 0).length = 1 := by decide +kernel
  have e4 : 2 ≤ (bldN (3 : Int).toNat (netOf 3 [(0, 1, 0), (1, 2, 0)]) (3 : Int).toNat).all.length := by decide +kernel
  generalize (bldN (3 : Int).toNat (netOf 3 [(0, 1, 0), (1, 2, 0)]) (3 : Int).toNat).all = A at *
  generalize (bldN (3 : Int).toNat (netOf 3 [(0, 1, 0), (1, 2, 0)]) (3 : Int).toNat).rank = R at *
  refine cond_i (fun h => by simp at h) (fun _ => ?_)
  refine Rank_i hH ?_
  rw [e1]
  refine cond_i (fun _ => ?_) (fun h => by simp at h)
  refine Rank_i hH ?_
  rw [e2]
  refine cond_i (fun _ => ?_) (fun h => by simp at h)
  refine Up_i hH fun s1 w5 v5 k5 _ => ?_
  have l5 := v5.len
  refine cond_i (fun _ => ?_) (fun h => by rw [l5, e3] at h; simp at h)
  have h5 := hH.keep k5
  refine onSome_i rfl (ld1_i (k := .ptr) (some ⟨H.N.g, 0, none⟩) h5.c0 ?_)
  refine All_i h5.net (by have := h5.net.ok.len h5.net.sz; omega) fun s2 w6 v6 k6 _ => ?_
  have l6 := v6.len
  refine cond_d (fun _ => ?_) (fun h => by omega)
  refine Build_none ?_
  refine cond_i (fun _ => ?_) (fun h => by simp at h)
  refine Rank_none ?_
  refine cond_i (fun _ => ?_) (fun h => by simp at h)
  refine Up_none fun w9 k9 => ?_
  refine cond_i (fun _ => ?_) (fun h => by simp at h)
  refine Cuts_none ?_
  exact hQ w9 (((K2.tr k5).tr k6).tr k9)

theorem LevelsTell_i {n odd : Int} {l : Sl} {rows : List R3} {W : World} {Q : Bool → World → Prop} (hl : Rd W l 3 eR3 rows) (hQ : ∀ w', Keep W w' → Q true w') : F_law16_LevelsTell n l odd W Q := by
  unfold F_law16_LevelsTell
  have hll := hl.len
  refine cond_d (fun h => awake16_i hQ) (fun h1 => ?_)
  refine cond_d (fun h => awake16_i hQ) (fun h2 => ?_)
  refine cond_d (fun h => awake16_i hQ) (fun h3 => ?_)
  refine built_i (by omega) (by omega) hl (by omega) fun w4 H RH g s hH hRH hR k4 fH => ?_
  refine cond_i (fun h => by simp at h) (fun _ => ?_)
  refine made_i (by omega) (by omega) (hl.mod k4 eR3_ne fun _ _ => id) (by omega) fun w5 N g5 s5 hN _ _ k5 _ _ => ?_
  have hwt := fun e he => (netOf_w (n := n) (rows := rows) e he).1
  generalize netOf n rows = L at *
  obtain ⟨m, rfl⟩ : ∃ m : Nat, n = (m : Int) := ⟨n.toNat, by omega⟩
  simp only [Int.toNat_natCast] at *
  have hLl := hN.ok.len hN.sz
  have hAl := hH.net.ok.len hH.net.sz
  have hm512 := hN.sz
  generalize hA : (bldN m L m).all = A at *
  generalize hRk : (bldN m L m).rank = R at *
  refine cond_i (fun h => by simp at h) (fun _ => ?_)
  have d5 : Keep w5 w5.drew := Mod.drew (Mod.refl _ w5)
  have K5 := k5.tr d5
  refine Build_i (hN.keep d5) (by omega) hwt fun w6 H6 _ k6 _ => ?_
  refine cond_i (fun h => by simp at h) (fun _ => ?_)
  have K46 := K5.tr k6
  have hR6 := hR.keep K46
  refine onSome_i rfl (ld1_i (k := .slice) s hR6.c1 ?_)
  refine All_i ((hN.keep d5).keep k6) (by omega) fun s2 w7 v7 k7 _ => ?_
  have hR7 := hR6.keep k7
  refine ⟨hR7.c1, ?_⟩
  refine ArcsSame_i (v7.rd lenA) (hR7.vec.rd lenA) (by omega) fun r w8 k8 hr => ?_
  refine cond_i (fun hb => by rw [hr.2 rfl] at hb; cases hb) (fun _ => ?_)
  have K48 := (K46.tr k7).tr k8
  have h8 := hH.keep K48
  have r8 := hRH.keep K48
  have K8 := k4.tr K48
  refine loop_i (fun c t w9 => ∃ (i : Nat), i ≤ m ∧ c = m - i ∧ t = ((i : Int), ()) ∧ Keep w8 w9) m ⟨0, Nat.zero_le _, rfl, rfl, Mod.refl _ _⟩ ?_
  rintro c t w9 ⟨i, hi, rfl, rfl, k9⟩ X hX
  dsimp only
  have h9 := h8.keep k9
  have r9 := r8.keep k9
  refine cond_d (fun hlt => ?_) (fun hge => ?_)
  · have hi' : i < m := by omega
    have ul : (upL A R (i : Int)).length < 1099511627776 := by
      have h1 : (upL A R (i : Int)).length ≤ (outL A (i : Int)).length := List.length_filter_le _ _
      have h2 := hH.net.ok.out_len (i : Int)
      omega
    have dl : (downL A R (i : Int)).length < 1099511627776 := by
      have h1 : (downL A R (i : Int)).length ≤ (inL A (i : Int)).length := List.length_filter_le _ _
      have h2 := hH.net.ok.in_len (i : Int)
      omega
    refine Rank_i h9 (rRank_i r9 ?_)
    refine cond_i (fun h => by simp at h) (fun _ => ?_)
    refine Up_i h9 fun s3 w12 v12 k12 _ => ?_
    refine rUp_i (r9.keep k12) (by omega) (by omega) fun s4 w13 v13 k13 _ => ?_
    refine ArcsSame_i ((v12.mod k13 fun _ _ => id).rd lenA) (v13.rd lenA) ul fun r w14 k14 hr => ?_
    refine cond_i (fun hb => by rw [hr.2 rfl] at hb; cases hb) (fun _ => ?_)
    have K14 := (k12.tr k13).tr k14
    refine Down_i (h9.keep K14) fun s5 w15 v15 k15 _ => ?_
    refine rDown_i ((r9.keep K14).keep k15) (by omega) (by omega) fun s6 w16 v16 k16 _ => ?_
    refine ArcsSame_i ((v15.mod k16 fun _ _ => id).rd lenA) (v16.rd lenA) dl fun r w17 k17 hr => ?_
    refine cond_i (fun hb => by rw [hr.2 rfl] at hb; cases hb) (fun _ => ?_)
    rw [wi_ i (by omega)]
    exact hX _ _ _ (by omega) ⟨i + 1, hi', rfl, rfl, (((k9.tr K14).tr k15).tr k16).tr k17⟩
  · have d9 : Keep w9 w9.drew := Mod.drew (Mod.refl _ w9)
    have hd := h9.keep d9
    have rd := r9.keep d9
    refine onSome_i rfl (ld1_i (k := .ptr) (some ⟨H.N.g, 0, none⟩) hd.c0 (onSome_i rfl (ld1_i (k := .ptr) (some ⟨RH.g, 0, none⟩) rd.c0 (onSome_i rfl (ld1_i (k := .slice) RH.s rd.net.c1 ?_)))))
    refine All_i hd.net (by omega) fun s8 w18 v18 k18 _ => ?_
    have r18 := rd.keep k18
    refine ⟨r18.net.c1, r18.c0, ?_⟩
    refine ArcsSame_i (v18.rd lenA) (r18.net.vec.rd lenA) (by omega) fun r w19 k19 hr => ?_
    refine cond_i (fun _ => ?_) (fun hb => by rw [hr.2 rfl] at hb; cases hb)
    have h19 := (hd.keep k18).keep k19
    have r19 := r18.keep k19
    refine Cuts_i h19 fun w20 k20 => ?_
    have r20 := r19.keep k20
    refine rCuts_i r20 ?_
    refine cond_i (fun _ => ?_) (fun h => by simp at h)
    have h20 := h19.keep k20
    refine Rank_i h20 (rRank_i r20 ?_)
    refine cond_i (fun _ => ?_) (fun h => by simp at h)
    refine onSome_i rfl (ld1_i (k := .ptr) (some ⟨H.N.g, 0, none⟩) h20.c0 (Len_i h20.net ?_))
    refine cond_i (fun _ => ?_) (fun h => by simp at h)
    exact awake16_i fun w' k' => hQ w' ((((((K8.tr k9).tr d9).tr k18).tr k19).tr k20).tr k')
end Go.Proofs.Ytdmcgddefnnbmaa

/-
  The document's distances: All.
-/
namespace Go.Proofs.Ytdmcgddefnnbmaa
open Go Go.Den

theorem rAll_i {w : World} {g : Nat} {s : Sl} {n : Nat} {L : List Arc} {a : Int} {Q : Sl → World → Prop} (h : RNetIs w g s n L) (hl : L.length < 1099511627776)
    (hQ : ∀ s' w' ds, Vec w' tInt 1 eI s' ds → ds.length = n → (0 ≤ a → a < n → ∀ (v : Nat) (d : Int), ds[v]? = some d → DistIs L a (v : Int) d) → (¬ (0 ≤ a ∧ a < n) → ∀ (v : Nat) (d : Int), ds[v]? = some d → d = -1) → Keep w w' → (∀ b, s'.b = some b → w.heap.size ≤ b.block) → Q s' w') :
    F_ref4_Net_All (some ⟨g, 0, none⟩) a w Q := by
  unfold F_ref4_Net_All
  have hL := h.ok
  have hn := h.sz
  refine onSome_i rfl (ld1_i (k := .int .i64) (n : Int) h.c0 ?_)
  refine make_i elem_sInt (enc := eI) (0 : Int) rfl lenI (by omega) (Int.le_refl _) (by omega) (by omega) fun w1 v1 k1 => ?_
  simp only [Int.toNat_natCast] at v1 ⊢
  generalize hB : w.heap.size = B at *
  generalize hs1 : (⟨some ⟨B, 0, none⟩, n, n⟩ : Sl) = s1 at *
  have s1l : s1.l = n := by rw [← hs1]
  have s1b : s1.b = some ⟨B, 0, none⟩ := by rw [← hs1]
  have nB : ∀ k, rhas g s k → ¬ k = B := fun k hk e => by have := h.lt hk; omega
  have fresh : ∀ b, s1.b = some b → B ≤ b.block := fun b hb => by rw [s1b] at hb; cases hb; exact Nat.le_refl _
  -- one place is written
  have put : ∀ {wa : World} {ds : List Int} {i : Nat} {x : Int} {K : World → Prop}, Keep w wa → Vec wa tInt 1 eI s1 ds → i < ds.length → (∀ wb, Keep w wb → Vec wb tInt 1 eI s1 (ds.set i x) → K wb) → storeD Try.prog tInt ((⟨B, 0, none⟩ : Addr).add (i * 1)) (.int .i64 x) wa K := fun {wa ds i x K} k v hi hK => by
    refine v.store lenI s1b hi x (v := .int .i64 x) rfl size_Int (oneI x) fun wb vb mb _ => hK wb (k.fresh mb fun b e => by rw [show b = B from e]; omega) vb
  have get : ∀ {wa : World} {ds : List Int} {i : Nat} {x : Int}, Vec wa tInt 1 eI s1 ds → ds[i]? = some x → wa.cell? ((⟨B, 0, none⟩ : Addr).add (i * 1)) = some (.int .i64 x) := fun {wa ds i x} v hx => by
    obtain ⟨p, hp, hc⟩ := rd_cell (k := .int .i64) (e := fun x => x) (v.rd lenI) hx
    rw [s1b] at hp; cases hp; exact hc
  have wi : ∀ i : Nat, i < 1099511627776 → IntKind.wrap .i64 ((i : Int) + 1) = ((i + 1 : Nat) : Int) := fun i hi => by rw [w64 (by omega) (by omega)]; rfl
  refine loop_i (fun c t w2 => ∃ (i : Nat) (ds : List Int), i ≤ n ∧ c = n - i ∧ t = ((i : Int), ()) ∧ ds.length = n ∧ (∀ j, j < i → ds[j]? = some (-1)) ∧ Vec w2 tInt 1 eI s1 ds ∧ Keep w w2) n
    ⟨0, List.replicate n 0, Nat.zero_le _, rfl, rfl, by simp, fun j hj => by omega, v1, k1⟩ ?_
  rintro c t w2 ⟨i, ds, hi, rfl, rfl, dl, hds, v2, k2⟩ X hX
  dsimp only
  have h2 := h.keep k2
  refine onSome_i rfl (ld1_i (k := .int .i64) (n : Int) h2.c0 ?_)
  refine cond_d (fun hlt => ?_) (fun hge => ?_)
  · refine ⟨⟨by omega, hlt⟩, onSome_i rfl ?_⟩
    rw [Int.toNat_natCast]
    refine put k2 v2 (by omega) fun wb kb vb => ?_
    rw [wi i (by omega)]
    refine hX (n - (i + 1)) _ _ (by omega) ⟨i + 1, ds.set i (-1), by omega, rfl, rfl, by rw [List.length_set]; exact dl, fun j hj => ?_, vb, kb⟩
    rw [List.getElem?_set]
    by_cases e : i = j
    · rw [if_pos e, if_pos (by omega)]
    · rw [if_neg e]; exact hds j (by omega)
  · have e : i = n := by omega
    subst e
    have hrep : ds = List.replicate i (-1) := by
      apply List.ext_getElem?
      intro j
      rw [List.getElem?_replicate]
      by_cases hj : j < i
      · rw [if_pos hj]; exact hds j hj
      · rw [if_neg hj, List.getElem?_eq_none (by omega)]
    refine onSome_i rfl (ld1_i (k := .int .i64) (i : Int) h2.c0 ?_)
    rw [w64 (n := (i : Int) - 1) (by omega) (by omega)]
    refine within_i fun r hr => ?_
    refine cond_i (fun hb => ?_) (fun hb => ?_)
    · have hno : ¬ (0 ≤ a ∧ a < i) := fun h => by rw [hr.2 ⟨h.1, by omega⟩] at hb; cases hb
      exact hQ s1 w2 ds v2 dl (fun h0 h1 => absurd ⟨h0, h1⟩ hno) (fun _ v d hd => by
        rw [hrep, List.getElem?_replicate] at hd
        split at hd
        · cases hd; rfl
        · cases hd) k2 fresh
    · have hr' := hr.1 (by cases r <;> simp at hb ⊢)
      have ha : 0 ≤ a := hr'.1
      have ha' : a < i := by omega
      refine ⟨⟨ha, ha'⟩, onSome_i rfl ?_⟩
      refine put k2 v2 (by omega) fun w5 k5 v5 => ?_
      have b5 : BF i L a (ds.set a.toNat 0) := by rw [hrep]; exact BF.start ha ha'
      generalize ds.set a.toNat 0 = ds0 at *
      clear hds hrep v2 k2 h2 dl
      refine loop_i (fun c t w6 => ∃ (ag : Bool) (ds : List Int), t = (ag, ()) ∧ c = (if ag then total ds + 1 else 0) ∧ BF i L a ds ∧ Vec w6 tInt 1 eI s1 ds ∧ Keep w w6 ∧
          (ag = false → ∀ e ∈ L, ∀ x y, ds[e.f.toNat]? = some x → ds[e.t.toNat]? = some y → 0 ≤ x → 0 ≤ y ∧ y ≤ x + e.w)) (total ds0 + 1)
        ⟨true, ds0, rfl, rfl, b5, v5, k5, fun h => by cases h⟩ ?_
      rintro c t w6 ⟨ag, ds, rfl, rfl, b6, v6, k6, hfix⟩ Y hY
      dsimp only
      cases ag with
      | false =>
        refine cond_i (fun h => by cases h) (fun _ => ?_)
        exact hQ s1 w6 ds v6 b6.len (fun _ _ => b6.dist hL ha (hfix rfl)) (fun hno => absurd ⟨ha, ha'⟩ hno) k6 fresh
      | true =>
        refine cond_i (fun _ => ?_) (fun h => by cases h)
        simp only [if_true] at hY
        refine loop_i (fun c t w7 => ∃ (j : Nat) (ag : Bool) (ds' : List Int), j ≤ L.length ∧ c = L.length - j ∧ t = (ag, (j : Int), ()) ∧ BF i L a ds' ∧ Vec w7 tInt 1 eI s1 ds' ∧ Keep w w7 ∧ (ag = true → total ds' < total ds) ∧
            (ag = false → ds' = ds ∧ ∀ m e, m < j → L[m]? = some e → ∀ x y, ds[e.f.toNat]? = some x → ds[e.t.toNat]? = some y → 0 ≤ x → 0 ≤ y ∧ y ≤ x + e.w)) L.length
          ⟨0, false, ds, Nat.zero_le _, rfl, rfl, b6, v6, k6, (fun h => by cases h), fun _ => ⟨rfl, fun m e hm => by omega⟩⟩ ?_
        rintro c t w7 ⟨j, ag, ds', hj, rfl, rfl, b7, v7, k7, hag, hno⟩ Z hZ
        dsimp only
        have h7 := h.keep k7
        have hsl := h7.vec.len
        refine onSome_i rfl (ld1_i (k := .slice) s h7.c1 ?_)
        refine cond_d (fun hlt => ?_) (fun hge => ?_)
        · have hj' : j < L.length := by omega
          obtain ⟨p, hp, hh⟩ := rd_tup (h7.vec.rd lenA) (List.getElem?_eq_getElem hj')
          have hget : L[j]? = some L[j] := List.getElem?_eq_getElem hj'
          have heL := List.getElem_mem hj'
          generalize L[j] = e at *
          obtain ⟨ef0, ef1, et0, et1, _, ew0, ew1, _⟩ := hL.may e heL
          refine onSome_i rfl (ld1_i (k := .slice) s h7.c1 ⟨⟨by omega, by omega⟩, onSome_i hp (ldN_i (tupA e) hh ?_)⟩)
          simp only [allocD]
          have kA := Keep.alloc w7 (.cells #[Value.int .i64 0, Value.int .i64 0, Value.int .i64 0, Value.int .i64 0] 49)
          have oA : Own (w7.alloc (.cells #[Value.int .i64 0, Value.int .i64 0, Value.int .i64 0, Value.int .i64 0] 49)) w7.heap.size 49 (eArc ⟨0, 0, 0, 0⟩) := Own.alloc' w7 _ _
          generalize w7.alloc (.cells #[Value.int .i64 0, Value.int .i64 0, Value.int .i64 0, Value.int .i64 0] 49) = wA at *
          refine zero_store (x := e) oA rfl fun w9 o9 m9 => ?_
          have k9' : Keep w7 w9 := Mod.fresh kA m9 fun b hb => by omega
          have k9 : Keep w w9 := k7.tr k9'
          have v9 := v7.mod k9' fun _ _ => id
          generalize w7.heap.size = b9 at *
          have d9 : Keep w9 w9.drew := Mod.drew (Mod.refl _ w9)
          have dd9 : Keep w9.drew w9.drew.drew := Mod.drew (Mod.refl _ w9.drew)
          have oD := o9.mod d9 id
          have oDD := oD.mod dd9 id
          have vD := v9.mod d9 fun _ _ => id
          have vDD := vD.mod dd9 fun _ _ => id
          have c0 : w9.drew.cell? ((⟨b9, 0, none⟩ : Addr).add 0) = some (.int .i64 e.f) := by rw [addr_lit, oD.cell]; rfl
          have c1 : w9.drew.cell? ((⟨b9, 0, none⟩ : Addr).add 1) = some (.int .i64 e.t) := by rw [addr_lit, oD.cell]; rfl
          have c2 : w9.drew.cell? ((⟨b9, 0, none⟩ : Addr).add 2) = some (.int .i64 e.w) := by rw [addr_lit, oD.cell]; rfl
          have e0 : w9.drew.drew.cell? ((⟨b9, 0, none⟩ : Addr).add 0) = some (.int .i64 e.f) := by rw [addr_lit, oDD.cell]; rfl
          have e1 : w9.drew.drew.cell? ((⟨b9, 0, none⟩ : Addr).add 1) = some (.int .i64 e.t) := by rw [addr_lit, oDD.cell]; rfl
          have e2 : w9.drew.drew.cell? ((⟨b9, 0, none⟩ : Addr).add 2) = some (.int .i64 e.w) := by rw [addr_lit, oDD.cell]; rfl
          have dl := b7.len
          have hx : ds'[e.f.toNat]? = some ds'[e.f.toNat] := List.getElem?_eq_getElem (by omega)
          have hy : ds'[e.t.toNat]? = some ds'[e.t.toNat] := List.getElem?_eq_getElem (by omega)
          generalize ds'[e.f.toNat] = x at *
          generalize ds'[e.t.toNat] = y at *
          have xb : x < 1000000000000000 ∧ -2 < x := by
            have hml : met ds' ≤ i := b7.len ▸ met_le ds'
            rcases b7.walk _ _ hx with h1 | ⟨h1, _, h3⟩ <;> omega
          have bf : 0 ≤ e.f ∧ e.f < (i : Int) := ⟨ef0, ef1⟩
          have bt : 0 ≤ e.t ∧ e.t < (i : Int) := ⟨et0, et1⟩
          have go : ∀ w10, Keep w w10 → Vec w10 tInt 1 eI s1 (ds'.set e.t.toNat (x + e.w)) → 0 ≤ x → (y < 0 ∨ x + e.w < y) → Z (true, IntKind.wrap .i64 ((j : Int) + 1), ()) w10 := fun w10 k10 v10 hx0 hlt' => by
            obtain ⟨b10, t10⟩ := b7.lower hL hn heL hx hy hx0 hlt'
            rw [wi j (by omega)]
            refine hZ (L.length - (j + 1)) _ _ (by omega) ⟨j + 1, true, _, hj', rfl, rfl, b10, v10, k10, fun _ => ?_, fun h => by cases h⟩
            cases ag with
            | true => have := hag rfl; omega
            | false => rw [(hno rfl).1] at t10 ⊢; exact t10
          have stay : (0 ≤ x → 0 ≤ y ∧ y ≤ x + e.w) → Z (ag, IntKind.wrap .i64 ((j : Int) + 1), ()) w9.drew := fun hok => by
            rw [wi j (by omega)]
            refine hZ (L.length - (j + 1)) _ _ (by omega) ⟨j + 1, ag, ds', hj', rfl, rfl, b7, vD, k9.tr d9, hag, fun hf => ⟨(hno hf).1, fun m e' hm he' x' y' hx' hy' hx0 => ?_⟩⟩
            rcases Nat.lt_or_ge m j with h | h
            · exact (hno hf).2 m e' h he' x' y' hx' hy' hx0
            · have : m = j := by omega
              subst this
              rw [hget] at he'; cases he'
              rw [← (hno hf).1] at hx' hy'
              rw [hx] at hx'; rw [hy] at hy'
              cases hx'; cases hy'
              exact hok hx0
          refine ld1_i (k := .int .i64) e.f c0 ⟨bf, onSome_i rfl (ld1_i (k := .int .i64) x (get vD hx) ?_)⟩
          refine cond_d (fun hx0 => ?_) (fun hx0 => stay fun h => absurd h hx0)
          have hx0' : 0 ≤ x := hx0
          refine ld1_i (k := .int .i64) e.t c1 ⟨bt, onSome_i rfl (ld1_i (k := .int .i64) y (get vD hy) ?_)⟩
          have wxw : IntKind.wrap .i64 (x + e.w) = x + e.w := w64 (by omega) (by omega)
          refine cond_d (fun hy0 => ?_) (fun hy0 => ?_)
          · refine ld1_i (k := .int .i64) e.t e1 (ld1_i (k := .int .i64) e.f e0 ⟨bf, onSome_i rfl (ld1_i (k := .int .i64) x (get vDD hx) (ld1_i (k := .int .i64) e.w e2 ⟨bt, onSome_i rfl ?_⟩))⟩)
            rw [wxw]
            exact put ((k9.tr d9).tr dd9) vDD (by omega) fun w10 k10 v10 => go w10 k10 v10 hx0' (.inl hy0)
          · refine ld1_i (k := .int .i64) e.t c1 ⟨bt, onSome_i rfl (ld1_i (k := .int .i64) y (get vD hy) (ld1_i (k := .int .i64) e.f c0 ⟨bf, onSome_i rfl (ld1_i (k := .int .i64) x (get vD hx) (ld1_i (k := .int .i64) e.w c2 ?_))⟩))⟩
            rw [wxw]
            refine cond_d (fun hgt => ?_) (fun hle => stay fun _ => ?_)
            · refine ld1_i (k := .int .i64) e.t e1 (ld1_i (k := .int .i64) e.f e0 ⟨bf, onSome_i rfl (ld1_i (k := .int .i64) x (get vDD hx) (ld1_i (k := .int .i64) e.w e2 ⟨bt, onSome_i rfl ?_⟩))⟩)
              rw [wxw]
              exact put ((k9.tr d9).tr dd9) vDD (by omega) fun w10 k10 v10 => go w10 k10 v10 hx0' (.inr hgt)
            · have h1 : ¬ y < 0 := hy0
              have h2 : ¬ y > x + e.w := hle
              omega
        · have ej : j = L.length := by omega
          subst ej
          refine hY _ _ _ ?_ ⟨ag, ds', rfl, rfl, b7, v7, k7, fun hf e he x y hx hy hx0 => ?_⟩
          · cases ag with
            | true => have := hag rfl; simp only [if_true]; omega
            | false => simp
          · obtain ⟨m, hm⟩ := List.mem_iff_getElem?.1 he
            have := (List.getElem?_eq_some_iff.1 hm).1
            rw [(hno hf).1] at hx hy
            exact (hno hf).2 m e this hm x y hx hy hx0
end Go.Proofs.Ytdmcgddefnnbmaa

/-
  Chapter 16's laws: what 'LevelsFar' computes is true.
-/
namespace Go.Proofs.Ytdmcgddefnnbmaa
open Go Go.Den

theorem Ints_i {a b : Sl} {xs ys : List Int} {w : World} {Q : Bool → World → Prop} (ha : Rd w a 1 eI xs) (hb : Rd w b 1 eI ys) (hl : xs.length < 1000000) (hQ : ∀ (r : Bool) w', Keep w w' → (r = true ↔ xs = ys) → Q r w') : F_alike_Ints a b w Q := by
  unfold F_alike_Ints
  have la := ha.len
  have lb := hb.len
  refine cond_i (fun h => ?_) (fun h => ?_)
  · refine hQ false w (Mod.refl _ _) ⟨fun h => (by cases h), fun e => ?_⟩
    rw [la, lb, e] at h; simp at h
  · have hab : xs.length = ys.length := by simp at h; omega
    refine loop_i (fun c t w1 => ∃ (i : Nat), i ≤ xs.length ∧ c = xs.length - i ∧ t = ((i : Int), ()) ∧ Keep w w1 ∧ ∀ j, j < i → xs[j]? = ys[j]?) xs.length ⟨0, Nat.zero_le _, rfl, rfl, Mod.refl _ _, fun j hj => by omega⟩ ?_
    rintro c t w1 ⟨i, hi, rfl, rfl, k1, he⟩ X hX
    dsimp only
    refine cond_d (fun hlt => ?_) (fun hge => ?_)
    · have hx := List.getElem?_eq_getElem (show i < xs.length by omega)
      have hy := List.getElem?_eq_getElem (show i < ys.length by omega)
      have d1 : Keep w1 w1.drew := Mod.drew (Mod.refl _ w1)
      have K1 := k1.tr d1
      obtain ⟨p, hp, hc⟩ := rd_cell (k := .int .i64) (e := fun x => x) (ha.mod K1 eI_ne fun _ _ => id) hx
      obtain ⟨p', hp', hc'⟩ := rd_cell (k := .int .i64) (e := fun x => x) (hb.mod K1 eI_ne fun _ _ => id) hy
      rw [Int.toNat_natCast]
      refine ⟨⟨by omega, hlt⟩, onSome_i hp (ld1_i (k := .int .i64) xs[i] hc ⟨⟨by omega, by omega⟩, onSome_i hp' (ld1_i (k := .int .i64) ys[i] hc' ?_)⟩)⟩
      refine cond_i (fun hne => ?_) (fun heq => ?_)
      · refine hQ false _ K1 ⟨fun h => (by cases h), fun e => ?_⟩
        subst e
        exact absurd hne (by show ¬ ((xs[i] != xs[i]) = true); simp)
      · have heq' : xs[i] = ys[i] := by
          have : (xs[i] != ys[i]) = false := heq
          simpa using this
        rw [w64 (by omega) (by omega)]
        refine hX (xs.length - (i + 1)) _ _ (by omega) ⟨i + 1, by omega, rfl, rfl, K1, fun j hj => ?_⟩
        rcases Nat.lt_or_ge j i with h | h
        · exact he j h
        · have : j = i := by omega
          subst this
          rw [hx, hy, heq']
    · refine hQ true w1 k1 ⟨fun _ => ?_, fun _ => rfl⟩
      apply List.ext_getElem?
      intro j
      by_cases hj : j < xs.length
      · exact he j (by omega)
      · rw [List.getElem?_eq_none (by omega), List.getElem?_eq_none (by omega)]

/-- Each rank is someone's. -/
theorem rank_onto {n : Nat} {L : List Arc} (hL : OkL n L) (hw : ∀ e ∈ L, e.w ≤ 20) {r : Nat} (hr : r < n) : ∃ v : Nat, v < n ∧ rankOf (bldN n L n).rank (v : Int) = (r : Int) := by
  refine Classical.byContradiction fun hno => ?_
  have hno' : ∀ v : Nat, v < n → rankOf (bldN n L n).rank (v : Int) ≠ (r : Int) := fun v hv e => hno ⟨v, hv, e⟩
  have hn : (((List.range n).map fun v : Nat => rankOf (bldN n L n).rank (v : Int)) ++ [(r : Int)]).Nodup := by
    rw [List.nodup_append]
    refine ⟨List.pairwise_map.2 (List.Pairwise.imp_of_mem (fun {x y} hx hy hxy e => ?_) List.nodup_range), by simp, fun x hx y hy => ?_⟩
    · have h1 := List.mem_range.1 hx
      have h2 := List.mem_range.1 hy
      exact rank_ne hL hw (x := (x : Int)) (y := (y : Int)) (by omega) (by omega) (by omega) (by omega) (by omega) e
    · simp at hy
      subst hy
      obtain ⟨v, hv, rfl⟩ := List.mem_map.1 hx
      exact hno' v (List.mem_range.1 hv)
  have := nodup_len (m := n) hn fun x hx => by
    rcases List.mem_append.1 hx with hx | hx
    · obtain ⟨v, hv, rfl⟩ := List.mem_map.1 hx
      have := List.mem_range.1 hv
      exact rank_rng hL hw (by omega) (by omega)
    · simp at hx; subst hx; omega
  simp at this
  omega

/-- One row of whole numbers, in a block of its own. -/
structure Row (w : World) (s : Sl) (b : Nat) (n : Nat) (ds : List Int) : Prop where
  vec : Vec w tInt 1 eI s ds
  base : s.b = some ⟨b, 0, none⟩
  len : ds.length = n
theorem Row.keep {w w' : World} {s : Sl} {b n : Nat} {ds : List Int} (h : Row w s b n ds) (k : Keep w w') : Row w' s b n ds := ⟨h.vec.mod k fun _ _ => id, h.base, h.len⟩
theorem Row.cell {w : World} {s : Sl} {b n : Nat} {ds : List Int} (h : Row w s b n ds) {i : Nat} {x : Int} (hx : ds[i]? = some x) : w.cell? ((⟨b, 0, none⟩ : Addr).add (i * 1)) = some (.int .i64 x) := by
  obtain ⟨p, hp, hc⟩ := rd_cell (k := .int .i64) (e := fun x => x) (h.vec.rd lenI) hx
  rw [h.base] at hp; cases hp; exact hc
theorem Row.put {w : World} {s : Sl} {b n : Nat} {ds : List Int} (h : Row w s b n ds) {i : Nat} {x : Int} (hi : i < n) {K : World → Prop} (hK : ∀ w', Row w' s b n (ds.set i x) → Mod (fun k => k = b) w w' → K w') : storeD Try.prog tInt ((⟨b, 0, none⟩ : Addr).add (i * 1)) (.int .i64 x) w K := by
  refine h.vec.store lenI h.base (by rw [h.len]; exact hi) x (v := .int .i64 x) rfl size_Int (oneI x) fun w' v' m' _ => hK w' ⟨v', h.base, by rw [List.length_set]; exact h.len⟩ m'

theorem LevelsFar_i {n : Int} {l : Sl} {rows : List R3} {W : World} {Q : Bool → World → Prop} (hl : Rd W l 3 eR3 rows) (hQ : ∀ w', Keep W w' → Q true w') : F_law16_LevelsFar n l W Q := by
  unfold F_law16_LevelsFar
  have hll := hl.len
  refine cond_d (fun h => awake16_i hQ) (fun h1 => ?_)
  refine cond_d (fun h => awake16_i hQ) (fun h2 => ?_)
  refine cond_d (fun h => awake16_i hQ) (fun h3 => ?_)
  refine built_i (by omega) (by omega) hl (by omega) fun w4 H RH g s hH hRH hR k4 fH => ?_
  refine cond_i (fun h => by simp at h) (fun _ => ?_)
  have hwt := fun e he => (netOf_w (n := n) (rows := rows) e he).1
  have hmt := fun e he => (netOf_w (n := n) (rows := rows) e he).2
  generalize netOf n rows = L at *
  obtain ⟨m, rfl⟩ : ∃ m : Nat, n = (m : Int) := ⟨n.toNat, by omega⟩
  simp only [Int.toNat_natCast] at *
  have hL := hR.ok
  have hLl := hL.len hR.sz
  have hA := hH.net.ok
  have hAl := hA.len hH.net.sz
  have hm30 : m ≤ 30 := by omega
  have own := bld_own hL hwt hmt hm30 m (Nat.le_refl m)
  have inv := bld_inv hL hwt m (Nat.le_refl m)
  have rng : ∀ x : Int, 0 ≤ x → x < m → 0 ≤ rankOf (bldN m L m).rank x ∧ rankOf (bldN m L m).rank x < m := fun x h0 h1 => rank_rng hL hwt h0 h1
  have rne : ∀ x y : Int, 0 ≤ x → x < m → 0 ≤ y → y < m → x ≠ y → rankOf (bldN m L m).rank x ≠ rankOf (bldN m L m).rank y := fun x y a b c d e => rank_ne hL hwt a b c d e
  have onto := fun r (hr : r < m) => rank_onto hL hwt hr
  have midlow : ∀ e ∈ (bldN m L m).all, 0 ≤ e.m → rankOf (bldN m L m).rank e.m < rankOf (bldN m L m).rank e.f ∧ rankOf (bldN m L m).rank e.m < rankOf (bldN m L m).rank e.t := fun e he hm0 => by
    have hm := hA.may e he
    have hm2 : e.m < m := by rcases hm.2.2.2.2.2.2.2 with h | h <;> omega
    obtain ⟨_, _, r1, r2⟩ := own.half e he hm0
    rw [rank_val hL hwt hm0 hm2, rank_val hL hwt hm.1 hm.2.1, rank_val hL hwt hm.2.2.1 hm.2.2.2.1]
    have := hm.1
    have := hm.2.2.1
    have := hm.2.1
    have := hm.2.2.2.1
    exact ⟨r1 (bld_all inv _ (by omega)), r2 (bld_all inv _ (by omega))⟩
  have dists := fun {a : Int} (a0 : 0 ≤ a) (a1 : a < m) {ok ok' : Arc → Prop} {us ds : List Int} h1 h2 h3 h4 h5 h6 => updown_dist hL hwt hm30 a0 a1 (ok := ok) (ok' := ok') (us := us) (ds := ds) h1 h2 h3 h4 h5 h6
  have hmA : ∀ e ∈ (bldN m L m).all, mayA m e := fun e he => hA.may e he
  clear own inv
  generalize (bldN m L m).all = A at *
  generalize (bldN m L m).rank = R at *
  -- each rank is told once
  refine make_i elem_sBool (enc := eB) false rfl lenB (by omega) (Int.le_refl _) (by omega) (by omega) fun w5 v5 k5 => ?_
  simp only [Int.toNat_natCast] at v5 ⊢
  have K5 := k4.tr k5
  have hH5 := hH.keep k5
  have hR5 := hR.keep k5
  have z45 : w4.heap.size < w5.heap.size := v5.lt rfl
  have zW4 := k4.size
  generalize hb1 : w4.heap.size = b1 at *
  generalize hs1 : (⟨some ⟨b1, 0, none⟩, m, m⟩ : Sl) = s1 at *
  have s1b : s1.b = some ⟨b1, 0, none⟩ := by rw [← hs1]
  have hHb : ∀ k, H.has k → ¬ k = b1 := fun k hk e => by have := hH.lt hk; omega
  have hRb : ∀ k, rhas g s k → ¬ k = b1 := fun k hk e => by have := hR.lt hk; omega
  refine loop_i (fun c t w6 => ∃ (i : Nat) (bs : List Bool), i ≤ m ∧ c = m - i ∧ t = ((i : Int), ()) ∧ Vec w6 tBool 1 eB s1 bs ∧ bs.length = m ∧ (∀ r : Nat, r < m → (∀ v : Nat, v < i → rankOf R (v : Int) ≠ (r : Int)) → bs[r]? = some false) ∧ LevIs w6 H m A R ∧ RNetIs w6 g s m L ∧ Keep W w6) m
    ⟨0, List.replicate m false, Nat.zero_le _, rfl, rfl, v5, by simp, fun r hr _ => by rw [List.getElem?_replicate, if_pos hr], hH5, hR5, K5⟩ ?_
  rintro c t w6 ⟨i, bs, hi, rfl, rfl, v6, bl, hbs, h6, r6, K6⟩ X hX
  dsimp only
  refine cond_d (fun hlt => ?_) (fun hge => ?_)
  · have hi' : i < m := by omega
    refine Rank_i h6 ?_
    obtain ⟨r0, r1⟩ := rng (i : Int) (by omega) (by omega)
    refine cond_d (fun h => by omega) (fun _ => cond_d (fun h => by omega) (fun _ => ?_))
    have hf := hbs (rankOf R (i : Int)).toNat (by omega) fun v hv e => rne (v : Int) (i : Int) (by omega) (by omega) (by omega) (by omega) (by omega) (by omega)
    obtain ⟨p, hp, hc⟩ := rd_cell (k := .bool) (e := fun x => x) (v6.rd lenB) hf
    obtain rfl : (⟨b1, 0, none⟩ : Addr) = p := by rw [s1b] at hp; exact Option.some.inj hp
    refine ⟨⟨r0, r1⟩, onSome_i rfl (ld1_i (k := .bool) false hc ?_)⟩
    refine cond_i (fun h => by cases h) (fun _ => ⟨⟨r0, r1⟩, onSome_i rfl ?_⟩)
    refine v6.store lenB s1b (i := (rankOf R (i : Int)).toNat) (by omega) true (v := .bool true) rfl size_Bool (oneB true) fun w8 v8 m8 _ => ?_
    have m8' : Mod (fun k => k = b1) w6 w8 := m8
    rw [wi_ i (by omega)]
    refine hX _ _ _ (by omega) ⟨i + 1, _, hi', rfl, rfl, v8, by rw [List.length_set]; exact bl, fun r hr hno => ?_, h6.mod m8' hHb, r6.mod m8' hRb, K6.fresh m8' fun k e => by rw [show k = b1 from e]; exact zW4⟩
    have hne := hno i (by omega)
    rw [List.getElem?_set, if_neg (by omega)]
    exact hbs r hr fun v hv => hno v (by omega)
  · clear hX hbs v6 bl
    -- each shortcut is over a lower one
    refine onSome_i rfl (ld1_i (k := .ptr) (some ⟨H.N.g, 0, none⟩) h6.c0 ?_)
    refine All_i h6.net (by omega) fun s2 w9 v9 k9 _ => ?_
    have sl2 := v9.len
    have h9 := h6.keep k9
    refine loop_i (fun c t w10 => ∃ (i : Nat), i ≤ A.length ∧ c = A.length - i ∧ t = ((i : Int), ()) ∧ Keep w9 w10) A.length ⟨0, Nat.zero_le _, rfl, rfl, Mod.refl _ _⟩ ?_
    rintro c t w10 ⟨j, hj, rfl, rfl, k10⟩ X hX
    dsimp only
    refine cond_d (fun hlt2 => ?_) (fun hge2 => ?_)
    · have hj' : j < A.length := by omega
      have hmem := List.getElem_mem hj'
      have hget := List.getElem?_eq_getElem hj'
      have d10 : Keep w10 w10.drew := Mod.drew (Mod.refl _ w10)
      have hd := (h9.keep k10).keep d10
      generalize A[j] = e at *
      obtain ⟨p, hp, hh⟩ := rd_tup (((v9.mod k10 fun _ _ => id).mod d10 fun _ _ => id).rd lenA) hget
      have bj : 0 ≤ (j : Int) ∧ (j : Int) < (s2.l : Int) := ⟨by omega, hlt2⟩
      rw [Int.toNat_natCast]
      have next : X (IntKind.wrap .i64 ((j : Int) + 1), ()) w10.drew := by
        rw [wi_ j (by omega)]
        exact hX _ _ _ (by omega) ⟨j + 1, hj', rfl, rfl, k10.tr d10⟩
      refine ⟨bj, onSome_i hp (ld1_i (k := .int .i64) e.m hh.2.2.2.1 ?_)⟩
      refine cond_d (fun hm0 => ?_) (fun _ => next)
      have hm0' : 0 ≤ e.m := hm0
      obtain ⟨l1, l2⟩ := midlow e hmem hm0'
      refine ⟨bj, onSome_i hp (ld1_i (k := .int .i64) e.m hh.2.2.2.1 ⟨bj, onSome_i hp (ld1_i (k := .int .i64) e.f hh.1 (Rank_i hd ⟨hh.1, Rank_i hd ?_⟩))⟩)⟩
      refine cond_d (fun h => by omega) (fun _ => ?_)
      refine ⟨bj, onSome_i hp (ld1_i (k := .int .i64) e.m hh.2.2.2.1 ⟨bj, onSome_i hp (ld1_i (k := .int .i64) e.t hh.2.1 (Rank_i hd ⟨hh.2.1, Rank_i hd ?_⟩))⟩)⟩
      exact cond_d (fun h => by omega) (fun _ => next)
    · -- who has which rank
      have h10 := h9.keep k10
      have r10 := (r6.keep k9).keep k10
      have K10 := (K6.tr k9).tr k10
      refine make_i elem_sInt (enc := eI) (0 : Int) rfl lenI (by omega) (Int.le_refl _) (by omega) (by omega) fun w15 v15 k15 => ?_
      simp only [Int.toNat_natCast] at v15 ⊢
      have K15 := K10.tr k15
      have zW10 := K10.size
      have z1015 : w10.heap.size < w15.heap.size := v15.lt rfl
      generalize hb3 : w10.heap.size = b3 at *
      generalize hs3 : (⟨some ⟨b3, 0, none⟩, m, m⟩ : Sl) = s3 at *
      have row3 : Row w15 s3 b3 m (List.replicate m 0) := ⟨v15, by rw [← hs3], by simp⟩
      have hHb3 : ∀ k, H.has k → ¬ k = b3 := fun k hk e => by have := h10.lt hk; omega
      have hRb3 : ∀ k, rhas g s k → ¬ k = b3 := fun k hk e => by have := r10.lt hk; omega
      refine loop_i (fun c t w16 => ∃ (i : Nat) (at_ : List Int), i ≤ m ∧ c = m - i ∧ t = ((i : Int), ()) ∧ Row w16 s3 b3 m at_ ∧ (∀ v : Nat, v < i → at_[(rankOf R (v : Int)).toNat]? = some (v : Int)) ∧ LevIs w16 H m A R ∧ RNetIs w16 g s m L ∧ Keep W w16 ∧ w15.heap.size ≤ w16.heap.size) m
        ⟨0, _, Nat.zero_le _, rfl, rfl, row3, fun v hv => by omega, h10.keep k15, r10.keep k15, K15, Nat.le_refl _⟩ ?_
      rintro c t w16 ⟨i, at_, hi, rfl, rfl, row, hat, h16, r16, K16, z16⟩ Y hY
      dsimp only
      refine cond_d (fun hlt3 => ?_) (fun hge3 => ?_)
      · have hi' : i < m := by omega
        refine Rank_i h16 ?_
        obtain ⟨r0, r1⟩ := rng (i : Int) (by omega) (by omega)
        refine ⟨⟨r0, r1⟩, onSome_i rfl ?_⟩
        refine row.put (by omega) fun w18 row' m18 => ?_
        rw [wi_ i (by omega)]
        refine hY _ _ _ (by omega) ⟨i + 1, _, hi', rfl, rfl, row', fun v hv => ?_, h16.mod m18 hHb3, r16.mod m18 hRb3, K16.fresh m18 fun k e => by rw [show k = b3 from e]; exact zW10, Nat.le_trans z16 m18.size⟩
        rw [List.getElem?_set]
        by_cases e : v = i
        · subst e
          rw [if_pos rfl, if_pos (by rw [row.len]; omega)]
        · have hne := rne (v : Int) (i : Int) (by omega) (by omega) (by omega) (by omega) (by omega)
          have hrv := rng (v : Int) (by omega) (by omega)
          rw [if_neg (by omega)]
          exact hat v (by omega)
      · have ei : i = m := by omega
        subst ei
        have seat : ∀ r : Nat, r < i → ∃ v : Nat, v < i ∧ rankOf R (v : Int) = (r : Int) ∧ at_[r]? = some (v : Int) := fun r hr => by
          obtain ⟨v, hv, e⟩ := onto r hr
          have := hat v hv
          rw [e, Int.toNat_natCast] at this
          exact ⟨v, hv, e, this⟩
        have zb3 : b3 < w16.heap.size := by omega
        refine loop_i (fun c t w19 => ∃ (a : Nat), a ≤ i ∧ c = i - a ∧ t = ((a : Int), ()) ∧ Keep w16 w19) i ⟨0, Nat.zero_le _, rfl, rfl, Mod.refl _ _⟩ ?_
        rintro c t w19 ⟨a, ha, rfl, rfl, k19⟩ Z hZ
        dsimp only
        have h19 := h16.keep k19
        have r19 := r16.keep k19
        refine cond_d (fun hlt4 => ?_) (fun hge4 => ?_)
        · have ha' : a < i := by omega
          refine make_i elem_sInt (enc := eI) (0 : Int) rfl lenI (by omega) (Int.le_refl _) (by omega) (by omega) fun w20 v20 k20 => ?_
          simp only [Int.toNat_natCast] at v20 ⊢
          have z1920 : w19.heap.size < w20.heap.size := v20.lt rfl
          have z1619 := k19.size
          generalize hbd : w19.heap.size = bd at *
          generalize hs4 : (⟨some ⟨bd, 0, none⟩, i, i⟩ : Sl) = s4 at *
          have row4 : Row w20 s4 bd i (List.replicate i 0) := ⟨v20, by rw [← hs4], by simp⟩
          have K20 := k19.tr k20
          -- what is below stays
          refine loop_i (fun c t w21 => ∃ (j : Nat) (ds : List Int), j ≤ i ∧ c = i - j ∧ t = ((j : Int), ()) ∧ Row w21 s4 bd i ds ∧ (∀ q, q < j → ds[q]? = some (-1)) ∧ Keep w16 w21) i ⟨0, _, Nat.zero_le _, rfl, rfl, row4, fun q hq => by omega, K20⟩ ?_
          rintro c t w21 ⟨j, ds, hj2, rfl, rfl, row5, hds, k21⟩ U hU
          dsimp only
          refine cond_d (fun hlt5 => ?_) (fun hge5 => ?_)
          · have hj' : j < i := by omega
            refine ⟨⟨by omega, hlt5⟩, onSome_i rfl ?_⟩
            rw [Int.toNat_natCast]
            refine row5.put hj' fun w22 row6 m22 => ?_
            rw [wi_ j (by omega)]
            refine hU _ _ _ (by omega) ⟨j + 1, _, hj', rfl, rfl, row6, fun q hq => ?_, k21.fresh m22 fun k e => by rw [show k = bd from e]; omega⟩
            rw [List.getElem?_set]
            by_cases e : j = q
            · rw [if_pos e, if_pos (by rw [row5.len]; omega)]
            · rw [if_neg e]; exact hds q (by omega)
          · have ej : j = i := by omega
            subst ej
            have hrep : ds = List.replicate j (-1) := by
              apply List.ext_getElem?
              intro q
              rw [List.getElem?_replicate]
              by_cases hq : q < j
              · rw [if_pos hq]; exact hds q hq
              · rw [if_neg hq, List.getElem?_eq_none (by rw [row5.len]; omega)]
            refine ⟨⟨by omega, by omega⟩, onSome_i rfl ?_⟩
            refine row5.put ha' fun w23 row6 m23 => ?_
            have k23 : Keep w16 w23 := k21.fresh m23 fun k e => by rw [show k = bd from e]; omega
            have start := BF.start (m := j) (L := L) (a := (a : Int)) (by omega) (by omega)
            rw [Int.toNat_natCast, ← hrep] at start
            have hval : ∀ (w : Nat) (d : Int), (ds.set a 0)[w]? = some d → d = -1 ∨ (0 ≤ d ∧ UpW A R (a : Int) (w : Int) d ∧ d ≤ met (ds.set a 0) * 1099511627776) := fun w d hd => by
              rw [List.getElem?_set] at hd
              by_cases hw : a = w
              · rw [if_pos hw] at hd
                split at hd
                · cases hd; subst hw; exact .inr ⟨Int.le_refl _, .nil, by omega⟩
                · cases hd
              · rw [if_neg hw, hrep, List.getElem?_replicate] at hd
                split at hd
                · cases hd; exact .inl rfl
                · cases hd
            have st0 : RelSt j (UpW A R (a : Int)) (fun e => e ∈ A ∧ rankOf R e.f < rankOf R e.t ∧ rankOf R e.f < ((0 : Nat) : Int)) (ds.set a 0) := ⟨row6.len, hval, fun e ⟨he, _, hr0⟩ => by have := rng e.f (hmA e he).1 (hmA e he).2.1; omega⟩
            have src0 : (ds.set a 0)[a]? = some 0 := by have := start.src; rwa [Int.toNat_natCast] at this
            generalize ds.set a 0 = u0 at *
            clear hval start hrep hds row5
            have nH : ∀ k, H.has k → ¬ k = bd := fun k hk e => by have := h16.lt hk; omega
            have nR : ∀ k, rhas g s k → ¬ k = bd := fun k hk e => by have := r16.lt hk; omega
            have nb : b3 ≠ bd := by omega
            -- up
            refine loop_i (fun c t w24 => ∃ (r : Nat) (us : List Int), r ≤ j ∧ c = j - r ∧ t = ((r : Int), ()) ∧ Row w24 s4 bd j us ∧ RelSt j (UpW A R (a : Int)) (fun e => e ∈ A ∧ rankOf R e.f < rankOf R e.t ∧ rankOf R e.f < (r : Int)) us ∧ us[a]? = some 0 ∧ Keep w16 w24) j
              ⟨0, u0, Nat.zero_le _, rfl, rfl, row6, st0, src0, k23⟩ ?_
            rintro c t w24 ⟨r, us, hr, rfl, rfl, row24, st, src, k24⟩ V hV
            dsimp only
            have h24 := h16.keep k24
            have at24 := row.keep k24
            refine cond_d (fun hlt6 => ?_) (fun hge6 => ?_)
            · have hr' : r < j := by omega
              obtain ⟨v, hv, hrv, hav⟩ := seat r hr'
              refine ⟨⟨by omega, hlt6⟩, onSome_i rfl ?_⟩
              rw [Int.toNat_natCast]
              refine ld1_i (k := .int .i64) (v : Int) (at24.cell hav) ?_
              refine Up_i h24 fun s5 w25 v25 k25 f25 => ?_
              have sl5 := v25.len
              have ul : (upL A R (v : Int)).length ≤ j := Nat.le_trans (List.length_filter_le _ _) (hA.out_len (v : Int))
              have n5 : ∀ b, s5.b = some b → ¬ b.block = bd := fun b hb e => by have := f25 b hb; have := row24.vec.lt row24.base; have e2 : bd < w24.heap.size := this; omega
              refine loop_i (fun c t w26 => ∃ (q : Nat) (us' : List Int), q ≤ (upL A R (v : Int)).length ∧ c = (upL A R (v : Int)).length - q ∧ t = ((q : Int), ()) ∧ Row w26 s4 bd j us' ∧ RelSt j (UpW A R (a : Int)) (fun e => (e ∈ A ∧ rankOf R e.f < rankOf R e.t ∧ rankOf R e.f < (r : Int)) ∨ e ∈ (upL A R (v : Int)).take q) us' ∧ us'[a]? = some 0 ∧ Vec w26 tArc 4 eArc s5 (upL A R (v : Int)) ∧ Keep w16 w26) (upL A R (v : Int)).length
                ⟨0, us, Nat.zero_le _, rfl, rfl, row24.keep k25, st.mono (by intro e he; simpa using he), src, v25, k24.tr k25⟩ ?_
              rintro c t w26 ⟨q, us', hq, rfl, rfl, row26, st26, src26, v26, k26⟩ T hT
              dsimp only
              have done : (∀ e ∈ upL A R (v : Int), ∀ x y, us'[e.f.toNat]? = some x → us'[e.t.toNat]? = some y → 0 ≤ x → 0 ≤ y ∧ y ≤ x + e.w) → V (IntKind.wrap .i64 ((r : Int) + 1), ()) w26 := fun hall => by
                rw [wi_ r (by omega)]
                refine hV _ _ _ (by omega) ⟨r + 1, us', hr', rfl, rfl, row26, ⟨st26.len, st26.val, fun e ⟨he, h1, h2⟩ => ?_⟩, src26, k26⟩
                rcases Int.lt_or_le (rankOf R e.f) (r : Int) with h | h
                · exact st26.rel e (.inl ⟨he, h1, h⟩)
                · refine hall e ?_
                  have hfv : e.f = (v : Int) := by
                    refine Classical.byContradiction fun hne => ?_
                    exact rne e.f (v : Int) (hmA e he).1 (hmA e he).2.1 (by omega) (by omega) hne (by omega)
                  unfold upL
                  exact List.mem_filter.2 ⟨mem_outL.2 ⟨he, hfv⟩, by rw [← hfv]; simpa using h1⟩
              obtain ⟨x, hx⟩ : ∃ x, us'[v]? = some x := ⟨_, List.getElem?_eq_getElem (show v < us'.length by rw [row26.len]; exact hv)⟩
              refine cond_d (fun hlt7 => ?_) (fun hge7 => ?_)
              · have hq' : q < (upL A R (v : Int)).length := by omega
                have hget := List.getElem?_eq_getElem hq'
                have hmem := List.getElem_mem hq'
                have htk : (upL A R (v : Int)).take (q + 1) = (upL A R (v : Int)).take q ++ [(upL A R (v : Int))[q]] := List.take_succ_eq_append_getElem hq'
                generalize (upL A R (v : Int))[q] = e at *
                have hmo := List.mem_filter.1 hmem
                obtain ⟨heA, hef⟩ := mem_outL.1 hmo.1
                have hrk : rankOf R e.f < rankOf R e.t := by rw [hef]; simpa using hmo.2
                have hm := hmA e heA
                obtain ⟨f0, f1, t0, t1, ne, e0, e1', _⟩ := id hm
                have hxf : us'[e.f.toNat]? = some x := by rw [hef, Int.toNat_natCast]; exact hx
                have bv : 0 ≤ (v : Int) ∧ (v : Int) < (j : Int) := ⟨by omega, by omega⟩
                refine ⟨bv, onSome_i rfl ?_⟩
                rw [Int.toNat_natCast]
                refine ld1_i (k := .int .i64) x (row26.cell hx) ?_
                refine cond_d (fun hx0 => ?_) (fun hxn => ?_)
                · have hx0' : 0 ≤ x := hx0
                  have bq : 0 ≤ (q : Int) ∧ (q : Int) < (s5.l : Int) := ⟨by omega, hlt7⟩
                  obtain ⟨p, hp, hh⟩ := rd_tup (v26.rd lenA) hget
                  rw [Int.toNat_natCast]
                  refine ⟨bq, onSome_i hp (ld1_i (k := .int .i64) e.t hh.2.1 ?_)⟩
                  refine cond_d (fun h => by omega) (fun _ => cond_d (fun h => by omega) (fun _ => ?_))
                  obtain ⟨y, hy⟩ : ∃ y, us'[e.t.toNat]? = some y := ⟨_, List.getElem?_eq_getElem (show e.t.toNat < us'.length by rw [row26.len]; omega)⟩
                  have d26 : Keep w26 w26.drew := Mod.drew (Mod.refl _ w26)
                  have dd26 : Keep w26.drew w26.drew.drew := Mod.drew (Mod.refl _ w26.drew)
                  have rowD := row26.keep d26
                  have rowDD := rowD.keep dd26
                  have hhD : HoldsAt w26.drew (p.add (q * 4)) 0 (encs [.int .i64, .int .i64, .int .i64, .int .i64] (tupA e)) := holds_keep rfl hh
                  have hhDD : HoldsAt w26.drew.drew (p.add (q * 4)) 0 (encs [.int .i64, .int .i64, .int .i64, .int .i64] (tupA e)) := holds_keep rfl hh
                  have xb := st26.bnd (by omega) hx
                  have wxw : IntKind.wrap .i64 (x + e.w) = x + e.w := w64 (by omega) (by omega)
                  have bt : 0 ≤ e.t ∧ e.t < (j : Int) := ⟨t0, t1⟩
                  have hok : ∀ e', ((e' ∈ A ∧ rankOf R e'.f < rankOf R e'.t ∧ rankOf R e'.f < (r : Int)) ∨ e' ∈ (upL A R (v : Int)).take q) → 0 ≤ e'.f ∧ e'.f ≠ e.t := fun e' he' => by
                    have ert : (r : Int) < rankOf R e.t := by rw [← hrv, ← hef]; exact hrk
                    rcases he' with ⟨h1, _, h3⟩ | h1
                    · exact ⟨(hmA e' h1).1, fun e2 => by rw [e2] at h3; omega⟩
                    · have h2 := mem_outL.1 (List.mem_filter.1 (List.mem_of_mem_take h1)).1
                      exact ⟨by rw [h2.2]; omega, fun e2 => by rw [← e2, h2.2, hrv] at ert; omega⟩
                  have toq : ∀ e', ((e' ∈ A ∧ rankOf R e'.f < rankOf R e'.t ∧ rankOf R e'.f < (r : Int)) ∨ e' ∈ (upL A R (v : Int)).take (q + 1)) → (((e' ∈ A ∧ rankOf R e'.f < rankOf R e'.t ∧ rankOf R e'.f < (r : Int)) ∨ e' ∈ (upL A R (v : Int)).take q) ∨ e' = e) := fun e' he' => by
                    rw [htk] at he'
                    rcases he' with h1 | h1
                    · exact .inl (.inl h1)
                    · rcases List.mem_append.1 h1 with h2 | h2
                      · exact .inl (.inr h2)
                      · exact .inr (by simpa using h2)
                  have go : ∀ wz, Keep w26 wz → (y < 0 ∨ x + e.w < y) → storeD Try.prog tInt ((⟨bd, 0, none⟩ : Addr).add (e.t.toNat * 1)) (.int .i64 (x + e.w)) wz fun w27 => T (IntKind.wrap .i64 ((q : Int) + 1), ()) w27 := fun wz kz hlow => by
                    refine (row26.keep kz).put (by omega) fun w27 row27 m27 => ?_
                    have hat' : e.t.toNat ≠ a := fun e2 => by
                      rw [e2, src26] at hy
                      have : (0 : Int) = y := Option.some.inj hy
                      omega
                    obtain ⟨st27, _⟩ := st26.lower hm hxf hy hx0' hlow (fun hp => .snoc e hp heA rfl hrk) hok
                    rw [wi_ q (by omega)]
                    refine hT _ _ _ (by omega) ⟨q + 1, _, hq', rfl, rfl, row27, st27.mono toq, by rw [List.getElem?_set, if_neg hat']; exact src26, (v26.mod kz fun _ _ => id).mod m27 fun b hb e2 => n5 b hb e2, (k26.tr kz).fresh m27 fun k e2 => by rw [show k = bd from e2]; omega⟩
                  refine ⟨bt, onSome_i rfl (ld1_i (k := .int .i64) y (rowD.cell hy) ?_)⟩
                  refine cond_d (fun hy0 => ?_) (fun hyn => ?_)
                  · refine ⟨bv, onSome_i rfl (ld1_i (k := .int .i64) x (rowDD.cell hx) ⟨bq, onSome_i hp (ld1_i (k := .int .i64) e.w hhDD.2.2.1 ⟨bt, onSome_i rfl ?_⟩)⟩)⟩
                    rw [wxw]
                    exact go _ (d26.tr dd26) (.inl hy0)
                  · have hyn' : ¬ y < 0 := hyn
                    refine ⟨bt, onSome_i rfl (ld1_i (k := .int .i64) y (rowD.cell hy) ⟨bv, onSome_i rfl (ld1_i (k := .int .i64) x (rowD.cell hx) ⟨bq, onSome_i hp (ld1_i (k := .int .i64) e.w hhD.2.2.1 ?_)⟩)⟩)⟩
                    rw [wxw]
                    refine cond_d (fun hgt => ?_) (fun hle => ?_)
                    · refine ⟨bv, onSome_i rfl (ld1_i (k := .int .i64) x (rowDD.cell hx) ⟨bq, onSome_i hp (ld1_i (k := .int .i64) e.w hhDD.2.2.1 ⟨bt, onSome_i rfl ?_⟩)⟩)⟩
                      rw [wxw]
                      exact go _ (d26.tr dd26) (.inr hgt)
                    · have hle' : ¬ y > x + e.w := hle
                      rw [wi_ q (by omega)]
                      refine hT _ _ _ (by omega) ⟨q + 1, us', hq', rfl, rfl, rowD, (st26.same fun x' y' hx' hy' _ => ?_).mono toq, src26, v26.mod d26 (fun _ _ => id), k26.tr d26⟩
                      rw [hxf] at hx'; rw [hy] at hy'
                      cases hx'; cases hy'
                      omega
                · refine done fun e' he' x' y' hx' hy' hx0' => ?_
                  have h2 := mem_outL.1 (List.mem_filter.1 he').1
                  rw [h2.2, Int.toNat_natCast, hx] at hx'
                  cases hx'
                  exact absurd hx0' hxn
              · have eq : q = (upL A R (v : Int)).length := by omega
                subst eq
                rw [List.take_length] at st26
                exact done fun e' he' => st26.rel e' (.inr he')
            · have er : r = j := by omega
              subst er
              have upok : ∀ e ∈ A, rankOf R e.f < rankOf R e.t → (e ∈ A ∧ rankOf R e.f < rankOf R e.t ∧ rankOf R e.f < (r : Int)) := fun e he hlt => ⟨he, hlt, (rng e.f (hmA e he).1 (hmA e he).2.1).2⟩
              -- down
              have dst0 : RelSt r (UDP A R (a : Int)) (fun e => e ∈ A ∧ rankOf R e.t < rankOf R e.f ∧ ((r : Nat) : Int) - 1 < rankOf R e.t) us := ⟨st.len, fun w d hd => (st.val w d hd).imp id fun ⟨h1, h2, h3⟩ => ⟨h1, ⟨(w : Int), d, 0, h2, .nil _, by omega⟩, h3⟩, fun e ⟨he, _, hr0⟩ => by have := rng e.t (hmA e he).2.2.1 (hmA e he).2.2.2.1; omega⟩
              rw [w64 (n := (r : Int) - 1) (by omega) (by omega)]
              refine loop_i (fun c t w29 => ∃ (q : Nat) (ds : List Int), q ≤ r ∧ c = q ∧ t = (((q : Nat) : Int) - 1, ()) ∧ Row w29 s4 bd r ds ∧ RelSt r (UDP A R (a : Int)) (fun e => e ∈ A ∧ rankOf R e.t < rankOf R e.f ∧ ((q : Nat) : Int) - 1 < rankOf R e.t) ds ∧ Nearer us ds ∧ Keep w16 w29) r
                ⟨r, us, Nat.le_refl _, rfl, rfl, row24, dst0, Nearer.refl _, k24⟩ ?_
              rintro c t w29 ⟨q, ds', hq, rfl, rfl, row29, dst, near, k29⟩ V2 hV2
              dsimp only
              have h29 := h16.keep k29
              have at29 := row.keep k29
              refine cond_d (fun hge7 => ?_) (fun hlt7 => ?_)
              · obtain ⟨q1, rfl⟩ : ∃ q1, c = q1 + 1 := ⟨c - 1, by omega⟩
                have eq1 : (((q1 + 1 : Nat) : Int) - 1) = (q1 : Int) := by omega
                rw [eq1] at *
                obtain ⟨v, hv, hrv, hav⟩ := seat q1 (by omega)
                refine ⟨⟨by omega, by omega⟩, onSome_i rfl ?_⟩
                rw [Int.toNat_natCast]
                refine ld1_i (k := .int .i64) (v : Int) (at29.cell hav) ?_
                refine Down_i h29 fun s6 w30 v30 k30 f30 => ?_
                have sl6 := v30.len
                have dl : (downL A R (v : Int)).length ≤ r := Nat.le_trans (List.length_filter_le _ _) (hA.in_len (v : Int))
                have n6 : ∀ b, s6.b = some b → ¬ b.block = bd := fun b hb e => by have := f30 b hb; have := row29.vec.lt row29.base; have e2 : bd < w29.heap.size := this; omega
                refine loop_i (fun c t w31 => ∃ (z : Nat) (ds2 : List Int), z ≤ (downL A R (v : Int)).length ∧ c = (downL A R (v : Int)).length - z ∧ t = ((z : Int), ()) ∧ Row w31 s4 bd r ds2 ∧ RelSt r (UDP A R (a : Int)) (fun e => (e ∈ A ∧ rankOf R e.t < rankOf R e.f ∧ (q1 : Int) < rankOf R e.t) ∨ e ∈ (downL A R (v : Int)).take z) ds2 ∧ Nearer us ds2 ∧ Vec w31 tArc 4 eArc s6 (downL A R (v : Int)) ∧ Keep w16 w31) (downL A R (v : Int)).length
                  ⟨0, ds', Nat.zero_le _, rfl, rfl, row29.keep k30, dst.mono (by intro e he; simpa using he), near, v30, k29.tr k30⟩ ?_
                rintro c t w31 ⟨z, ds2, hz, rfl, rfl, row31, st31, near31, v31, k31⟩ T hT
                dsimp only
                refine cond_d (fun hlt8 => ?_) (fun hge8 => ?_)
                · have hz' : z < (downL A R (v : Int)).length := by omega
                  have hget := List.getElem?_eq_getElem hz'
                  have hmem := List.getElem_mem hz'
                  have htk : (downL A R (v : Int)).take (z + 1) = (downL A R (v : Int)).take z ++ [(downL A R (v : Int))[z]] := List.take_succ_eq_append_getElem hz'
                  generalize (downL A R (v : Int))[z] = e at *
                  have hmo := List.mem_filter.1 hmem
                  obtain ⟨heA, het⟩ := mem_inL.1 hmo.1
                  have hrk : rankOf R e.t < rankOf R e.f := by rw [het]; simpa using hmo.2
                  have hm := hmA e heA
                  obtain ⟨f0, f1, t0, t1, ne, e0, e1', _⟩ := id hm
                  have bz : 0 ≤ (z : Int) ∧ (z : Int) < (s6.l : Int) := ⟨by omega, hlt8⟩
                  obtain ⟨p, hp, hh⟩ := rd_tup (v31.rd lenA) hget
                  rw [Int.toNat_natCast]
                  refine ⟨bz, onSome_i hp (ld1_i (k := .int .i64) e.f hh.1 ?_)⟩
                  refine cond_d (fun h => by omega) (fun _ => cond_d (fun h => by omega) (fun _ => ?_))
                  obtain ⟨x, hx⟩ : ∃ x, ds2[e.f.toNat]? = some x := ⟨_, List.getElem?_eq_getElem (show e.f.toNat < ds2.length by rw [row31.len]; omega)⟩
                  obtain ⟨y, hyv⟩ : ∃ y, ds2[v]? = some y := ⟨_, List.getElem?_eq_getElem (show v < ds2.length by rw [row31.len]; exact hv)⟩
                  have hy : ds2[e.t.toNat]? = some y := by rw [het, Int.toNat_natCast]; exact hyv
                  have d31 : Keep w31 w31.drew := Mod.drew (Mod.refl _ w31)
                  have dd31 : Keep w31.drew w31.drew.drew := Mod.drew (Mod.refl _ w31.drew)
                  have rowD := row31.keep d31
                  have rowDD := rowD.keep dd31
                  have hhD : HoldsAt w31.drew (p.add (z * 4)) 0 (encs [.int .i64, .int .i64, .int .i64, .int .i64] (tupA e)) := holds_keep rfl hh
                  have hhDD : HoldsAt w31.drew.drew (p.add (z * 4)) 0 (encs [.int .i64, .int .i64, .int .i64, .int .i64] (tupA e)) := holds_keep rfl hh
                  have xb := st31.bnd (by omega) hx
                  have wxw : IntKind.wrap .i64 (x + e.w) = x + e.w := w64 (by omega) (by omega)
                  have bf : 0 ≤ e.f ∧ e.f < (r : Int) := ⟨f0, f1⟩
                  have bv : 0 ≤ (v : Int) ∧ (v : Int) < (r : Int) := ⟨by omega, by omega⟩
                  have hok : ∀ e', ((e' ∈ A ∧ rankOf R e'.t < rankOf R e'.f ∧ (q1 : Int) < rankOf R e'.t) ∨ e' ∈ (downL A R (v : Int)).take z) → 0 ≤ e'.f ∧ e'.f ≠ e.t := fun e' he' => by
                    have ert : rankOf R e.t = (q1 : Int) := by rw [het, hrv]
                    rcases he' with ⟨h1, h2, h3⟩ | h1
                    · exact ⟨(hmA e' h1).1, fun e2 => by rw [e2] at h2; omega⟩
                    · have h2 := List.mem_filter.1 (List.mem_of_mem_take h1)
                      have h3 := mem_inL.1 h2.1
                      have h4 : rankOf R (v : Int) < rankOf R e'.f := by simpa using h2.2
                      exact ⟨(hmA e' h3.1).1, fun e2 => by rw [e2, ert, hrv] at h4; omega⟩
                  have toz : ∀ e', ((e' ∈ A ∧ rankOf R e'.t < rankOf R e'.f ∧ (q1 : Int) < rankOf R e'.t) ∨ e' ∈ (downL A R (v : Int)).take (z + 1)) → (((e' ∈ A ∧ rankOf R e'.t < rankOf R e'.f ∧ (q1 : Int) < rankOf R e'.t) ∨ e' ∈ (downL A R (v : Int)).take z) ∨ e' = e) := fun e' he' => by
                    rw [htk] at he'
                    rcases he' with h1 | h1
                    · exact .inl (.inl h1)
                    · rcases List.mem_append.1 h1 with h2 | h2
                      · exact .inl (.inr h2)
                      · exact .inr (by simpa using h2)
                  have go : ∀ wz, Keep w31 wz → 0 ≤ x → (y < 0 ∨ x + e.w < y) → storeD Try.prog tInt ((⟨bd, 0, none⟩ : Addr).add (v * 1)) (.int .i64 (x + e.w)) wz fun w32 => T (IntKind.wrap .i64 ((z : Int) + 1), ()) w32 := fun wz kz hx0 hlow => by
                    refine (row31.keep kz).put hv fun w32 row32 m32 => ?_
                    obtain ⟨st32, near32⟩ := st31.lower hm hx hy hx0 hlow (fun ⟨mm, c1, c2, g1, g2, g3⟩ => ⟨mm, c1, c2 + e.w, g1, .snoc e g2 heA rfl hrk, by omega⟩) hok
                    have hev : e.t.toNat = v := by rw [het, Int.toNat_natCast]
                    rw [hev] at st32 near32
                    rw [wi_ z (by omega)]
                    exact hT _ _ _ (by omega) ⟨z + 1, _, hz', rfl, rfl, row32, st32.mono toz, near31.trans near32, (v31.mod kz fun _ _ => id).mod m32 (fun b hb e2 => n6 b hb e2), (k31.tr kz).fresh m32 fun k e2 => by rw [show k = bd from e2]; omega⟩
                  have stay : (0 ≤ x → 0 ≤ y ∧ y ≤ x + e.w) → T (IntKind.wrap .i64 ((z : Int) + 1), ()) w31.drew := fun hst => by
                    rw [wi_ z (by omega)]
                    refine hT _ _ _ (by omega) ⟨z + 1, ds2, hz', rfl, rfl, rowD, (st31.same fun x' y' hx' hy' hx0' => ?_).mono toz, near31, v31.mod d31 (fun _ _ => id), k31.tr d31⟩
                    rw [hx] at hx'; rw [hy] at hy'
                    cases hx'; cases hy'
                    exact hst hx0'
                  refine ⟨bf, onSome_i rfl (ld1_i (k := .int .i64) x (rowD.cell hx) ?_)⟩
                  refine cond_d (fun hx0 => ?_) (fun hxn => stay fun h => absurd h hxn)
                  have hx0' : 0 ≤ x := hx0
                  refine ⟨bv, onSome_i rfl ?_⟩
                  rw [Int.toNat_natCast]
                  refine ld1_i (k := .int .i64) y (rowD.cell hyv) ?_
                  refine cond_d (fun hy0 => ?_) (fun hyn => ?_)
                  · refine ⟨bf, onSome_i rfl (ld1_i (k := .int .i64) x (rowDD.cell hx) ⟨bz, onSome_i hp (ld1_i (k := .int .i64) e.w hhDD.2.2.1 ⟨bv, onSome_i rfl ?_⟩)⟩)⟩
                    rw [wxw]
                    exact go _ (d31.tr dd31) hx0' (.inl hy0)
                  · have hyn' : ¬ y < 0 := hyn
                    refine ⟨bv, onSome_i rfl (ld1_i (k := .int .i64) y (rowD.cell hyv) ⟨bf, onSome_i rfl (ld1_i (k := .int .i64) x (rowD.cell hx) ⟨bz, onSome_i hp (ld1_i (k := .int .i64) e.w hhD.2.2.1 ?_)⟩)⟩)⟩
                    rw [wxw]
                    refine cond_d (fun hgt => ?_) (fun hle => stay fun _ => ?_)
                    · refine ⟨bf, onSome_i rfl (ld1_i (k := .int .i64) x (rowDD.cell hx) ⟨bz, onSome_i hp (ld1_i (k := .int .i64) e.w hhDD.2.2.1 ⟨bv, onSome_i rfl ?_⟩)⟩)⟩
                      rw [wxw]
                      exact go _ (d31.tr dd31) hx0' (.inr hgt)
                    · have hle' : ¬ y > x + e.w := hle
                      omega
                · have ez : z = (downL A R (v : Int)).length := by omega
                  subst ez
                  rw [List.take_length] at st31
                  rw [w64 (n := (q1 : Int) - 1) (by omega) (by omega)]
                  refine hV2 q1 _ _ (by omega) ⟨q1, ds2, by omega, rfl, rfl, row31, st31.mono fun e' ⟨h1, h2, h3⟩ => ?_, near31, k31⟩
                  rcases Int.lt_or_le (q1 : Int) (rankOf R e'.t) with h | h
                  · exact .inl ⟨h1, h2, h⟩
                  · refine .inr ?_
                    have htv : e'.t = (v : Int) := by
                      refine Classical.byContradiction fun hne => ?_
                      exact rne e'.t (v : Int) (hmA e' h1).2.2.1 (hmA e' h1).2.2.2.1 (by omega) (by omega) hne (by omega)
                    unfold downL
                    exact List.mem_filter.2 ⟨mem_inL.2 ⟨h1, htv⟩, by rw [← htv]; simpa using h2⟩
              · have eq0 : c = 0 := by omega
                subst eq0
                have dall := dists (a := (a : Int)) (by omega) (by omega) st dst upok (fun e he hlt => ⟨he, hlt, by have := rng e.t (hmA e he).2.2.1 (hmA e he).2.2.2.1; omega⟩) (by rw [Int.toNat_natCast]; exact src) near
                refine rAll_i (r16.keep k29) (by omega) fun s7 w34 xs v34 l34 d34 _ k34 _ => ?_
                have heq : ds' = xs := by
                  apply List.ext_getElem?
                  intro q
                  by_cases hq2 : q < r
                  · have g1 := List.getElem?_eq_getElem (show q < ds'.length by rw [row29.len]; exact hq2)
                    have g2 := List.getElem?_eq_getElem (show q < xs.length by omega)
                    rw [g1, g2]
                    have t1 := dall q _ g1
                    have t2 := d34 (by omega) (by omega) q _ g2
                    rw [dist_one t1 t2]
                  · rw [List.getElem?_eq_none (by rw [row29.len]; omega), List.getElem?_eq_none (by omega)]
                refine Ints_i ((row29.keep k34).vec.rd lenI) (v34.rd lenI) (by rw [row29.len]; omega) fun b w35 k35 hb => ?_
                refine cond_i (fun hbf => by rw [hb.2 heq] at hbf; cases hbf) (fun _ => ?_)
                rw [wi_ a (by omega)]
                exact hZ _ _ _ (by omega) ⟨a + 1, ha', rfl, rfl, (k29.tr k34).tr k35⟩
        · exact awake16_i fun w' k' => hQ w' ((K16.tr k19).tr k')
end Go.Proofs.Ytdmcgddefnnbmaa

/-
  The words that each of the seat's proofs opens with.
-/
namespace Go.Proofs.Ytdmcgddefnnbmaa
open Go Go.Den Go.ChangeShapes Go.WideShapes Go.ChangeAt Go.RowKit

theorem own : ownKnob Try.prog.godebug = none := by kernel_rfl
theorem laid : laidOutB Try.prog = true := by kernel_rfl
theorem call_of {g : FuncId} {T : Tr} (hS : Sound Try.prog g T) {args : List Value} {W : World} (h : T args W fun v w' => v = .bool true ∧ Since W w') : Calls Try.prog g args.toArray W fun e w' => e = .returned (.bool true) ∧ Since W w' :=
  (hS args W _ h).mono fun e w' ⟨v, he, hv, hs⟩ => ⟨by rw [he, hv], hs⟩
def arcOf : List Int → Arc
  | [f, t, w, m] => ⟨f, t, w, m⟩
  | _ => ⟨0, 0, 0, 0⟩
theorem arcOf_enc {r : List Int} (h : r.length = 4) : eArc (arcOf r) = r.map (Value.int .i64) := by
  match r, h with
  | [f, t, w, m], _ => rfl
set_option maxRecDepth 100000 in
theorem arg_arcs {H : Type} {enc : TypeId × Value → H} {W : World} {t b : Nat} {v : Value} {d : DataW H} {ps : List MemPlace} (ht : Try.prog.underlying t = some (.slice tArc)) (hval : Value.okWide Try.prog W .any b t v) (h : DataW.Trod enc Try.prog W 0 (fun _ => true) true t v d ps) :
    ∃ (s : Sl) (xs : List Arc), v = .slice s.b s.l s.c ∧ Rd W s 4 eArc xs := by
  obtain ⟨s, rows, rfl, hr, hl⟩ := arg_rows (m := 4) ht (by kernel_rfl) (by kernel_rfl) hval h
  exact ⟨s, rows.map arcOf, rfl, hr.map arcOf fun r hr => arcOf_enc (hl r hr)⟩
end Go.Proofs.Ytdmcgddefnnbmaa

/-
  Arguments: rows of three, of five, and whole numbers.
-/
namespace Go.Proofs.Ytdmcgddefnnbmaa
open Go Go.Den Go.ChangeShapes Go.WideShapes Go.ChangeAt Go.RowKit

def r3Of : List Int → R3
  | [x, y, z] => (x, y, z)
  | _ => (0, 0, 0)
theorem r3Of_enc {r : List Int} (h : r.length = 3) : eR3 (r3Of r) = r.map (Value.int .i64) := by
  match r, h with
  | [x, y, z], _ => rfl
def i1Of : List Int → Int
  | [x] => x
  | _ => 0
theorem i1Of_enc {r : List Int} (h : r.length = 1) : eI (i1Of r) = r.map (Value.int .i64) := by
  match r, h with
  | [x], _ => rfl
set_option maxRecDepth 100000 in
theorem arg_r3 {H : Type} {enc : TypeId × Value → H} {W : World} {t b : Nat} {v : Value} {d : DataW H} {ps : List MemPlace} (ht : Try.prog.underlying t = some (.slice tArr3)) (hval : Value.okWide Try.prog W .any b t v) (h : DataW.Trod enc Try.prog W 0 (fun _ => true) true t v d ps) :
    ∃ (s : Sl) (xs : List R3), v = .slice s.b s.l s.c ∧ Rd W s 3 eR3 xs := by
  obtain ⟨s, rows, rfl, hr, hl⟩ := arg_rows (m := 3) ht (by kernel_rfl) (by kernel_rfl) hval h
  exact ⟨s, rows.map r3Of, rfl, hr.map r3Of fun r hr => r3Of_enc (hl r hr)⟩
set_option maxRecDepth 100000 in
theorem arg_is {H : Type} {enc : TypeId × Value → H} {W : World} {t b : Nat} {v : Value} {d : DataW H} {ps : List MemPlace} (ht : Try.prog.underlying t = some (.slice tInt)) (hval : Value.okWide Try.prog W .any b t v) (h : DataW.Trod enc Try.prog W 0 (fun _ => true) true t v d ps) :
    ∃ (s : Sl) (xs : List Int), v = .slice s.b s.l s.c ∧ Rd W s 1 eI xs := by
  obtain ⟨s, rows, rfl, hr, hl⟩ := arg_rows (m := 1) ht (by kernel_rfl) (by kernel_rfl) hval h
  exact ⟨s, rows.map i1Of, rfl, hr.map i1Of fun r hr => i1Of_enc (hl r hr)⟩
end Go.Proofs.Ytdmcgddefnnbmaa

/-
  Arguments: bools.
-/
namespace Go.Proofs.Ytdmcgddefnnbmaa
open Go Go.Den Go.ChangeShapes Go.WideShapes Go.ChangeAt Go.RowKit
set_option maxRecDepth 100000 in
theorem arg_bs {H : Type} {enc : TypeId × Value → H} {W : World} {t b : Nat} {v : Value} {d : DataW H} {ps : List MemPlace} (ht : Try.prog.underlying t = some (.slice tBool)) (hval : Value.okWide Try.prog W .any b t v) (h : DataW.Trod enc Try.prog W 0 (fun _ => true) true t v d ps) :
    ∃ (s : Sl) (xs : List Bool), v = .slice s.b s.l s.c ∧ Rd W s 1 eB xs := arg_bools ht (by kernel_rfl) (by kernel_rfl) hval h
end Go.Proofs.Ytdmcgddefnnbmaa
