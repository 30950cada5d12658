import Derived.Test.YtjjgcimlmjnaeaaGreatQ5
import Derived.Test.YtjjgcimlmjnaeaaGreatA3
import Derived.Test.YtjjgcimlmjnaeaaGreatFEng
import Derived.Test.YtjjgcimlmjnaeaaGreatQ2
import Derived.Test.YtjjgcimlmjnaeaaGreatFUnp
namespace Go.Proofs.YtjjgcimlmjnaeaaGreat
open Go Go.Den
theorem met_pos {ds : List Int} {v : Nat} {d : Int} (h : ds[v]? = some d) (h0 : 0 ≤ d) : 1 ≤ met ds := by
 unfold met
 exact List.length_pos_of_mem (List.mem_filter.2 ⟨List.mem_of_getElem? h, by simpa using h0⟩)
section
variable {g : GT} {G : Gr} {W : World} (h : GvIs W g G) (ok : OkG G)
include h ok
theorem RTo_i {node : Int} {shut : Sl} {c : List Bool} {Q : Sl → World → Prop} (hN : G.isN node) (hc : Rd W shut 1 eB c)
  (hQ : ∀ s ds w', G.far c node ds → Vec w' tInt 1 eI s ds → Keep W w' → (∀ b, s.b = some b → W.heap.size ≤ b.block) → (∀ (v : Nat) x, ds[v]? = some x → -1 ≤ x ∧ x ≤ 51 * BW) → Q s w') : F_ref4_To g node shut W Q := by
 unfold F_ref4_To
 have hm := ok.m1
 have hl : g.2.1.l = G.m := h.ed.len
 have hN' := ok.nxOk c node
 refine alloc_i fun w1 o1 k1 z1 => ?_
 refine ldN_i (l := [.slice, .slice, .slice]) g (own_g (g := g) o1) ?_
 refine RNode_i (h.keep k1) ok fun w2 k2 => ?_
 rw [decide_eq_true hN]
 refine cond_i (fun h => by simp at h) (fun _ => ?_)
 have og : ∀ {wx : World}, Keep w1 wx → Own wx W.heap.size tAGraph (gcs g) := fun kx => o1.mod kx id
 refine ld1_i (k := .slice) g.2.1 (own3 (og k2)).2.1 ?_
 rw [hl]
 refine make_i elem_sInt (enc := eI) (0 : Int) rfl lenI (by omega) (Int.le_refl _) (by omega) (by omega) fun w3 v3 k3 => ?_
 simp only [Int.toNat_natCast] at v3 ⊢
 have zB : w2.heap.size < w3.heap.size := v3.lt rfl
 have K3 := k2.tr k3
 have zW1 : W.heap.size ≤ w1.heap.size := k1.size
 have z12 := k2.size
 generalize hB : w2.heap.size = B at *
 have hBW : w1.heap.size ≤ B := by omega
 have fresh : ∀ b, (⟨some ⟨B, 0, none⟩, G.m, G.m⟩ : Sl).b = some b → W.heap.size ≤ b.block := fun b hb => by cases hb; show W.heap.size ≤ B; omega
 have put : ∀ {wx : World} {ds : List Int} {i : Nat} {x : Int} {K : World → Prop}, Keep w1 wx → Vec wx tInt 1 eI ⟨some ⟨B, 0, none⟩, G.m, G.m⟩ ds → i < ds.length → (∀ wy, Vec wy tInt 1 eI ⟨some ⟨B, 0, none⟩, G.m, G.m⟩ (ds.set i x) → Keep w1 wy → Mod (fun k => k = B) wx wy → K wy) →
   storeD Tryz.prog tInt ((⟨B, 0, none⟩ : Addr).add (i * 1)) (.int .i64 x) wx K := fun {wx ds i x K} kx vx hi hK =>
  vx.store lenI rfl (i := i) hi x (v := .int .i64 x) rfl size_Int (oneI _) fun wy vy my _ => hK wy vy (kx.fresh my fun k e => by rw [show k = B from e]; exact hBW) my
 refine loop_i (fun c' t w4 => ∃ (i : Nat) (ds : List Int), i ≤ G.m ∧ c' = G.m - i ∧ t = ((i : Int), ()) ∧ ds.length = G.m ∧ (∀ j : Nat, j < i → ds[j]? = some (if G.to (j : Int) = node then 0 else -1)) ∧ Vec w4 tInt 1 eI ⟨some ⟨B, 0, none⟩, G.m, G.m⟩ ds ∧ Keep w1 w4) G.m
  ⟨0, List.replicate G.m 0, Nat.zero_le _, rfl, rfl, by simp, fun j hj => by omega, v3, K3⟩ ?_
 clear v3 K3 k3
 rintro c' t w4 ⟨i, ds, hi, rfl, rfl, dl, hds, v4, k4⟩ X hX
 dsimp only
 refine cond_d (fun hlt => ?_) (fun hge => ?_)
 ·have hi' : i < G.m := by omega
  have hE : G.isE (i : Int) := ⟨by omega, by omega⟩
  refine ⟨⟨by omega, hlt⟩, onSome_i rfl ?_⟩
  rw [Int.toNat_natCast]
  refine put k4 v4 (by omega) fun w5 v5 k5 m5 => ?_
  obtain ⟨p, hp, _, _, ct, _⟩ := (h.keep (k1.tr k5)).edge hE
  refine ld1_i (k := .slice) g.2.1 (own3 (og k5)).2.1 ⟨⟨by omega, by omega⟩, onSome_i hp (ld1_i (k := .int .i64) (G.to (i : Int)) ct ?_)⟩
  rw [wi_ i (by omega)]
  have fin : ∀ wy x, Vec wy tInt 1 eI ⟨some ⟨B, 0, none⟩, G.m, G.m⟩ (ds.set i x) → Keep w1 wy → x = (if G.to (i : Int) = node then 0 else -1) → X (((i + 1 : Nat) : Int), ()) wy := fun wy x vy ky hx => by
   refine hX _ _ _ (by omega) ⟨i + 1, _, hi', rfl, rfl, by rw [List.length_set]; exact dl, fun j hj => ?_, vy, ky⟩
   rw [List.getElem?_set]
   by_cases e : i = j
   ·subst e; rw [if_pos rfl, if_pos (by omega), hx]
   ·rw [if_neg e]; exact hds j (by omega)
  refine cond_i (fun he => ?_) (fun he => ?_)
  ·have he' : G.to (i : Int) = node := by simpa using he
   refine ⟨⟨by omega, by omega⟩, onSome_i rfl ?_⟩
   refine put k5 v5 (by rw [List.length_set]; omega) fun w6 v6 k6 m6 => ?_
   rw [List.set_set] at v6
   exact fin w6 0 v6 k6 (by rw [if_pos he'])
  ·have he' : ¬ G.to (i : Int) = node := by simpa using he
   exact fin w5 (-1) v5 k5 (by rw [if_neg he'])
 have ei : i = G.m := by omega
 subst ei
 have b0 : CInv G.m (G.src node) (G.nx c) (fun e => e.f) ds := by
  refine ⟨dl, fun v hv => ?_, fun v d hd => ?_⟩
  ·have hvE := hv.1
   rw [hds v.toNat (by have := hvE.2; omega), Int.toNat_of_nonneg hvE.1, if_pos hv.2]
  ·have hv := (List.getElem?_eq_some_iff.1 hd).1
   have h1 := hds v (by omega)
   rw [hd] at h1
   have h2 := Option.some.inj h1
   by_cases e : G.to (v : Int) = node
   ·rw [if_pos e] at h2
    have := met_pos hd (by omega)
    exact .inr ⟨by omega, by rw [h2]; exact .nil ⟨⟨by omega, by omega⟩, e⟩, by simp only [BW]; omega⟩
   ·rw [if_neg e] at h2; exact .inl h2
 clear hX hds hge
 refine ldN_i (l := [.slice, .slice, .slice]) g (own_g (g := g) (og k4)) ?_
 refine RArcs_i (h.keep (k1.tr k4)) ok fun s4 w7 va7 k7 f7 => ?_
 have v7 := v4.mod k7 fun _ _ => id
 have K7 := k4.tr k7
 have hal := G.arcs_len hm.2
 have la := va7.len
 have nB : ∀ b, s4.b = some b → ¬ b.block = B := fun b hb e => by have := f7 b hb; have := v4.lt (a := ⟨B, 0, none⟩) rfl; have h3 : B < w4.heap.size := this; omega
 have hmemA : ∀ e ∈ G.arcs, G.turn e.f e.t = true ∧ e = ⟨e.f, e.t, G.wt e.t, -1⟩ := fun e he => by
  obtain ⟨h1, h2, h3⟩ := G.mem_arcs.1 he
  exact ⟨h1, by cases e; simp_all⟩
 have hnxA : ∀ (b : Int) (e : Arc), e ∈ G.nx c b → e ∈ G.arcs ∧ e.t = b ∧ shutB c b = false := fun b e he => by
  obtain ⟨h1, h2, h3⟩ := G.mem_nx.1 he
  have ht : e.t = b := by rw [h3]
  exact ⟨G.mem_arcs.2 ⟨by rw [ht]; exact h2, by rw [h3], by rw [h3]⟩, ht, h1⟩
 generalize hA : G.arcs = A at *
 refine loop_i (fun c' t w8 => ∃ (ag : Bool) (ds : List Int), t = (ag, ()) ∧ c' = (if ag then total ds + 1 else 0) ∧ CInv G.m (G.src node) (G.nx c) (fun e => e.f) ds ∧ Vec w8 tInt 1 eI ⟨some ⟨B, 0, none⟩, G.m, G.m⟩ ds ∧ Keep w1 w8 ∧ Vec w8 tArc 4 eArc s4 A ∧
   (ag = false → ∀ e ∈ A, shutB c e.t = false → ∀ x y, ds[e.t.toNat]? = some x → 0 ≤ x → ds[e.f.toNat]? = some y → 0 ≤ y ∧ y ≤ x + e.w)) (total ds + 1)
  ⟨true, ds, rfl, rfl, b0, v7, K7, va7, fun h => by cases h⟩ ?_
 clear b0 v7 K7 va7 v4 k4 k7 f7
 rintro c' t w8 ⟨ag, ds, rfl, rfl, b8, v8, k8, va8, hfix⟩ Y hY
 dsimp only
 cases ag with
 | false =>
  refine cond_i (fun h => by cases h) (fun _ => ?_)
  refine hQ _ ds w8 (b8.done hN' fun v x y e hx hx0 he hy => ?_) v8 (k1.tr k8) fresh (fun v x hx => ?_)
  ·obtain ⟨h1, h2, h3⟩ := hnxA _ e he
   exact hfix rfl e h1 (by rw [h2]; exact h3) x y (by rw [h2, Int.toNat_natCast]; exact hx) hx0 hy
  ·have hml := met_le ds
   rw [b8.len] at hml
   rcases b8.val v x hx with h1 | ⟨h0, _, h1⟩
   ·simp only [BW]; omega
   ·simp only [BW] at *; omega
 | true =>
  refine cond_i (fun _ => ?_) (fun h => by cases h)
  simp only [if_true] at hY
  refine loop_i (fun c' t w9 => ∃ (j : Nat) (ag : Bool) (ds' : List Int), j ≤ A.length ∧ c' = A.length - j ∧ t = (ag, (j : Int), ()) ∧ CInv G.m (G.src node) (G.nx c) (fun e => e.f) ds' ∧ Vec w9 tInt 1 eI ⟨some ⟨B, 0, none⟩, G.m, G.m⟩ ds' ∧ Keep w1 w9 ∧ Vec w9 tArc 4 eArc s4 A ∧ (ag = true → total ds' < total ds) ∧
    (ag = false → ds' = ds ∧ ∀ e ∈ A.take j, shutB c e.t = false → ∀ x y, ds[e.t.toNat]? = some x → 0 ≤ x → ds[e.f.toNat]? = some y → 0 ≤ y ∧ y ≤ x + e.w)) A.length
   ⟨0, false, ds, Nat.zero_le _, rfl, rfl, b8, v8, k8, va8, (fun h => by cases h), fun _ => ⟨rfl, by simp⟩⟩ ?_
  rintro c' t w9 ⟨j, ag, ds', hj, rfl, rfl, b9, v9, k9, va9, hag, hno⟩ Z hZ
  dsimp only
  rw [wi_ j (by omega)]
  refine cond_d (fun hlt => ?_) (fun hge3 => ?_)
  ·have hj' : j < A.length := by omega
   have hget := List.getElem?_eq_getElem hj'
   have hmem := List.getElem_mem hj'
   have htk := List.take_succ_eq_append_getElem hj'
   generalize A[j] = e at *
   obtain ⟨hturn, he⟩ := hmemA e hmem
   obtain ⟨eF, eT, _⟩ := G.turn_iff.1 hturn
   obtain ⟨p, hp, hh⟩ := rd_tup (va9.rd lenA) hget
   rw [Int.toNat_natCast]
   refine ⟨⟨by omega, hlt⟩, onSome_i hp (ldN_i (tupA e) hh ?_)⟩
   refine arc_copy (x := e) fun w11 k11 o11 _ => ?_
   have oa := own_arc o11
   have k9_11 := k9.tr k11
   have v11 := v9.mod k11 fun _ _ => id
   have va11 := va9.mod k11 fun _ _ => id
   refine ld1_i (k := .int .i64) e.t oa.2.1 ?_
   refine closed_i (hc.mod (k1.tr k9_11) eB_ne fun _ _ => id) eT.1 ?_
   have take1 : ∀ e' ∈ A.take (j + 1), e' ∈ A.take j ∨ e' = e := fun e' he' => by
    rw [htk] at he'
    rcases List.mem_append.1 he' with h1 | h1
    ·exact .inl h1
    ·exact .inr (by simpa using h1)
   have stay : ∀ wz, Keep w11 wz → (ds' = ds → shutB c e.t = false → ∀ x y, ds[e.t.toNat]? = some x → 0 ≤ x → ds[e.f.toNat]? = some y → 0 ≤ y ∧ y ≤ x + e.w) → Z (ag, ((j + 1 : Nat) : Int), ()) wz := fun wz kz hok => by
    refine hZ _ _ _ (by omega) ⟨j + 1, ag, ds', hj', rfl, rfl, b9, v11.mod kz fun _ _ => id, k9_11.tr kz, va11.mod kz fun _ _ => id, hag, fun hf => ⟨(hno hf).1, fun e' he' => ?_⟩⟩
    rcases take1 e' he' with h1 | rfl
    ·exact (hno hf).2 e' h1
    ·exact hok (hno hf).1
   refine cond_i (fun hs => stay _ (Mod.refl _ _) fun _ hf => by rw [hs] at hf; cases hf) (fun hs => ?_)
   have dl9 := b9.len
   obtain ⟨x, hx⟩ : ∃ x, ds'[e.t.toNat]? = some x := ⟨_, List.getElem?_eq_getElem (by have := eT.2; omega)⟩
   obtain ⟨y, hy⟩ : ∃ y, ds'[e.f.toNat]? = some y := ⟨_, List.getElem?_eq_getElem (by have := eF.2; omega)⟩
   have d11 : Keep w11 w11.drew := Mod.drew (Mod.refl _ w11)
   have vD := v11.mod d11 fun _ _ => id
   obtain ⟨px, hpx, cx⟩ := rd_cell (k := .int .i64) (e := fun x => x) (v11.rd lenI) hx
   obtain ⟨px', hpx', cx'⟩ := rd_cell (k := .int .i64) (e := fun x => x) (vD.rd lenI) hx
   obtain ⟨py, hpy, cy⟩ := rd_cell (k := .int .i64) (e := fun x => x) (vD.rd lenI) hy
   have oD := own_arc (o11.mod d11 id)
   have It : 0 ≤ e.t ∧ e.t < ((G.m : Nat) : Int) := eT
   have If : 0 ≤ e.f ∧ e.f < ((G.m : Nat) : Int) := eF
   refine ld1_i (k := .int .i64) e.t oa.2.1 ⟨It, onSome_i hpx (ld1_i (k := .int .i64) x cx (cond_d (fun hx0 => stay _ (Mod.refl _ _) fun hd _ x' y' hx' h0 _ => ?_) (fun hx0 => ?_)))⟩
   ·rw [hd] at hx; rw [hx] at hx'; cases hx'
    have : x < 0 := hx0
    omega
   have hx0' : 0 ≤ x := by have : ¬ x < 0 := hx0; omega
   have xb : x ≤ 51 * BW := by
    have hml := met_le ds'
    rw [b9.len] at hml
    rcases b9.val _ _ hx with h1 | ⟨_, _, h1⟩
    ·omega
    ·simp only [BW] at *; omega
   have hw := ok.w1 eT
   have hew : e.w = G.wt e.t := by rw [he]
   have wxw : IntKind.wrap .i64 (x + e.w) = x + e.w := w64 (by simp only [BW] at *; omega) (by simp only [BW] at *; omega)
   refine ld1_i (k := .int .i64) e.t oD.2.1 ⟨It, onSome_i hpx' (ld1_i (k := .int .i64) x cx' (ld1_i (k := .int .i64) e.w oD.2.2.1 (ld1_i (k := .int .i64) e.f oD.1 ⟨If, onSome_i hpy (ld1_i (k := .int .i64) y cy ?_)⟩)))⟩
   rw [wxw]
   have hnx : e ∈ G.nx c ((e.t.toNat : Nat) : Int) := by
    rw [Int.toNat_of_nonneg eT.1]
    exact G.mem_nx.2 ⟨hs, hturn, he⟩
   have go : (y < 0 ∨ x + e.w < y) → storeD Tryz.prog tInt ((⟨B, 0, none⟩ : Addr).add (e.f.toNat * 1)) (.int .i64 (x + e.w)) w11.drew fun w13 => Z (true, ((j + 1 : Nat) : Int), ()) w13 := fun hlow => by
    refine put (k9_11.tr d11) vD (by have := eF.2; omega) fun wb vb kb mb => ?_
    obtain ⟨b13, t13⟩ := b9.lower hN' (by omega) hx hx0' hnx hy hlow
    refine hZ _ _ _ (by omega) ⟨j + 1, true, _, hj', rfl, rfl, b13, vb, kb, (va11.mod d11 fun _ _ => id).mod mb fun b hb => nB b hb, fun _ => ?_, fun h => by cases h⟩
    cases ag with
    | true => have := hag rfl; omega
    | false =>
     have := (hno rfl).1
     rw [this] at t13; rw [this]; exact t13
   refine cond_d (fun hneg => ?_) (fun hnn => ?_)
   ·exact ld1_i (k := .int .i64) e.f oD.1 ⟨If, onSome_i rfl (go (.inl hneg))⟩
   ·refine ld1_i (k := .int .i64) e.f oD.1 ⟨If, onSome_i hpy (ld1_i (k := .int .i64) y cy ?_)⟩
    refine cond_d (fun hgt => ld1_i (k := .int .i64) e.f oD.1 ⟨If, onSome_i rfl (go (.inr hgt))⟩) (fun hle => ?_)
    refine stay _ d11 fun hd _ x' y' hx' h0 hy' => ?_
    rw [hd] at hx hy
    rw [hx] at hx'; rw [hy] at hy'
    cases hx'; cases hy'
    have h1 : ¬ y < 0 := hnn
    have h2 : ¬ y > x + e.w := hle
    omega
  ·have ej : j = A.length := by omega
   subst ej
   rw [List.take_length] at hno
   refine hY (if ag then total ds' + 1 else 0) _ _ ?_ ⟨ag, ds', rfl, rfl, b9, v9, k9, va9, fun hf => ?_⟩
   ·cases ag with
    | true => have := hag rfl; simp; omega
    | false => simp
   ·rw [(hno hf).1]; exact (hno hf).2
end
end Go.Proofs.YtjjgcimlmjnaeaaGreat

namespace Go.Proofs.YtjjgcimlmjnaeaaGreat
open Go Go.Den
section
variable {HL : LevS} {n : Nat} {A L : List Arc} {R : List Int} {W : World}
theorem nx_down {fs : List Int} (hA : OkL n A) : NxOk n (inSrc n fs) (downL A R) (fun e => e.f) := by
 refine ⟨fun v h => h.2, fun v e he => ?_⟩
 have hm := hA.may e (mem_inL.1 (List.mem_filter.1 he).1).1
 exact ⟨hm.1, hm.2.1, hm.2.2.2.2.2.1, hm.2.2.2.2.2.2.1⟩
theorem sdown_i {to : Sl} {ts : List Int} {Q : (Sl × Sl × Unit) → World → Prop} (h : LevIs W HL n A R) (hn : n ≤ 51) (hf : Rd W to 1 eI ts) (hfl : ts.length ≤ 1000)
  (hQ : ∀ s1 s2 ds bs w', Grown n (inSrc n ts) (downL A R) (fun e => e.f) ds bs → Vec w' tInt 1 eI s1 ds → Vec w' tInt 1 eI s2 bs → Keep W w' → (∀ b, s1.b = some b → W.heap.size ≤ b.block) → (∀ b, s2.b = some b → W.heap.size ≤ b.block) → Q (s1, s2, ()) w') :
  F_search_down (some ⟨HL.gl, 0, none⟩) to W Q := by
 unfold F_search_down
 refine alloc_i fun w1 o1 k1 z1 => ?_
 refine grow_i (nx := downL A R) (en := fun e => e.f) (h.keep k1) hn (hf.mod k1 eI_ne fun _ _ => id) hfl (nx_down h.net.ok) (fun v => ?_) (fun v w K hw hK => ?_) (fun e w K hK => ?_) fun s1 s2 ds bs w2 hG v1 v2 k2 f1 f2 => ?_
 ·have := h.net.ok.in_len v
  have : (downL A R v).length ≤ (inL A v).length := List.length_filter_le _ _
  omega
 ·refine callV_i S_lL_Down (by kernel_rfl) (first := #[.pointer (some ⟨HL.gl, 0, none⟩)]) (cap := #[]) (decK_intro (ks := [.c .ptr, .c (.int .i64)]) (t := (some ⟨HL.gl, 0, none⟩, v, ())) ?_)
  show F_lL_Down (some ⟨HL.gl, 0, none⟩) v w fun s w' => K (.slice s.b s.l s.c) w'
  exact Down_i hw hK
 ·refine callV_i S_search_down_c1 (by kernel_rfl) (first := #[]) (cap := #[]) (decK_intro (ks := [.agg [.int .i64, .int .i64, .int .i64, .int .i64]]) (t := (tupA e, ())) ?_)
  show F_search_down_c1 (tupA e) w fun x w' => K (.int .i64 x) w'
  unfold F_search_down_c1
  refine alloc_i fun w3 oa k3 _ => ?_
  exact ld1_i (k := .int .i64) e.f (own_arc (x := e) oa).1 (hK w3 k3)
 ·have z := k1.size
  refine tree_store (a := s1) (b := s2) (o1.mod k2 id) rfl fun w3 o3 m3 _ => ?_
  refine ldN_i (l := [.slice, .slice]) (s1, s2, ()) (own_all o3) ?_
  exact hQ s1 s2 ds bs w3 hG (v1.mod m3 fun a ha e => by have := f1 a ha; have : a.block = W.heap.size := e; omega) (v2.mod m3 fun a ha e => by have := f2 a ha; have : a.block = W.heap.size := e; omega)
   ((k1.tr k2).fresh m3 fun k e => by rw [show k = W.heap.size from e]; exact Nat.le_refl _) (fun b hb => by have := f1 b hb; omega) (fun b hb => by have := f2 b hb; omega)
end
end Go.Proofs.YtjjgcimlmjnaeaaGreat

namespace Go.Proofs.YtjjgcimlmjnaeaaGreat
open Go Go.Den
structure EngS where
 e : Nat
 t : TurS
 L : LevS
 ord : Sl
abbrev Gr.A (G : Gr) : List Arc := (bldN G.m G.net G.m).all
abbrev Gr.R (G : Gr) : List Int := (bldN G.m G.net G.m).rank
structure EngIs (w : World) (E : EngS) (G : Gr) : Prop where
 head : Own w E.e tEngine [.pointer (some ⟨E.t.t, 0, none⟩), .pointer (some ⟨E.L.gl, 0, none⟩), sv E.ord]
 tur : TurIs w E.t G
 lev : LevIs w E.L G.m (Gr.A G) (Gr.R G)
 ord : ∃ os : List Int, Rd w E.ord 1 eI os ∧ os.length = G.m ∧ ∀ i, i < G.m → ∃ v : Nat, v < G.m ∧ os[i]? = some (v : Int) ∧ rankOf (Gr.R G) (v : Int) = (G.m : Int) - 1 - i
theorem EngIs.keep {w w' : World} {E : EngS} {G : Gr} (h : EngIs w E G) (k : Keep w w') : EngIs w' E G := by
 obtain ⟨os, h1, h2⟩ := h.ord
 exact ⟨h.head.mod k id, h.tur.keep k, h.lev.keep k, os, h1.mod k eI_ne fun _ _ => id, h2⟩
theorem EngIs.cells {w : World} {E : EngS} {G : Gr} (h : EngIs w E G) : w.cell? ((⟨E.e, 0, none⟩ : Addr).add 0) = some (.pointer (some ⟨E.t.t, 0, none⟩)) ∧ w.cell? ((⟨E.e, 0, none⟩ : Addr).add 1) = some (.pointer (some ⟨E.L.gl, 0, none⟩)) ∧ w.cell? ((⟨E.e, 0, none⟩ : Addr).add 2) = some (sv E.ord) := own3 h.head
theorem ENew_i {g : GT} {G : Gr} {W : World} {Q : Option Addr → Int → World → Prop} (h : GvIs W g G) (ok : OkG G) (hQ : ∀ E w', EngIs w' E G → Keep W w' → Q (some ⟨E.e, 0, none⟩) 0 w') : F_engine_New g W Q := by
 unfold F_engine_New
 have hm := ok.m1
 refine alloc_i fun w1 o1 k1 z1 => ?_
 refine ldN_i (l := [.slice, .slice, .slice]) g (own_g (g := g) o1) ?_
 refine gNew_i (g := g) (h.keep k1) ok fun H w2 hH k2 _ => ?_
 refine cond_i (fun h => by simp at h) (fun _ => ?_)
 refine TNew_i hH fun t w3 ht htH k3 => ?_
 subst htH
 refine onSome_i rfl (ld1_i (k := .ptr) (some ⟨t.H.g, 0, none⟩) ht.cells.1 (Edges_i ht.gra ?_))
 refine Arcs_i ht fun s1 w5 v5 k5 f5 => ?_
 have hal := G.arcs_len hm.2
 refine DeleteFunc_i (p := fun x => x.f == x.t) (C := fun _ => True) v5 (by omega) trivial (fun _ _ _ _ => trivial) (fun x w K _ _ hK => ?_) fun s2 w6 v6 m6 e6 => ?_
 ·refine callV_i S_engine_New_c1 (by kernel_rfl) (decK_intro (ks := [.agg [.int .i64, .int .i64, .int .i64, .int .i64]]) (t := (tupA x, ())) ?_)
  show F_engine_New_c1 _ _ _
  unfold F_engine_New_c1
  refine alloc_i fun wa oa ka _ => ?_
  have oa' : Own wa w.heap.size tArc (eArc x) := oa
  exact ld1_i (k := .int .i64) x.f (own_arc oa').1 (ld1_i (k := .int .i64) x.t (own_arc oa').2.1 (hK wa ka))
 have hnet : (G.arcs.filter fun x => !(x.f == x.t)) = G.net := rfl
 rw [hnet] at v6
 have k36 : Keep w3 w6 := k5.fresh m6 fun k ⟨b, hb, e⟩ => by rw [e]; exact f5 b hb
 have hnl : G.net.length ≤ 2601 := Nat.le_trans (List.length_filter_le _ _) hal
 refine New_i (v6.rd lenA) (by omega) (fun w7 k7 hbad => ?_) fun w7 N n0 n1 hmay hN k7 _ => ?_
 ·exact absurd ⟨by omega, by omega, fun a ha => by rw [Int.toNat_natCast]; exact (ok.net_may a ha).1⟩ hbad
 rw [Int.toNat_natCast, putAll_self (p := []) (by simpa using ok.net_ok), List.nil_append] at hN
 have d7 : Keep w7 w7.drew := Mod.drew (Mod.refl _ w7)
 have k37 := (k36.tr k7).tr d7
 have ht7 := ht.keep k37
 refine onSome_i rfl (ld1_i (k := .ptr) (some ⟨t.H.g, 0, none⟩) ht7.cells.1 ?_)
 have hw40 : ∀ e ∈ G.net, e.w ≤ 40 := fun e he => (ok.net_may e he).2.1
 refine Build_i (hN.keep d7) hm.2 hw40 fun w8 HL hL k8 _ => ?_
 have hL' : LevIs w8 HL G.m (Gr.A G) (Gr.R G) := hL
 clear hL
 have k38 := k37.tr k8
 have ht8 := ht.keep k38
 refine ⟨ht8.cells.1, Edges_i ht8.gra ?_⟩
 refine make_i elem_sInt (enc := eI) (0 : Int) rfl lenI (by omega) (Int.le_refl _) (by omega) (by omega) fun w10 v10 k10 => ?_
 simp only [Int.toNat_natCast] at v10 ⊢
 refine alloc_i fun w11 o11 k11 z11 => ?_
 have z10 : w8.heap.size < w10.heap.size := v10.lt rfl
 generalize hs3 : (⟨some ⟨w8.heap.size, 0, none⟩, G.m, G.m⟩ : Sl) = s3 at *
 have s3b : s3.b = some ⟨w8.heap.size, 0, none⟩ := by rw [← hs3]
 have o11' : Own w11 w10.heap.size tEngine [.pointer (some ⟨t.t, 0, none⟩), .pointer (some ⟨HL.gl, 0, none⟩), sv s3] := by
  have := o11
  rw [← hs3]; exact this
 have k811 := k10.tr k11
 have hL11 := hL'.keep k811
 have ht11 := ht8.keep k811
 have c11 := own3 o11'
 refine ld1_i (k := .slice) s3 c11.2.2 ?_
 have v11 := v10.mod k11 fun _ _ => id
 have rng : ∀ v : Int, 0 ≤ v → v < G.m → 0 ≤ rankOf (Gr.R G) v ∧ rankOf (Gr.R G) v < G.m := fun v h0 h1 => rank_rng ok.net_ok hw40 hm.2 h0 h1
 have rne : ∀ v w : Nat, v < G.m → w < G.m → v ≠ w → rankOf (Gr.R G) (v : Int) ≠ rankOf (Gr.R G) (w : Int) := fun v w hv hw hne => rank_ne ok.net_ok hw40 hm.2 (by omega) (by omega) (by omega) (by omega) (by omega)
 have ronto : ∀ {r : Nat}, r < G.m → ∃ v : Nat, v < G.m ∧ rankOf (Gr.R G) (v : Int) = (r : Int) := fun hr => rank_onto ok.net_ok hw40 hm.2 hr
 have s3l : s3.l = G.m := by rw [← hs3]
 have KW8 := k1.tr (k2.tr (k3.tr k38))
 clear hnl hL11 ht11 c11
 generalize hRR : Gr.R G = R at *
 refine loop_i (fun c s w12 => ∃ (v : Nat) (os : List Int), v ≤ G.m ∧ c = G.m - v ∧ s = ((v : Int), ()) ∧ Keep w8 w12 ∧ Own w12 w10.heap.size tEngine [.pointer (some ⟨t.t, 0, none⟩), .pointer (some ⟨HL.gl, 0, none⟩), sv s3] ∧ Vec w12 tInt 1 eI s3 os ∧ os.length = G.m ∧
   ∀ u : Nat, u < v → os[((G.m : Int) - 1 - rankOf R (u : Int)).toNat]? = some (u : Int)) G.m ⟨0, _, Nat.zero_le _, rfl, rfl, k811, o11', v11, by simp, fun u hu => by omega⟩ ?_
 rintro c s w12 ⟨v, os, hv, rfl, rfl, k12, o12, v12, hlen, hos⟩ X hX
 dsimp only
 refine cond_d (fun hlt => ?_) (fun hge => ?_)
 ·have hv' : v < G.m := by omega
  have d12 : Keep w12 w12.drew := Mod.drew (Mod.refl _ w12)
  have kd := k12.tr d12
  have od := o12.mod d12 id
  obtain ⟨c0, c1, c2⟩ := own3 od
  have htd := ht8.keep kd
  have hLd := hL'.keep kd
  refine ld1_i (k := .slice) s3 c2 (onSome_i rfl (ld1_i (k := .ptr) (some ⟨t.H.g, 0, none⟩) htd.cells.1 (ld1_i (k := .ptr) (some ⟨HL.gl, 0, none⟩) c1 (Edges_i htd.gra ⟨c1, c2, ?_⟩))))
  refine Rank_i hLd ⟨c2, ?_⟩
  obtain ⟨r0, r1⟩ := rng (v : Int) (by omega) (by omega)
  have wi : IntKind.wrap .i64 ((IntKind.wrap .i64 ((G.m : Int) - (1 : Int))) - rankOf R (v : Int)) = (((G.m : Int) - 1 - rankOf R (v : Int)).toNat : Int) := by
   rw [w64 (n := (G.m : Int) - 1) (by omega) (by omega), w64 (by omega) (by omega)]; omega
  rw [wi, Int.toNat_natCast]
  have hil : ((G.m : Int) - 1 - rankOf R (v : Int)).toNat < G.m := by omega
  refine ⟨⟨by omega, by omega⟩, onSome_i s3b ?_⟩
  refine (v12.mod d12 fun _ _ => id).store lenI s3b (i := ((G.m : Int) - 1 - rankOf R (v : Int)).toNat) (by omega) (v : Int) (v := .int .i64 (v : Int)) rfl size_Int (oneI _) fun w13 v13 m13 _ => ?_
  have m13' : Mod (fun k => k = w8.heap.size) w12.drew w13 := m13
  rw [wi_ v (by omega)]
  refine hX _ _ _ (by omega) ⟨v + 1, _, hv', rfl, rfl, kd.fresh m13' fun k e => by rw [show k = w8.heap.size from e]; exact Nat.le_refl _, od.mod m13' fun e => by have e' : w10.heap.size = w8.heap.size := e; omega, v13, by rw [List.length_set]; exact hlen, fun u hu => ?_⟩
  rw [List.getElem?_set]
  by_cases e : u = v
  ·subst e; rw [if_pos rfl, if_pos (by omega)]
  ·have hne := rne u v (by omega) hv' e
   obtain ⟨q0, q1⟩ := rng (u : Int) (by omega) (by omega)
   rw [if_neg (by omega)]
   exact hos u (by omega)
 ·have ev : v = G.m := by omega
  subst ev
  subst hRR
  refine hQ ⟨w10.heap.size, t, HL, s3⟩ w12 ⟨o12, ht8.keep k12, hL'.keep k12, os, v12.rd lenI, hlen, fun i hi => ?_⟩ (KW8.tr k12)
  obtain ⟨u, hu, hr⟩ := ronto (r := G.m - 1 - i) (by omega)
  have := hos u hu
  rw [hr, show ((G.m : Int) - 1 - ((G.m - 1 - i : Nat) : Int)).toNat = i by omega] at this
  exact ⟨u, hu, this, by rw [hr]; omega⟩
end Go.Proofs.YtjjgcimlmjnaeaaGreat

namespace Go.Proofs.YtjjgcimlmjnaeaaGreat
open Go Go.Den
theorem far_i {E : EngS} {G : Gr} {node : Int} {W : World} {Q : Sl → World → Prop} (h : EngIs W E G) (hQ : ∀ s ds w', G.far [] node ds → Vec w' tInt 1 eI s ds → Keep W w' → (∀ b, s.b = some b → W.heap.size ≤ b.block) → (∀ (v : Nat) x, ds[v]? = some x → -1 ≤ x ∧ x ≤ 102 * BW) → Q s w') :
  F_eE_far (some ⟨E.e, 0, none⟩) node W Q := by
 unfold F_eE_far
 have ok := h.tur.gra.ok
 have hm := ok.m1
 have hw40 : ∀ e ∈ G.net, e.w ≤ 40 := fun e he => (ok.net_may e he).2.1
 have rng : ∀ v : Int, 0 ≤ v → v < G.m → 0 ≤ rankOf (Gr.R G) v ∧ rankOf (Gr.R G) v < G.m := fun v h0 h1 => rank_rng ok.net_ok hw40 hm.2 h0 h1
 have rne : ∀ v w : Nat, v < G.m → w < G.m → v ≠ w → rankOf (Gr.R G) (v : Int) ≠ rankOf (Gr.R G) (w : Int) := fun v w hv hw hne => rank_ne ok.net_ok hw40 hm.2 (by omega) (by omega) (by omega) (by omega) (by omega)
 have hA := h.lev.net.ok
 have d : Keep W W.drew := Mod.drew (Mod.refl _ W)
 have hd := h.keep d
 refine onSome_i rfl (ld1_i (k := .ptr) (some ⟨E.L.gl, 0, none⟩) hd.cells.2.1 (onSome_i rfl (ld1_i (k := .ptr) (some ⟨E.t.t, 0, none⟩) hd.cells.1 (onSome_i rfl (ld1_i (k := .ptr) (some ⟨E.t.H.g, 0, none⟩) hd.tur.cells.1 ?_)))))
 refine gIn_i hd.tur.gra fun s1 w1 v1 k1 f1 => ?_
 have K1 := d.tr k1
 have h1 := h.keep K1
 refine ⟨h1.cells.2.1, ?_⟩
 unfold F_search_Down
 refine sdown_i h1.lev hm.2 (v1.rd lenI) (by have := G.inN_len node; omega) fun s2 sb ds bs w2 hG v2 _ k2 f2 _ => ?_
 have K2 := K1.tr k2
 have h2 := h.keep K2
 have hz := K1.size
 refine onSome_i rfl (ld1_i (k := .slice) E.ord h2.cells.2.2 ?_)
 obtain ⟨os, ho, hol, hos⟩ := h.ord
 have hll := ho.len
 rw [hol] at hll
 have F0 : LFar G.m (Gr.A G) (Gr.R G) (GW (inSrc G.m (G.inN node)) (downL (Gr.A G) (Gr.R G)) (fun e => e.f)) 0 ds := LFar.start hG.far (fun v h0 h1 => (rng v h0 h1).2) hG.bnd
 generalize hDn : GW (inSrc G.m (G.inN node)) (downL (Gr.A G) (Gr.R G)) (fun e => e.f) = Dn at F0
 clear hG
 have hlow : ∀ b, s2.b = some b → W.heap.size ≤ b.block := fun b hb => Nat.le_trans hz (f2 b hb)
 refine loop_i (fun c s w3 => ∃ (i : Nat) (ds : List Int), i ≤ G.m ∧ c = G.m - i ∧ s = ((i : Int), ()) ∧ Keep W w3 ∧ Vec w3 tInt 1 eI s2 ds ∧ LFar G.m (Gr.A G) (Gr.R G) Dn i ds) G.m ⟨0, ds, Nat.zero_le _, rfl, rfl, K2, v2, F0⟩ ?_
 clear F0 v2 ds h2
 rintro c s w3 ⟨i, ds, hi, rfl, rfl, k3, v3, F⟩ X hX
 dsimp only
 refine cond_d (fun hlt => ?_) (fun hge => ?_)
 ·have hi' : i < G.m := by omega
  obtain ⟨v, hv, hov, hrv⟩ := hos i hi'
  obtain ⟨p, hp, hc⟩ := rd_cell (k := .int .i64) (e := fun x => x) (ho.mod k3 eI_ne fun _ _ => id) hov
  have h3 := h.keep k3
  rw [Int.toNat_natCast]
  refine ⟨⟨by omega, hlt⟩, onSome_i hp (ld1_i (k := .int .i64) (v : Int) hc (onSome_i rfl (ld1_i (k := .ptr) (some ⟨E.L.gl, 0, none⟩) h3.cells.2.1 ?_)))⟩
  refine Up_i h3.lev fun s4 w4 v4 k4 f4 => ?_
  have l4 := v4.len
  have hul : (upL (Gr.A G) (Gr.R G) (v : Int)).length ≤ 262144 := Nat.le_trans (List.length_filter_le _ _) (Nat.le_trans (List.length_filter_le _ _) (hA.len (by omega)))
  obtain ⟨g2, hg2⟩ : ∃ g2, s2.b = some ⟨g2, 0, none⟩ := by
   rcases v3.own with ⟨_, hh⟩ | ⟨g, _, hb, _⟩
   ·have := v3.cap; have := v3.len; have := F.len; omega
   ·exact ⟨g, hb⟩
  have g2lt : g2 < w3.heap.size := v3.lt hg2
  have f4' : ∀ b, s4.b = some b → b.block ≠ g2 := fun b hb => by have := f4 b hb; omega
  have g2low : W.heap.size ≤ g2 := hlow _ hg2
  have hupm : ∀ e ∈ upL (Gr.A G) (Gr.R G) (v : Int), mayA G.m e ∧ rankOf (Gr.R G) (v : Int) < rankOf (Gr.R G) e.t := fun e he => by
   unfold upL at he
   rw [List.mem_filter, mem_outL] at he
   exact ⟨hA.may e he.1.1, by simpa using he.2⟩
  obtain ⟨x0, hx0⟩ : ∃ x0, ds[v]? = some x0 := ⟨_, List.getElem?_eq_getElem (by rw [F.len]; exact hv)⟩
  have hL0 : LeastIs (fun d => Dn (v : Int) d ∨ ∃ e ∈ (upL (Gr.A G) (Gr.R G) (v : Int)).take 0, ∃ d', UPD (Gr.A G) (Gr.R G) Dn e.t d' ∧ d = e.w + d') x0 := (F.dn v x0 hx0 (by omega)).congr fun k => by simp
  have hb0 := F.bnd v x0 hx0
  have hset0 : ds.set v x0 = ds := by
   apply List.ext_getElem?
   intro j
   rw [List.getElem?_set]
   by_cases e : v = j
   ·subst e; rw [if_pos rfl, if_pos (by rw [F.len]; exact hv), hx0]
   ·rw [if_neg e]
  have hio := fun e he => upd_iff (A := Gr.A G) (R := Gr.R G) (Dn := Dn) (v := e) (d := he)
  generalize hU : upL (Gr.A G) (Gr.R G) (v : Int) = us at *
  refine loop_i (fun c s w5 => ∃ (j : Nat) (x : Int), j ≤ us.length ∧ c = us.length - j ∧ s = ((j : Int), ()) ∧ Keep W w5 ∧ Vec w5 tInt 1 eI s2 (ds.set v x) ∧ Vec w5 tArc 4 eArc s4 us ∧ (-1 ≤ x ∧ x ≤ (G.m + (i + 1 : Nat)) * BW) ∧
    LeastIs (fun d => Dn (v : Int) d ∨ ∃ e ∈ us.take j, ∃ d', UPD (Gr.A G) (Gr.R G) Dn e.t d' ∧ d = e.w + d') x) us.length
   ⟨0, x0, Nat.zero_le _, rfl, rfl, k3.tr k4, by rw [hset0]; exact v3.mod k4 fun _ _ => id, v4, ⟨hb0.1, by simp only [BW] at *; omega⟩, hL0⟩ ?_
  rintro c s w5 ⟨j, x, hj, rfl, rfl, k5, v5, v4', hbx, hL⟩ Y hY
  dsimp only
  refine cond_d (fun hlt2 => ?_) (fun hge2 => ?_)
  ·have hj' : j < us.length := by omega
   have hget := List.getElem?_eq_getElem hj'
   obtain ⟨hmay, hrk⟩ := hupm _ (List.getElem_mem hj')
   have htk := List.take_succ_eq_append_getElem hj'
   generalize us[j] = e at *
   obtain ⟨pa, hpa, hh⟩ := rd_tup (v4'.rd lenA) hget
   rw [Int.toNat_natCast]
   refine ⟨⟨by omega, hlt2⟩, onSome_i hpa (ldN_i (tupA e) hh ?_)⟩
   refine arc_copy (x := e) fun w7 k7 o7 _ => ?_
   refine ld1_i (k := .int .i64) e.t (own_arc o7).2.1 ?_
   have k57 := k5.tr k7
   have v7 := v5.mod k7 fun _ _ => id
   have hvt : v ≠ e.t.toNat := fun h => by
    have : e.t = (v : Int) := by have := hmay.2.2.1; omega
    rw [this] at hrk; omega
   obtain ⟨y, hy⟩ : ∃ y, ds[e.t.toNat]? = some y := ⟨_, List.getElem?_eq_getElem (by rw [F.len]; have := hmay.2.2.1; have := hmay.2.2.2.1; omega)⟩
   have hyt : ((e.t.toNat : Nat) : Int) = e.t := Int.toNat_of_nonneg hmay.2.2.1
   have hLy := F.up e.t.toNat y hy (by rw [hyt]; omega)
   rw [hyt] at hLy
   have hby := F.bnd _ y hy
   have hys : (ds.set v x)[e.t.toNat]? = some y := by rw [List.getElem?_set, if_neg hvt]; exact hy
   have hvs : (ds.set v x)[v]? = some x := by rw [List.getElem?_set, if_pos rfl, if_pos (by rw [F.len]; exact hv)]
   obtain ⟨p1, hp1, hc1⟩ := rd_cell (k := .int .i64) (e := fun x => x) (v7.rd lenI) hys
   have l7 := v7.len
   rw [List.length_set, F.len] at l7
   have hw1 := hmay.2.2.2.2.2.1
   have hw2 := hmay.2.2.2.2.2.2.1
   have hlow := hL.lower hLy (w := e.w) (by omega)
   have hcon : ∀ z, LeastIs (fun d => (Dn (v : Int) d ∨ ∃ e ∈ us.take j, ∃ d', UPD (Gr.A G) (Gr.R G) Dn e.t d' ∧ d = e.w + d') ∨ ∃ d', UPD (Gr.A G) (Gr.R G) Dn e.t d' ∧ d = e.w + d') z → LeastIs (fun d => Dn (v : Int) d ∨ ∃ e ∈ us.take (j + 1), ∃ d', UPD (Gr.A G) (Gr.R G) Dn e.t d' ∧ d = e.w + d') z := fun z hz => hz.congr fun k => by
    rw [htk]
    constructor
    ·rintro ((h1 | ⟨e', he', h1⟩) | h1)
     ·exact .inl h1
     ·exact .inr ⟨e', List.mem_append.2 (.inl he'), h1⟩
     ·exact .inr ⟨e, by simp, h1⟩
    ·rintro (h1 | ⟨e', he', h1⟩)
     ·exact .inl (.inl h1)
     ·rcases List.mem_append.1 he' with he' | he'
      ·exact .inl (.inr ⟨e', he', h1⟩)
      ·have : e' = e := by simpa using he'
       rw [this] at h1
       exact .inr h1
   have It : 0 ≤ e.t ∧ e.t < ((s2.l : Nat) : Int) := ⟨hmay.2.2.1, by rw [l7]; exact hmay.2.2.2.1⟩
   have Iv : 0 ≤ (v : Int) ∧ (v : Int) < ((s2.l : Nat) : Int) := ⟨by omega, by rw [l7]; omega⟩
   have o7' := own_arc o7
   refine ⟨It, onSome_i hp1 (ld1_i (k := .int .i64) y hc1 ?_)⟩
   have same : ∀ wz, Keep w7 wz → ¬ (0 ≤ y ∧ (x < 0 ∨ y + e.w < x)) → Y (IntKind.wrap .i64 ((j : Int) + 1), ()) wz := fun wz kz hn => by
    rw [if_neg hn] at hlow
    rw [wi_ j (by omega)]
    exact hY _ _ _ (by omega) ⟨j + 1, x, hj', rfl, rfl, k57.tr kz, v7.mod kz fun _ _ => id, (v4'.mod k7 fun _ _ => id).mod kz fun _ _ => id, hbx, hcon _ hlow⟩
   have d7 : Keep w7 w7.drew := Mod.drew (Mod.refl _ w7)
   have hsum : y + e.w ≤ (G.m + (i + 1 : Nat)) * BW := by simp only [BW] at *; omega
   have wsm : 0 ≤ y → IntKind.wrap .i64 (y + e.w) = y + e.w := fun h0 => w64 (by omega) (by simp only [BW] at *; omega)
   have put : 0 ≤ y → (x < 0 ∨ y + e.w < x) → storeD Tryz.prog tInt ((⟨g2, 0, none⟩ : Addr).add (v * 1)) (Value.int .i64 (y + e.w)) w7.drew fun w8 => Y (IntKind.wrap .i64 ((j : Int) + 1), ()) w8 := fun h0 hlt3 => by
    rw [if_pos ⟨h0, hlt3⟩] at hlow
    refine (v7.mod d7 fun _ _ => id).store lenI hg2 (i := v) (by rw [List.length_set, F.len]; exact hv) (y + e.w) (v := .int .i64 (y + e.w)) rfl size_Int (oneI _) fun w8 v8 m8 _ => ?_
    have m8' : Mod (fun k => k = g2) w7.drew w8 := m8
    rw [List.set_set] at v8
    rw [wi_ j (by omega)]
    refine hY _ _ _ (by omega) ⟨j + 1, y + e.w, hj', rfl, rfl, (k57.tr d7).fresh m8' fun k e => by rw [show k = g2 from e]; exact g2low, v8, ((v4'.mod k7 fun _ _ => id).mod d7 fun _ _ => id).mod m8' fun b hb e => f4' b hb e, ⟨by omega, hsum⟩, hcon _ hlow⟩
   refine cond_d (fun h0 => ?_) (fun h0 => same _ d7 fun hh => h0 hh.1)
   have h0' : 0 ≤ y := h0
   obtain ⟨p2, hp2, hc2⟩ := rd_cell (k := .int .i64) (e := fun x => x) ((v7.mod d7 fun _ _ => id).rd lenI) hvs
   have ow : ∀ {q : Addr}, w7.cell? q = some (.int .i64 e.w) → w7.drew.cell? q = some (.int .i64 e.w) := fun hq => d7.cell hq id
   rw [Int.toNat_natCast]
   refine ⟨Iv, onSome_i hp2 (ld1_i (k := .int .i64) x hc2 ?_)⟩
   refine cond_d (fun hneg => ?_) (fun hnn => ?_)
   ·refine ld1_i (k := .int .i64) e.w (ow o7'.2.2.1) ?_
    rw [wsm h0']
    exact ⟨Iv, onSome_i hg2 (put h0' (.inl hneg))⟩
   ·refine ld1_i (k := .int .i64) e.w (ow o7'.2.2.1) ⟨Iv, onSome_i hp2 (ld1_i (k := .int .i64) x hc2 ?_)⟩
    rw [wsm h0']
    refine cond_d (fun hlt4 => ?_) (fun hge4 => same _ d7 fun hh => hh.2.elim hnn hge4)
    refine ld1_i (k := .int .i64) e.w (ow o7'.2.2.1) ?_
    rw [wsm h0']
    exact ⟨Iv, onSome_i hg2 (put h0' (.inr hlt4))⟩
  ·have ej : j = us.length := by omega
   subst ej
   rw [List.take_length] at hL
   rw [wi_ i (by omega)]
   refine hX _ _ _ (by omega) ⟨i + 1, _, hi', rfl, rfl, k5, v5, F.step rne hv hrv (hL.congr fun k => by rw [← hU]; exact upd_iff.symm) hbx⟩
 ·have ei : i = G.m := by omega
  subst ei
  have hf := F.done fun v h0 h1 => (rng v h0 h1).1
  rw [← hDn] at hf
  exact hQ s2 ds w3 (ok.levels_far hf) v3 k3 hlow fun v x hx => by have := F.bnd v x hx; simp only [BW] at *; omega
end Go.Proofs.YtjjgcimlmjnaeaaGreat

namespace Go.Proofs.YtjjgcimlmjnaeaaGreat
open Go Go.Den
theorem IndexI_i {s : Sl} {xs : List Int} {f : Value} {p : Int → Bool} {w : World} {Q : Int → World → Prop} {C : World → Prop} (hs : Rd w s 1 eI xs) (hl : xs.length < 1000000) (hC : C w) (hCk : ∀ w1 w2, C w1 → Keep w1 w2 → C w2)
  (hf : ∀ x w1 (K : Value → World → Prop), C w1 → x ∈ xs → (∀ w2, Keep w1 w2 → K (.bool (p x)) w2) → callV Tryz.prog f [.int .i64 x] w1 K)
  (hQ : ∀ i w', Keep w w' → (0 ≤ i ↔ ∃ x ∈ xs, p x = true) → Q i w') : F_slices_IndexFunc_sint_int s f w Q := by
 unfold F_slices_IndexFunc_sint_int
 have sl := hs.len
 refine loop_i (fun c t w1 => ∃ (i : Nat), i ≤ xs.length ∧ c = xs.length - i ∧ t = ((i : Int), ()) ∧ Keep w w1 ∧ ∀ x ∈ xs.take i, p x = false) xs.length ⟨0, Nat.zero_le _, rfl, rfl, Mod.refl _ _, by simp⟩ ?_
 rintro c t w1 ⟨i, hi, rfl, rfl, k1, hn⟩ X hX
 dsimp only
 refine cond_d (fun hlt => ?_) (fun hge => ?_)
 ·have hi' : i < xs.length := by omega
  have hget := List.getElem?_eq_getElem hi'
  have hmem := List.getElem_mem hi'
  have htk := List.take_succ_eq_append_getElem hi'
  generalize xs[i] = x at *
  obtain ⟨q, hq, hc⟩ := rd_cell (k := .int .i64) (e := fun x => x) (hs.mod k1 eI_ne fun _ _ => id) hget
  rw [Int.toNat_natCast]
  refine ⟨⟨by omega, hlt⟩, onSome_i hq (ld1_i (k := .int .i64) x hc ?_)⟩
  refine hf x w1 _ (hCk _ _ hC k1) hmem fun w2 k2 => ⟨p x, rfl, ?_⟩
  refine cond_i (fun hp => hQ _ w2 (k1.tr k2) ⟨fun _ => ⟨x, hmem, hp⟩, fun _ => by omega⟩) (fun hp => ?_)
  rw [wi_ i (by omega)]
  refine hX _ _ _ (by omega) ⟨i + 1, hi', rfl, rfl, k1.tr k2, fun y hy => ?_⟩
  rw [htk] at hy
  rcases List.mem_append.1 hy with hy | hy
  ·exact hn y hy
  ·have : y = x := by simpa using hy
   rw [this]; exact hp
 ·have ei : i = xs.length := by omega
  subst ei
  rw [List.take_length] at hn
  exact hQ (-1) w1 k1 ⟨fun h => by omega, fun ⟨x, hx, hp⟩ => by rw [hn x hx] at hp; cases hp⟩
theorem ContainsI_i {s : Sl} {xs : List Int} {f : Value} {p : Int → Bool} {w : World} {Q : Bool → World → Prop} {C : World → Prop} (hs : Rd w s 1 eI xs) (hl : xs.length < 1000000) (hC : C w) (hCk : ∀ w1 w2, C w1 → Keep w1 w2 → C w2)
  (hf : ∀ x w1 (K : Value → World → Prop), C w1 → x ∈ xs → (∀ w2, Keep w1 w2 → K (.bool (p x)) w2) → callV Tryz.prog f [.int .i64 x] w1 K)
  (hQ : ∀ b w', Keep w w' → (b = true ↔ ∃ x ∈ xs, p x = true) → Q b w') : F_slices_ContainsFunc_sint_int s f w Q := by
 unfold F_slices_ContainsFunc_sint_int
 exact IndexI_i hs hl hC hCk hf fun i w' k hi => hQ _ w' k (by rw [← hi]; simp)
abbrev AT := Sl × Int × Bool × Bool × Unit
abbrev eAns (a : AT) : List Value := [sv a.1, .int .i64 a.2.1, .bool a.2.2.1, .bool a.2.2.2.1]
theorem oneAns (a : AT) : ∀ u ∈ eAns a, u.oneCell' = true := by intro u hu; simp at hu; rcases hu with rfl | rfl | rfl | rfl <;> rfl
theorem own_ans {w : World} {b : Nat} {e : TypeId} {a : AT} (h : Own w b e (eAns a)) : HoldsAt w ⟨b, 0, none⟩ 0 (encs [.slice, .int .i64, .bool, .bool] a) := own_all h
theorem own4 {w : World} {g : Nat} {e : TypeId} {x y z u : Value} (h : Own w g e [x, y, z, u]) : w.cell? ((⟨g, 0, none⟩ : Addr).add 0) = some x ∧ w.cell? ((⟨g, 0, none⟩ : Addr).add 1) = some y ∧ w.cell? ((⟨g, 0, none⟩ : Addr).add 2) = some z ∧ w.cell? ((⟨g, 0, none⟩ : Addr).add 3) = some u := by
 refine ⟨?_, ?_, ?_, ?_⟩ <;> rw [addr_lit, h.cell] <;> rfl
theorem ansEnd {T : TypeId} {w : World} {b : Nat} {a : AT} {Q : AT → World → Prop} (hT : (Tryz.prog.info? T).map (·.size) = some 4) (h : Own w b T (eAns a)) (hQ : ∀ w', Own w' b T (eAns a) → Mod (fun k => k = b) w w' → Q a w') :
  ldN [.slice, .int .i64, .bool, .bool] w ⟨b, 0, none⟩ fun (t1 : AT) => storeD Tryz.prog T ⟨b, 0, none⟩ (Value.agg #[(Value.slice t1.1.b t1.1.l t1.1.c), (Value.int .i64 t1.2.1), (Value.bool t1.2.2.1), (Value.bool t1.2.2.2.1)]) w fun w3 =>
   ldN [.slice, .int .i64, .bool, .bool] w3 ⟨b, 0, none⟩ fun (t2 : AT) => Q (t2.1, t2.2.1, t2.2.2.1, t2.2.2.2.1, ()) w3 := by
 refine ldN_i (l := [.slice, .int .i64, .bool, .bool]) a (own_ans h) ?_
 refine agg_store (vs := eAns a) h hT rfl (oneAns a) fun w3 o3 m3 _ => ?_
 exact ldN_i (l := [.slice, .int .i64, .bool, .bool]) a (own_ans o3) (hQ w3 o3 m3)
theorem Way_i {E : EngS} {G : Gr} {at_ node : Int} {closed : Sl} {c : List Bool} {W : World} {Q : AT → World → Prop} (h : EngIs W E G) (hc : Rd W closed 1 eB c)
  (hQ : ∀ s wt f r l w', G.AnsIs node at_ c l wt f r → Vec w' tInt 1 eI s l → (∀ x ∈ l, G.isE x) → l.length ≤ 51 → Keep W w' → (∀ b, s.b = some b → W.heap.size ≤ b.block) → Q (s, wt, f, r, ()) w') : F_eE_Way (some ⟨E.e, 0, none⟩) at_ node closed W Q := by
 unfold F_eE_Way
 have ok := h.tur.gra.ok
 have hm := ok.m1
 refine alloc_i fun w1 o1 k1 z1 => alloc_i fun w2 o2 k2 z2 => ?_
 have K2 := k1.tr k2
 have hW1 : W.heap.size < w1.heap.size := by omega
 have o2' : Own w2 w1.heap.size tAns (eAns (⟨none, 0, 0⟩, 0, false, false, ())) := o2
 have fin : ∀ w3, Keep w2 w3 → ¬ G.isN node → ldN [.slice, .int .i64, .bool, .bool] w3 ⟨w1.heap.size, 0, none⟩ fun (t1 : AT) => storeD Tryz.prog tAns ⟨w1.heap.size, 0, none⟩ (Value.agg #[(Value.slice t1.1.b t1.1.l t1.1.c), (Value.int .i64 t1.2.1), (Value.bool t1.2.2.1), (Value.bool t1.2.2.2.1)]) w3 fun w4 =>
   ldN [.slice, .int .i64, .bool, .bool] w4 ⟨w1.heap.size, 0, none⟩ fun (t2 : AT) => Q (t2.1, t2.2.1, t2.2.2.1, t2.2.2.2.1, ()) w4 := fun w3 k3 hn => by
  refine ansEnd size_Ans (o2'.mod k3 id) fun w4 _ m4 => hQ _ _ _ _ [] w4 (.no fun d hv => absurd hv hn) (Vec.nil _ _ _ _) (by simp) (by simp) ((K2.tr k3).fresh m4 fun k e => by rw [show k = w1.heap.size from e]; omega) fun b hb => by cases hb
 refine cond_i (fun h => by simp at h) (fun _ => cond_d (fun hn => fin w2 (Mod.refl _ _) fun hv => by omega) (fun hn0 => ?_))
 have h2 := h.keep K2
 refine onSome_i rfl (ld1_i (k := .ptr) (some ⟨E.t.t, 0, none⟩) h2.cells.1 (onSome_i rfl (ld1_i (k := .ptr) (some ⟨E.t.H.g, 0, none⟩) h2.tur.cells.1 (Nodes_i h2.tur.gra ?_))))
 refine cond_d (fun hn => fin w2 (Mod.refl _ _) fun hv => by omega) (fun hn1 => ?_)
 have hN : G.isN node := ⟨by omega, by omega⟩
 have d2 : Keep w2 w2.drew := Mod.drew (Mod.refl _ w2)
 have hd2 := h2.keep d2
 refine onSome_i rfl (ld1_i (k := .ptr) (some ⟨E.t.t, 0, none⟩) hd2.cells.1 ?_)
 refine far_i hd2 fun s1 d0 w7 hd0 v7 k7 f7 b7 => ?_
 have k27 := d2.tr k7
 have h7 := h2.keep k27
 refine ⟨h7.cells.1, ?_⟩
 have hb7 : ∀ (v : Nat) x, d0[v]? = some x → -1 ≤ x ∧ x ≤ 102 * BW := b7
 have rest : ∀ w8 s2 b1 l0, Vec w8 tInt 1 eI s2 l0 → (∀ b, s2.b = some b → w7.heap.size ≤ b.block) → Keep w7 w8 → ((b1 = false ∧ l0 = [] ∧ ∀ d, ¬ G.gw [] node at_ d) ∨ (b1 = true ∧ G.isE at_ ∧ G.LWay [] d0 at_ l0)) →
   (storeD Tryz.prog tsInt ((⟨w1.heap.size, 0, none⟩ : Addr).add 0) (Value.slice s2.b s2.l s2.c) w8 fun w9 => storeD Tryz.prog tBool ((⟨w1.heap.size, 0, none⟩ : Addr).add 2) (Value.bool b1) w9 fun w10 =>
    ∀ J1 : (Unit) → World → Prop, (∀ (t7 : Unit) (w11 : World), (onSome (some ⟨E.e, 0, none⟩) fun a6 => ld1 .ptr w11.drew (a6.add 0) fun (p4 : Option Addr) => ld1 .slice w11.drew ((⟨w1.heap.size, 0, none⟩ : Addr).add 0) fun (s3 : Sl) => F_walk_Weight p4 s3 w11.drew fun (x2 : Int) (_ : Bool) w12 =>
     storeD Tryz.prog tInt ((⟨w1.heap.size, 0, none⟩ : Addr).add 1) (Value.int .i64 x2) w12 fun w13 => ldN [.slice, .int .i64, .bool, .bool] w13 ⟨w1.heap.size, 0, none⟩ fun (t8 : AT) => storeD Tryz.prog tAns ⟨w1.heap.size, 0, none⟩ (Value.agg #[(Value.slice t8.1.b t8.1.l t8.1.c), (Value.int .i64 t8.2.1), (Value.bool t8.2.2.1), (Value.bool t8.2.2.2.1)]) w13 fun w14 =>
     ldN [.slice, .int .i64, .bool, .bool] w14 ⟨w1.heap.size, 0, none⟩ fun (t9 : AT) => Q (t9.1, t9.2.1, t9.2.2.1, t9.2.2.2.1, ()) w14) → J1 t7 w11) →
    ld1 .slice w10 ((⟨w1.heap.size, 0, none⟩ : Addr).add 0) fun (s4 : Sl) => F_slices_ContainsFunc_sint_int s4 (Value.func (.func fn_eE_Way_c1) #[] #[(Value.pointer (some ⟨W.heap.size, 0, none⟩))]) w10 fun (b3 : Bool) w15 =>
    cond b3 (onSome (some ⟨E.e, 0, none⟩) fun a7 => ld1 .ptr w15.drew (a7.add 0) fun (p5 : Option Addr) => onSome (some ⟨E.e, 0, none⟩) fun a8 => ld1 .ptr w15.drew (a8.add 0) fun (p6 : Option Addr) => ld1 .slice w15.drew ⟨W.heap.size, 0, none⟩ fun (s5 : Sl) => ld1 .slice w15.drew ⟨W.heap.size, 0, none⟩ fun (s6 : Sl) =>
     F_dist_To p6 node s5 w15.drew fun (s7 : Sl) w16 => w16.cell? ⟨W.heap.size, 0, none⟩ = some (Value.slice s6.b s6.l s6.c) ∧ w16.cell? (a7.add 0) = some (Value.pointer p5) ∧ F_least_Along p5 at_ s7 s6 w16 fun (s8 : Sl) (b4 : Bool) w17 =>
     storeD Tryz.prog tsInt ((⟨w1.heap.size, 0, none⟩ : Addr).add 0) (Value.slice s8.b s8.l s8.c) w17 fun w18 => storeD Tryz.prog tBool ((⟨w1.heap.size, 0, none⟩ : Addr).add 2) (Value.bool b4) w18 fun w19 => ld1 .bool w19 ((⟨w1.heap.size, 0, none⟩ : Addr).add 2) fun (b5 : Bool) =>
     storeD Tryz.prog tBool ((⟨w1.heap.size, 0, none⟩ : Addr).add 3) (Value.bool b5) w19 fun w20 => J1 (()) w20) (J1 (()) w15)) := by
  intro w8 s2 b1 l0 v8 f8 k8 hcase
  have lit : ∀ k, ((⟨w1.heap.size, 0, none⟩ : Addr).add k) = ⟨w1.heap.size, k, none⟩ := fun k => by rw [addr_lit, Nat.zero_add]
  have z27 := k27.size
  have o8 := (o2'.mod k27 id).mod k8 id
  have K8 := K2.tr (k27.tr k8)
  rw [lit 0, lit 1, lit 2, lit 3]
  refine storeD1_i (o := 0) (v := sv s2) o8 size_sInt (by simp) rfl rfl fun w9 o9 m9 z9 => ?_
  refine storeD1_i (o := 2) (v := .bool b1) o9 size_Bool (by simp) rfl rfl fun w10 o10 m10 z10 => ?_
  have o10' : Own w10 w1.heap.size tAns (eAns (s2, 0, b1, false, ())) := o10
  have up : ∀ {wx wy : World}, Keep W wx → Mod (fun k => k = w1.heap.size) wx wy → Keep W wy := fun kx m => kx.fresh m fun k e => by rw [show k = w1.heap.size from e]; omega
  have K10 := up (up K8 m9) m10
  have nb : ∀ b, s2.b = some b → b.block ≠ w1.heap.size := fun b hb => by have := f8 b hb; omega
  have v10 := (v8.mod m9 fun b hb e => nb b hb e).mod m10 fun b hb e => nb b hb e
  have oc : ∀ {wx : World}, Keep w1 wx → wx.cell? ⟨W.heap.size, 0, none⟩ = some (sv closed) := fun kx => by
   have := (o1.mod kx id)
   rw [this.cell]; rfl
  have k1up : ∀ {wx wy : World}, Keep w1 wx → Mod (fun k => k = w1.heap.size) wx wy → Keep w1 wy := fun kx m => kx.fresh m fun k e => by rw [show k = w1.heap.size from e]; exact Nat.le_refl _
  have k1_10 := k1up (k1up (k2.tr (k27.tr k8)) m9) m10
  intro J hJ
  have core : ∀ w11 s l f r, Own w11 w1.heap.size tAns (eAns (s, 0, f, r, ())) → Vec w11 tInt 1 eI s l → (∀ x ∈ l, G.isE x) → l.length ≤ 51 → G.AnsIs node at_ c l (G.wsum l) f r → Keep W w11 → (∀ b, s.b = some b → W.heap.size ≤ b.block ∧ b.block ≠ w1.heap.size) → J () w11 := by
   intro w11 s l f r o11 v11 hE hl hA K11 hf
   apply hJ
   have d11 : Keep w11 w11.drew := Mod.drew (Mod.refl _ w11)
   have h11 := h.keep (K11.tr d11)
   have od := o11.mod d11 id
   refine onSome_i rfl (ld1_i (k := .ptr) (some ⟨E.t.t, 0, none⟩) h11.cells.1 ?_)
   have c0 := (own4 od).1
   rw [lit 0] at c0
   refine ld1_i (k := .slice) s c0 ?_
   refine Weight_i h11.tur ((v11.mod d11 fun _ _ => id).rd lenI) (by omega) hE fun w12 k12 => ?_
   refine storeD1_i (o := 1) (v := .int .i64 (G.wsum l)) (od.mod k12 id) size_Int (by simp) rfl rfl fun w13 o13 m13 z13 => ?_
   have o13' : Own w13 w1.heap.size tAns (eAns (s, G.wsum l, f, r, ())) := o13
   refine ansEnd size_Ans o13' fun w14 _ m14 => ?_
   have v14 := (((v11.mod d11 fun _ _ => id).mod k12 fun _ _ => id).mod m13 fun b hb e => (hf b hb).2 e).mod m14 fun b hb e => (hf b hb).2 e
   exact hQ s _ f r l w14 hA v14 hE hl (up (up ((K11.tr d11).tr k12) m13) m14) fun b hb => (hf b hb).1
  have hlen : l0.length ≤ 51 ∧ ∀ x ∈ l0, G.isE x := by
   rcases hcase with ⟨_, rfl, _⟩ | ⟨_, _, hl⟩
   ·exact ⟨by simp, by simp⟩
   ·have := hl.len ok
    exact ⟨by omega, fun x hx => ((hl.facts ok).2.2.1 x hx).1⟩
  have c0 := (own4 o10').1
  rw [lit 0] at c0
  refine ld1_i (k := .slice) s2 c0 ?_
  refine ContainsI_i (p := shutB c) (C := fun wx => Keep w10 wx) (v10.rd lenI) (by omega) (Mod.refl _ _) (fun _ _ a b => a.tr b) (fun x wx K hCx hx hK => ?_) fun b3 w15 k15 hb3 => ?_
  ·refine callV_i S_eE_Way_c1 (by kernel_rfl) (decK_intro (ks := [.c (.int .i64), .c .ptr]) (t := (x, some ⟨W.heap.size, 0, none⟩, ())) ?_)
   show F_eE_Way_c1 _ _ _ _
   unfold F_eE_Way_c1
   have hxE := hlen.2 x hx
   have hcx := hc.mod (K10.tr hCx) eB_ne fun _ _ => id
   have hcl := hcx.len
   have occ := oc (k1_10.tr hCx)
   refine onSome_i rfl (ld1_i (k := .slice) closed occ (cond_d (fun hlt => onSome_i rfl (ld1_i (k := .slice) closed occ ?_)) (fun hge => ?_)))
   ·obtain ⟨p, hp, hcp⟩ := rd_cell (k := .bool) (e := fun x => x) hcx (shutB_get hxE.1 (by omega))
    exact ⟨⟨hxE.1, hlt⟩, onSome_i hp (ld1_i (k := .bool) (shutB c x) hcp (hK wx (Mod.refl _ _)))⟩
   ·have := hK wx (Mod.refl _ _)
    rw [shutB_ge (by omega)] at this; exact this
  have K15 := K10.tr k15
  refine cond_i (fun hb => ?_) (fun hb => ?_)
  ·obtain ⟨xs, hxs, hsx⟩ := hb3.1 hb
   obtain ⟨hE, hl0⟩ : G.isE at_ ∧ G.LWay [] d0 at_ l0 := by
    rcases hcase with ⟨_, rfl, _⟩ | ⟨_, hh⟩
    ·cases hxs
    ·exact hh
   have d15 : Keep w15 w15.drew := Mod.drew (Mod.refl _ w15)
   have h15 := h.keep (K15.tr d15)
   have occ := oc ((k1_10.tr k15).tr d15)
   refine onSome_i rfl (ld1_i (k := .ptr) (some ⟨E.t.t, 0, none⟩) h15.cells.1 (onSome_i rfl (ld1_i (k := .ptr) (some ⟨E.t.t, 0, none⟩) h15.cells.1 (ld1_i (k := .slice) closed occ (ld1_i (k := .slice) closed occ ?_)))))
   refine To_i h15.tur hN (hc.mod (K15.tr d15) eB_ne fun _ _ => id) fun s7 d1 w16 hd1 v16 k16 f16 b16 => ?_
   have K16 := (K15.tr d15).tr k16
   have h16 := h.keep K16
   have k1_16 := ((k1_10.tr k15).tr d15).tr k16
   have o16 := ((o10'.mod k15 id).mod d15 id).mod k16 id
   have z16 := k1_16.size
   refine ⟨oc k1_16, h16.cells.1, ?_⟩
   have tail : ∀ w17 s8 b4 l1, Vec w17 tInt 1 eI s8 l1 → (∀ b, s8.b = some b → w16.heap.size ≤ b.block) → Keep w16 w17 → (∀ x ∈ l1, G.isE x) → l1.length ≤ 51 → G.AnsIs node at_ c l1 (G.wsum l1) b4 b4 →
     storeD Tryz.prog tsInt ⟨w1.heap.size, 0, none⟩ (Value.slice s8.b s8.l s8.c) w17 fun w18 => storeD Tryz.prog tBool ⟨w1.heap.size, 2, none⟩ (Value.bool b4) w18 fun w19 => ld1 .bool w19 ⟨w1.heap.size, 2, none⟩ fun (b5 : Bool) => storeD Tryz.prog tBool ⟨w1.heap.size, 3, none⟩ (Value.bool b5) w19 fun w20 => J (()) w20 := by
    intro w17 s8 b4 l1 v17 f17 k17 hE1 hl1 hA
    have nb8 : ∀ b, s8.b = some b → b.block ≠ w1.heap.size := fun b hb => by have := f17 b hb; have := o16.lt; omega
    refine storeD1_i (o := 0) (v := sv s8) (o16.mod k17 id) size_sInt (by simp) rfl rfl fun w18 o18 m18 _ => ?_
    refine storeD1_i (o := 2) (v := .bool b4) o18 size_Bool (by simp) rfl rfl fun w19 o19 m19 _ => ?_
    have o19' : Own w19 w1.heap.size tAns (eAns (s8, 0, b4, false, ())) := o19
    have c2 := (own4 o19').2.2.1
    rw [lit 2] at c2
    refine ld1_i (k := .bool) b4 c2 ?_
    refine storeD1_i (o := 3) (v := .bool b4) o19' size_Bool (by simp) rfl rfl fun w20 o20 m20 _ => ?_
    refine core w20 s8 l1 b4 b4 o20 (((v17.mod m18 fun b hb e => nb8 b hb e).mod m19 fun b hb e => nb8 b hb e).mod m20 fun b hb e => nb8 b hb e) hE1 hl1 hA (up (up (up (K16.tr k17) m18) m19) m20) fun b hb => ⟨?_, nb8 b hb⟩
    have := f17 b hb
    have := K16.size
    omega
   refine Along_i h16.tur hd1 (v16.rd lenI) (hc.mod K16 eB_ne fun _ _ => id) (fun v x hx => by have := b16 v x hx; simp only [BW] at *; omega) (fun hno => ?_) fun l1 s8 w17 _ h0 hl1 v17 k17 f17 => ?_
   ·refine tail w16 _ false [] (Vec.nil _ _ _ _) (fun b hb => by cases hb) (Mod.refl _ _) (by simp) (by simp) (.no fun d _ hg => hno ⟨hE, (ok.dsv_le hd1 hg).1⟩)
   ·have := hl1.len ok
    exact tail w17 s8 true l1 v17 f17 k17 (fun x hx => ((hl1.facts ok).2.2.1 x hx).1) (by omega) (.far hN hE hd0 hd1 hl0 ⟨xs, hxs, hsx⟩ hl1)
  ·have hno : ∀ x ∈ l0, shutB c x = false := fun x hx => by
    cases hs : shutB c x with
    | false => rfl
    | true => have := hb3.2 ⟨x, hx, hs⟩; rw [hb] at this; cases this
   refine core w15 s2 l0 b1 false (o10'.mod k15 id) (v10.mod k15 fun _ _ => id) hlen.2 hlen.1 ?_ K15 fun b hb => ⟨by have := f8 b hb; have := K2.size; omega, nb b hb⟩
   rcases hcase with ⟨rfl, rfl, hng⟩ | ⟨rfl, hE, hl0⟩
   ·exact .no fun d _ hg => hng d (G.gw_open hg)
   ·exact .near hN hE hd0 hl0 hno
 refine Along_i (c := []) h7.tur hd0 (v7.rd lenI) (Rd.nil _ _ _) (fun v x hx => ?_) (fun hno => ?_) fun l s2 w8 hE h0 hl v8 k8 f8 => ?_
 ·exact hb7 v x hx
 ·refine rest w7 ⟨none, 0, 0⟩ false [] (Vec.nil _ _ _ _) (fun b hb => by cases hb) (Mod.refl _ _) (.inl ⟨rfl, rfl, fun d hg => hno ⟨(ok.gw_rng hg).1, (ok.dsv_le hd0 hg).1⟩⟩)
 ·exact rest w8 s2 true l v8 f8 k8 (.inr ⟨rfl, hE, hl⟩)
end Go.Proofs.YtjjgcimlmjnaeaaGreat

namespace Go.Proofs.YtjjgcimlmjnaeaaGreat
open Go Go.Den
theorem RCmp_i {a b : Sl} {xs ys : List Int} {w : World} {Q : Int → World → Prop} (ha : Rd w a 1 eI xs) (hb : Rd w b 1 eI ys) (hl : xs.length < 1000000) (hQ : ∀ r w', Keep w w' → (r = 0 ↔ xs = ys) → Q r w') : F_ref4_Cmp a b w Q := by
 unfold F_ref4_Cmp
 have la := ha.len
 have lb := hb.len
 intro J hJ
 have core : ∀ w1, Keep w w1 → (∀ i, i < xs.length → i < ys.length → xs[i]? = ys[i]?) → J () w1 := by
  intro w1 k1 hs
  apply hJ
  refine cond_d (fun h => hQ _ w1 k1 ⟨fun h' => by omega, fun e => by rw [e] at la; omega⟩) (fun h1 => cond_d (fun h => hQ _ w1 k1 ⟨fun h' => by omega, fun e => by rw [e] at la; omega⟩) (fun h2 => hQ _ w1 k1 ⟨fun _ => ?_, fun _ => rfl⟩))
  apply List.ext_getElem?
  intro i
  by_cases hi : i < xs.length
  ·exact hs i hi (by omega)
  ·rw [List.getElem?_eq_none (by omega), List.getElem?_eq_none (by omega)]
 refine loop_i (fun c t w1 => ∃ i : Nat, i ≤ xs.length ∧ c = xs.length - i ∧ t = ((i : Int), ()) ∧ Keep w w1 ∧ ∀ j, j < i → xs[j]? = ys[j]?) xs.length ⟨0, Nat.zero_le _, rfl, rfl, Mod.refl _ _, fun j hj => by omega⟩ ?_
 rintro c t w1 ⟨i, hi, rfl, rfl, k1, hs⟩ X hX
 dsimp only
 refine cond_d (fun hlt => ?_) (fun hge => core w1 k1 fun j h1 h2 => hs j (by omega))
 refine cond_d (fun hlt2 => ?_) (fun hge => core w1 k1 fun j h1 h2 => hs j (by omega))
 have d1 : Keep w1 w1.drew := Mod.drew (Mod.refl _ w1)
 have d2 : Keep w1.drew w1.drew.drew := Mod.drew (Mod.refl _ w1.drew)
 have hx := List.getElem?_eq_getElem (show i < xs.length by omega)
 have hy := List.getElem?_eq_getElem (show i < ys.length by omega)
 generalize xs[i] = x at *
 generalize ys[i] = y at *
 obtain ⟨p, hp, hc⟩ := rd_cell (k := .int .i64) (e := fun x => x) (ha.mod (k1.tr d1) eI_ne fun _ _ => id) hx
 obtain ⟨q, hq, hcq⟩ := rd_cell (k := .int .i64) (e := fun x => x) (hb.mod (k1.tr d1) eI_ne fun _ _ => id) hy
 obtain ⟨p', hp', hc'⟩ := rd_cell (k := .int .i64) (e := fun x => x) (ha.mod ((k1.tr d1).tr d2) eI_ne fun _ _ => id) hx
 obtain ⟨q', hq', hcq'⟩ := rd_cell (k := .int .i64) (e := fun x => x) (hb.mod ((k1.tr d1).tr d2) eI_ne fun _ _ => id) hy
 rw [Int.toNat_natCast]
 have ba : 0 ≤ (i : Int) ∧ (i : Int) < ((a.l : Nat) : Int) := ⟨by omega, hlt⟩
 have bb : 0 ≤ (i : Int) ∧ (i : Int) < ((b.l : Nat) : Int) := ⟨by omega, hlt2⟩
 have neq : x ≠ y → ¬ xs = ys := fun hne e => by rw [e, hy] at hx; cases hx; exact hne rfl
 refine ⟨ba, onSome_i hp (ld1_i (k := .int .i64) x hc ⟨bb, onSome_i hq (ld1_i (k := .int .i64) y hcq ?_)⟩)⟩
 refine cond_d (fun h => hQ _ _ (k1.tr d1) ⟨fun h' => by omega, fun e => absurd e (neq (Int.ne_of_lt h))⟩) (fun h1 => ?_)
 refine ⟨ba, onSome_i hp' (ld1_i (k := .int .i64) x hc' ⟨bb, onSome_i hq' (ld1_i (k := .int .i64) y hcq' ?_)⟩)⟩
 refine cond_d (fun h => hQ _ _ ((k1.tr d1).tr d2) ⟨fun h' => by omega, fun e => absurd e (neq (Int.ne_of_gt h))⟩) (fun h2 => ?_)
 rw [wi_ i (by omega)]
 refine hX _ _ _ (by omega) ⟨i + 1, by omega, rfl, rfl, (k1.tr d1).tr d2, fun j hj => ?_⟩
 rcases Nat.lt_or_ge j i with h' | h'
 ·exact hs j h'
 ·have : j = i := by omega
  subst this
  rw [hx, hy]
  have h1' : ¬ x < y := h1
  have h2' : ¬ x > y := h2
  have : x = y := by omega
  rw [this]
section
variable {g : GT} {G : Gr} {W : World} (h : GvIs W g G) (ok : OkG G)
include h ok
theorem RWay_i {e node : Int} {shut : Sl} {c : List Bool} {Q : Sl → Bool → World → Prop} (hc : Rd W shut 1 eB c)
  (hno : ∀ w', Keep W w' → (∀ d, G.isN node → ¬ G.gw c node e d) → Q ⟨none, 0, 0⟩ false w')
  (hyes : ∀ d1 l s w', G.isE e → G.isN node → G.far c node d1 → G.LWay c d1 e l → Vec w' tInt 1 eI s l → Keep W w' → (∀ b, s.b = some b → W.heap.size ≤ b.block) → Q s true w') : F_ref4_Way g e node shut W Q := by
 unfold F_ref4_Way
 have hm := ok.m1
 have hl : g.2.1.l = G.m := h.ed.len
 refine alloc_i fun w1 o1 k1 z1 => ?_
 have og : ∀ {wx : World}, Keep w1 wx → Own wx W.heap.size tAGraph (gcs g) := fun kx => o1.mod kx id
 refine ldN_i (l := [.slice, .slice, .slice]) g (own_g (g := g) o1) ?_
 refine REdge_i (h.keep k1) ok fun w2 k2 => cond_i (fun hn => hno w2 (k1.tr k2) fun d _ hg => ?_) (fun hy => ?_)
 ·have := (ok.gw_rng hg).1
  rw [decide_eq_true this] at hn; cases hn
 have hE : G.isE e := by simpa using hy
 refine ldN_i (l := [.slice, .slice, .slice]) g (own_g (g := g) (og k2)) ?_
 refine RNode_i (h.keep (k1.tr k2)) ok fun w3 k3 => cond_i (fun hn => hno w3 (k1.tr (k2.tr k3)) fun d hN _ => ?_) (fun hy => ?_)
 ·rw [decide_eq_true hN] at hn; cases hn
 have hN : G.isN node := by simpa using hy
 have k13 := k2.tr k3
 refine ldN_i (l := [.slice, .slice, .slice]) g (own_g (g := g) (og k13)) ?_
 refine RTo_i (h.keep (k1.tr k13)) ok hN (hc.mod (k1.tr k13) eB_ne fun _ _ => id) fun s1 ds w4 hd v4 k4 f4 b4 => ?_
 have k14 := k13.tr k4
 have hfl := v4.len
 rw [hd.1] at hfl
 obtain ⟨p, hp, hcp⟩ := rd_cell (k := .int .i64) (e := fun x => x) (v4.rd lenI) (far_get hd hE)
 refine ⟨⟨hE.1, by rw [hfl]; exact hE.2⟩, onSome_i hp (ld1_i (k := .int .i64) (dsv ds e) hcp (cond_d (fun hneg => hno w4 (k1.tr k14) fun d _ hg => ?_) (fun hpos => ?_)))⟩
 ·have := (ok.dsv_le hd hg).1
  have h' : dsv ds e < 0 := hneg
  omega
 have hpos' : 0 ≤ dsv ds e := by have : ¬ dsv ds e < 0 := hpos; omega
 obtain ⟨tot, htot⟩ := ok.lway_ex hd (dsv ds e).toNat hE hpos' (by omega)
 have htl := htot.len ok
 have zW := (k1.tr k14).size
 refine loop_i (fun c' s w5 => ∃ (cur : Int) (l0 l : List Int) (o : Sl), c' = l.length ∧ s = (cur, o, ()) ∧ G.isE cur ∧ G.LWay c ds cur l ∧ l0 ++ l = tot ∧ Keep w4 w5 ∧ Vec w5 tInt 1 eI o l0 ∧ (∀ b, o.b = some b → w4.heap.size ≤ b.block)) tot.length
  ⟨e, [], tot, ⟨none, 0, 0⟩, rfl, rfl, hE, htot, rfl, Mod.refl _ _, Vec.nil _ _ _ _, fun b hb => by cases hb⟩ ?_
 rintro c' s w5 ⟨cur, l0, l, o, rfl, rfl, hcE, hlw, hcat, k45, vo, fo⟩ X hX
 dsimp only
 have k5 := k14.tr k45
 have v5 := v4.mod k45 fun _ _ => id
 obtain ⟨p2, hp2, hcp2⟩ := rd_cell (k := .int .i64) (e := fun x => x) (v5.rd lenI) (far_get hd hcE)
 refine ⟨⟨hcE.1, by rw [hfl]; exact hcE.2⟩, onSome_i hp2 (ld1_i (k := .int .i64) (dsv ds cur) hcp2 ?_)⟩
 cases hlw with
 | nil hz =>
  refine cond_d (fun h => absurd (show dsv ds cur > 0 from h) (by omega)) (fun _ => ?_)
  rw [List.append_nil] at hcat
  subst hcat
  exact hyes ds _ o w5 hE hN hd htot vo (k1.tr k5) fun b hb => by have := fo b hb; omega
 | @cons _ n l hz hst hlw =>
  refine cond_d (fun _ => ?_) (fun h => absurd (show dsv ds cur > 0 from hz) h)
  refine ldN_i (l := [.slice, .slice, .slice]) g (own_g (g := g) (og k5)) ?_
  refine RNext_i (h.keep (k1.tr k5)) ok fun s2 w6 v6 k6 f6 => ?_
  have K6 := k5.tr k6
  have l2 := v6.len
  have hnl := G.next_len cur
  have hnE : ∀ b ∈ G.nextL cur, G.isE b := fun b hb => (G.turn_iff.1 (G.mem_next.1 hb)).2.1
  have nE := (G.turn_iff.1 (G.step_spec hst).1).2.1
  have vs6 := v5.mod k6 fun _ _ => id
  have vo6 := vo.mod k6 fun _ _ => id
  have l0l : l0.length ≤ tot.length := by rw [← hcat]; simp
  have z45 := k45.size
  have z56 := k6.size
  have app : ∀ w7, Keep w6 w7 → (cond (decide (n < (0 : Int))) (Q ⟨none, 0, 0⟩ false w7) (allocD w7 #[Value.int .i64 n] tInt fun a9 w9 => appendD Tryz.prog tsInt tsInt o (Value.slice (some a9) 1 1) w9 fun (s4 : Sl) w10 => X (n, s4, ()) w10)) := fun w7 k7 => by
   refine cond_d (fun h => absurd nE.1 (by have : n < 0 := h; omega)) (fun _ => ?_)
   refine alloc_i fun w9 o9 k9 z9 => ?_
   have k69 := k7.tr k9
   have vx : Vec w9 tInt 1 eI ⟨some ⟨w7.heap.size, 0, none⟩, 1, 1⟩ [n] := Vec.new lenI [n] o9 (by simp [maxLen])
   have z69 := k69.size
   refine append_i elem_sInt lenI oneI (vo6.mod k69 fun _ _ => id) (vx.rd lenI) (by simp; omega) (by simp; omega) fun r w10 v10 m10 f10 _ => ?_
   refine hX l.length _ _ (by simp) ⟨n, l0 ++ [n], l, r, rfl, rfl, nE, hlw, by rw [← hcat]; simp, ((k45.tr k6).tr k69).fresh m10 fun k ⟨b, hb, e⟩ => by rw [e]; exact fo b hb, v10, fun b hb => ?_⟩
   rcases f10 with h1 | ⟨a, ha, hlt⟩
   ·exact fo b (by rw [← h1]; exact hb)
   ·rw [hb] at ha; cases ha; omega
  have B1 : 0 ≤ cur ∧ cur < ((s1.l : Nat) : Int) := ⟨hcE.1, by rw [hfl]; exact hcE.2⟩
  refine loop_i (fun c' s w7 => ∃ (i : Nat) (nx : Int), i ≤ (G.nextL cur).length ∧ c' = (G.nextL cur).length - i ∧ s = (nx, (i : Int), ()) ∧ Keep w6 w7 ∧ ((nx = -1 ∧ ∀ x ∈ (G.nextL cur).take i, G.okStep c ds cur x = false) ∨ nx = n)) (G.nextL cur).length
   ⟨0, -1, Nat.zero_le _, rfl, rfl, Mod.refl _ _, .inl ⟨rfl, by simp⟩⟩ ?_
  rintro c' s w7 ⟨i, nx, hi, rfl, rfl, k7, hnx⟩ Y hY
  dsimp only
  refine cond_d (fun hlt => ?_) (fun hge => ?_)
  ·refine cond_d (fun hneg => ?_) (fun hnn => ?_)
   ·obtain ⟨rfl, hno'⟩ : nx = -1 ∧ ∀ x ∈ (G.nextL cur).take i, G.okStep c ds cur x = false := by
     rcases hnx with h1 | h1
     ·exact h1
     ·have : nx < 0 := hneg
      have := nE.1
      omega
    have hi' : i < (G.nextL cur).length := by omega
    have hget := List.getElem?_eq_getElem hi'
    have hfE := hnE _ (List.getElem_mem hi')
    have htk := List.take_succ_eq_append_getElem hi'
    generalize (G.nextL cur)[i] = f at *
    obtain ⟨q, hq, hcq⟩ := rd_cell (k := .int .i64) (e := fun x => x) ((v6.mod k7 fun _ _ => id).rd lenI) hget
    rw [Int.toNat_natCast, wi_ i (by omega)]
    have d7 : Keep w7 w7.drew := Mod.drew (Mod.refl _ w7)
    have k7d := k7.tr d7
    have K7 := K6.tr k7d
    refine ⟨⟨by omega, hlt⟩, onSome_i hq (ld1_i (k := .int .i64) f hcq ?_)⟩
    refine closed_i (hc.mod (k1.tr K7) eB_ne fun _ _ => id) hfE.1 ?_
    have next : ∀ nx', ((nx' = -1 ∧ G.okStep c ds cur f = false) ∨ nx' = n) → Y (nx', ((i + 1 : Nat) : Int), ()) w7.drew := fun nx' hh => by
     refine hY _ _ _ (by omega) ⟨i + 1, nx', hi', rfl, rfl, k7d, hh.imp (fun h1 => ⟨h1.1, fun x hx => ?_⟩) id⟩
     rw [htk] at hx
     rcases List.mem_append.1 hx with hx | hx
     ·exact hno' x hx
     ·have : x = f := by simpa using hx
      rw [this]; exact h1.2
    have vd := (vs6.mod k7 fun _ _ => id).mod d7 fun _ _ => id
    obtain ⟨pf, hpf, hcf⟩ := rd_cell (k := .int .i64) (e := fun x => x) (vd.rd lenI) (far_get hd hfE)
    obtain ⟨pe, hpe, hce⟩ := rd_cell (k := .int .i64) (e := fun x => x) (vd.rd lenI) (far_get hd hcE)
    obtain ⟨pg, hpg, _, _, _, cw⟩ := (h.keep (k1.tr K7)).edge hfE
    have bf := b4 _ _ (far_get hd hfE)
    have hw := ok.w1 hfE
    have Bf : 0 ≤ f ∧ f < ((s1.l : Nat) : Int) := ⟨hfE.1, by rw [hfl]; exact hfE.2⟩
    refine cond_i (fun hs => ?_) (fun hs => ?_)
    ·have hs' : shutB c f = false := by simpa using hs
     have okE : G.okStep c ds cur f = (decide (0 ≤ dsv ds f) && decide (dsv ds f + G.wt f = dsv ds cur)) := by unfold Gr.okStep; rw [hs']; rfl
     refine ⟨Bf, onSome_i hpf (ld1_i (k := .int .i64) (dsv ds f) hcf (cond_d (fun h0 => ?_) (fun h0 => next _ (.inl ⟨rfl, ?_⟩))))⟩
     ·refine ⟨Bf, onSome_i hpf (ld1_i (k := .int .i64) (dsv ds f) hcf (ld1_i (k := .slice) g.2.1 (own3 (og K7)).2.1 ⟨⟨hfE.1, by rw [hl]; exact hfE.2⟩, onSome_i hpg (ld1_i (k := .int .i64) (G.wt f) cw ⟨B1, onSome_i hpe (ld1_i (k := .int .i64) (dsv ds cur) hce ?_)⟩)⟩))⟩
      rw [w64 (n := dsv ds f + G.wt f) (by simp only [BW] at *; omega) (by simp only [BW] at *; omega)]
      refine cond_i (fun heq => next _ (.inr ?_)) (fun hne => next _ (.inl ⟨rfl, ?_⟩))
      ·have heq' : dsv ds f + G.wt f = dsv ds cur := by simpa using heq
       have hok : G.okStep c ds cur f = true := by rw [okE]; simp only [Bool.and_eq_true, decide_eq_true_eq]; exact ⟨h0, heq'⟩
       have := find_at hno' hget hok
       unfold Gr.stepP at hst
       rw [hst] at this
       exact (Option.some.inj this).symm
      ·have hne' : ¬ dsv ds f + G.wt f = dsv ds cur := by simpa using hne
       rw [okE]; simp only [Bool.and_eq_false_iff, decide_eq_false_iff_not]; exact .inr hne'
     ·have h0' : ¬ dsv ds f ≥ 0 := h0
      rw [okE]; simp only [Bool.and_eq_false_iff, decide_eq_false_iff_not]; exact .inl (by omega)
    ·have hs' : shutB c f = true := by simpa using hs
     exact next _ (.inl ⟨rfl, by unfold Gr.okStep; rw [hs']; rfl⟩)
   ·rcases hnx with ⟨h1, _⟩ | rfl
    ·exact absurd (show nx < 0 by omega) hnn
    ·exact app w7 k7
  ·rcases hnx with ⟨rfl, hno'⟩ | rfl
   ·have ei : i = (G.nextL cur).length := by omega
    subst ei
    rw [List.take_length] at hno'
    unfold Gr.stepP at hst
    rw [List.find?_eq_none.2 fun x hx => by rw [hno' x hx]; simp] at hst
    cases hst
   ·exact app w7 k7
end
end Go.Proofs.YtjjgcimlmjnaeaaGreat
