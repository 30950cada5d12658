import Derived.Test.YtjjgcimlmjnaeaaGreatFUnp
import Derived.Test.YtjjgcimlmjnaeaaGreatA3
import Derived.Test.YtjjgcimlmjnaeaaGreatQ3
import Derived.Test.YtjjgcimlmjnaeaaGreatFGra
import Derived.Test.YtjjgcimlmjnaeaaGreatFSes
import Derived.Test.YtjjgcimlmjnaeaaGreatA4
import Derived.Test.YtjjgcimlmjnaeaaGreatFTur
namespace Go.Proofs.YtjjgcimlmjnaeaaGreat
open Go Go.Den
abbrev eP (p : Int × Int) : List Value := [.int .i64 p.1, .int .i64 p.2]
theorem lenP : ∀ p : Int × Int, (eP p).length = 2 := fun _ => rfl
theorem oneP : ∀ p : Int × Int, ∀ u ∈ eP p, u.oneCell' = true := by intro p u hu; simp at hu; rcases hu with rfl | rfl <;> rfl
theorem Vec.new {α : Type} {w : World} {e : TypeId} {n : Nat} {enc : α → List Value} {g : Nat} (henc : ∀ x, (enc x).length = n) (xs : List α) (h : Own w g e (xs.flatMap enc)) (hm : xs.length ≤ maxLen) : Vec w e n enc ⟨some ⟨g, 0, none⟩, xs.length, xs.length⟩ xs :=
 ⟨rfl, Nat.le_refl _, hm, .inr ⟨g, [], rfl, by rw [List.append_nil]; exact h, by rw [List.append_nil]; exact length_flatMap_enc henc xs⟩⟩
theorem CloneI_i {s : Sl} {xs : List Int} {w : World} {Q : Sl → World → Prop} (hs : Rd w s 1 eI xs) (hb : xs.length < 1099511627776)
  (hQ : ∀ s' w', Vec w' tInt 1 eI s' xs → Keep w w' → (∀ b, s'.b = some b → w.heap.size ≤ b.block) → Q s' w') : F_slices_Clone_sint_int s w Q := by
 unfold F_slices_Clone_sint_int
 refine cond_i (fun h => ?_) (fun h => ?_)
 ·have hn : xs = [] := by
   cases xs with
   | nil => rfl
   | cons x r => obtain ⟨a, ha, _⟩ := hs.get 0 x rfl; rw [ha] at h; cases h
  subst hn
  exact hQ _ w (Vec.nil _ _ _ _) (Mod.refl _ _) (fun b hb => by cases hb)
 ·refine alloc_i fun w1 o1 k1 z1 => ?_
  have v0 : Vec w1 tInt 1 eI ⟨some ⟨w.heap.size, 0, none⟩, 0, 0⟩ [] := Vec.new lenI [] o1 (by simp)
  refine append_i elem_sInt lenI oneI v0 (hs.mod k1 eI_ne (fun _ _ => id)) (by simp; omega) (by simp; omega) fun r w' hr hm hrb _ => ?_
  refine hQ r w' (by simpa using hr) (Mod.fresh k1 hm fun k ⟨a, ha, hk⟩ => by cases ha; rw [hk]; exact Nat.le_refl _) fun b hb => ?_
  rcases hrb with h1 | ⟨b', hb', hlt⟩
  ·rw [hb] at h1; cases h1; exact Nat.le_refl _
  ·rw [hb] at hb'; cases hb'; have := k1.size; omega
section
variable {w : World} {H : LevS} {n : Nat} {A L : List Arc} {R : List Int}
end
end Go.Proofs.YtjjgcimlmjnaeaaGreat

namespace Go.Proofs.YtjjgcimlmjnaeaaGreat
open Go Go.Den
theorem eP_ne (p : Int × Int) : eP p ≠ [] := by simp
theorem lenR3' : ∀ r : R3, (eR3 r).length = 3 := fun _ => rfl
theorem oneR3 : ∀ r : R3, ∀ u ∈ eR3 r, u.oneCell' = true := by intro r u hu; simp at hu; rcases hu with rfl | rfl | rfl <;> rfl
theorem agg_store {t : TypeId} {w : World} {g : Nat} {e : TypeId} {cs vs : List Value} {K : World → Prop} (h : Own w g e cs) (ht : (Tryz.prog.info? t).map (·.size) = some vs.length) (hl : cs.length = vs.length) (h1 : ∀ u ∈ vs, u.oneCell' = true)
  (hK : ∀ w', Own w' g e vs → Mod (fun k => k = g) w w' → w'.heap.size = w.heap.size → K w') : storeD Tryz.prog t ⟨g, 0, none⟩ (.agg vs.toArray) w K := by
 refine storeD_i h (by rw [ht]; simp [Value.cells]) (by simp [Value.cells, hl]) (by simpa [Value.cells] using h1) fun w' ho hm hz => hK w' ?_ hm hz
 have : cs.take 0 ++ (Value.agg vs.toArray).cells.toList ++ cs.drop (0 + (Value.agg vs.toArray).cells.size) = vs := by
  simp [Value.cells, List.drop_of_length_le (show cs.length ≤ vs.length by omega)]
 rwa [this] at ho
theorem agg_new {t : TypeId} {zs vs : List Value} {w : World} {K : Addr → World → Prop} (ht : (Tryz.prog.info? t).map (·.size) = some vs.length) (hl : zs.length = vs.length) (h1 : ∀ u ∈ vs, u.oneCell' = true)
  (hK : ∀ w', Own w' w.heap.size t vs → Keep w w' → w'.heap.size = w.heap.size + 1 → K ⟨w.heap.size, 0, none⟩ w') : allocD w zs.toArray t fun a w1 => storeD Tryz.prog t a (.agg vs.toArray) w1 fun w2 => K a w2 :=
 alloc_i fun w1 o1 k1 z1 => agg_store o1 ht hl h1 fun w2 o2 m2 z2 => hK w2 o2 (k1.fresh m2 fun k e => by rw [show k = w.heap.size from e]; exact Nat.le_refl _) (by omega)
theorem own3 {w : World} {g : Nat} {e : TypeId} {x y z : Value} (h : Own w g e [x, y, z]) : w.cell? ((⟨g, 0, none⟩ : Addr).add 0) = some x ∧ w.cell? ((⟨g, 0, none⟩ : Addr).add 1) = some y ∧ w.cell? ((⟨g, 0, none⟩ : Addr).add 2) = some z := by
 refine ⟨?_, ?_, ?_⟩ <;> rw [addr_lit, h.cell] <;> rfl
theorem own2 {w : World} {g : Nat} {e : TypeId} {x y : Value} (h : Own w g e [x, y]) : w.cell? ((⟨g, 0, none⟩ : Addr).add 0) = some x ∧ w.cell? ((⟨g, 0, none⟩ : Addr).add 1) = some y := by
 refine ⟨?_, ?_⟩ <;> rw [addr_lit, h.cell] <;> rfl
theorem rd2 {w : World} {s : Sl} {xs : List (Int × Int)} (h : Rd w s 2 eP xs) {i : Nat} {x : Int × Int} (hx : xs[i]? = some x) : ∃ a, s.b = some a ∧ HoldsAt w (a.add (i * 2)) 0 (encs [.int .i64, .int .i64] (x.1, x.2, ())) ∧
  w.cell? ((a.add (i * 2)).add 0) = some (.int .i64 x.1) ∧ w.cell? ((a.add (i * 2)).add 1) = some (.int .i64 x.2) := by
 obtain ⟨a, ha, hh⟩ := h.get i x hx
 have h2 := holds_iff.1 hh
 exact ⟨a, ha, hh, by simpa using h2 0 _ rfl, by simpa using h2 1 _ rfl⟩
theorem rd3 {w : World} {s : Sl} {xs : List R3} (h : Rd w s 3 eR3 xs) {i : Nat} {x : R3} (hx : xs[i]? = some x) : ∃ a, s.b = some a ∧ HoldsAt w (a.add (i * 3)) 0 (encs [.int .i64, .int .i64, .int .i64] (x.1, x.2.1, x.2.2, ())) ∧
  w.cell? ((a.add (i * 3)).add 0) = some (.int .i64 x.1) ∧ w.cell? ((a.add (i * 3)).add 1) = some (.int .i64 x.2.1) ∧ w.cell? ((a.add (i * 3)).add 2) = some (.int .i64 x.2.2) := by
 obtain ⟨a, ha, hh⟩ := h.get i x hx
 have h2 := holds_iff.1 hh
 exact ⟨a, ha, hh, by simpa using h2 0 _ rfl, by simpa using h2 1 _ rfl, by simpa using h2 2 _ rfl⟩
abbrev GT := Sl × Sl × Sl × Unit
abbrev gcs (g : GT) : List Value := [sv g.1, sv g.2.1, sv g.2.2.1]
structure GvIs (w : World) (g : GT) (G : Gr) : Prop where
 nd : Rd w g.1 2 eP G.N
 ed : Rd w g.2.1 3 eR3 G.E
 bn : Rd w g.2.2.1 2 eP G.B
theorem GvIs.keep {w w' : World} {g : GT} {G : Gr} (h : GvIs w g G) (k : Keep w w') : GvIs w' g G :=
 ⟨h.nd.mod k eP_ne fun _ _ => id, h.ed.mod k eR3_ne fun _ _ => id, h.bn.mod k eP_ne fun _ _ => id⟩
theorem gone1 (g : GT) : ∀ u ∈ gcs g, u.oneCell' = true := by intro u hu; simp at hu; rcases hu with rfl | rfl | rfl <;> rfl
theorem own_g {w : World} {b : Nat} {e : TypeId} {g : GT} (h : Own w b e (gcs g)) : HoldsAt w ⟨b, 0, none⟩ 0 (encs [.slice, .slice, .slice] g) := own_all h
theorem GvIs.edge {w : World} {g : GT} {G : Gr} (h : GvIs w g G) {i : Int} (hi : G.isE i) : ∃ a, g.2.1.b = some a ∧ HoldsAt w (a.add (i.toNat * 3)) 0 (encs [.int .i64, .int .i64, .int .i64] (G.fr i, G.to i, G.wt i, ())) ∧
  w.cell? ((a.add (i.toNat * 3)).add 0) = some (.int .i64 (G.fr i)) ∧ w.cell? ((a.add (i.toNat * 3)).add 1) = some (.int .i64 (G.to i)) ∧ w.cell? ((a.add (i.toNat * 3)).add 2) = some (.int .i64 (G.wt i)) := rd3 h.ed (G.get_ed hi)
structure GraS where
 g : Nat
 v : GT
 out : Sl
 inn : Sl
 fr : Sl
 to : Sl
def ByN (w : World) (row first : Sl) (n m : Nat) (key : Int → Int) : Prop := ∃ fs rs, Rd w first 1 eI fs ∧ Rd w row 1 eI rs ∧ fs.length = n + 1 ∧ rs.length = m ∧ (∀ i, i ≤ n → fs[i]? = some (preK (cK key m) i : Int)) ∧
 ∀ v, v < n → preK (cK key m) v + cK key m v ≤ m ∧ (rs.drop (preK (cK key m) v)).take (cK key m v) = flK key m v
theorem ByN.keep {w w' : World} {row first : Sl} {n m : Nat} {key : Int → Int} (h : ByN w row first n m key) (k : Keep w w') : ByN w' row first n m key := by
 obtain ⟨fs, rs, h1, h2, h3⟩ := h
 exact ⟨fs, rs, h1.mod k eI_ne fun _ _ => id, h2.mod k eI_ne fun _ _ => id, h3⟩
structure GraIs (w : World) (H : GraS) (G : Gr) : Prop where
 ok : OkG G
 head : Own w H.g tGraph [sv H.v.1, sv H.v.2.1, sv H.v.2.2.1, sv H.out, sv H.inn, sv H.fr, sv H.to]
 val : GvIs w H.v G
 out : ByN w H.out H.fr G.n G.m G.fr
 inn : ByN w H.inn H.to G.n G.m G.to
theorem GraIs.keep {w w' : World} {H : GraS} {G : Gr} (h : GraIs w H G) (k : Keep w w') : GraIs w' H G := ⟨h.ok, h.head.mod k id, h.val.keep k, h.out.keep k, h.inn.keep k⟩
section
variable {w : World} {H : GraS} {G : Gr}
theorem GraIs.cells (h : GraIs w H G) : w.cell? ((⟨H.g, 0, none⟩ : Addr).add 0) = some (sv H.v.1) ∧ w.cell? ((⟨H.g, 0, none⟩ : Addr).add 1) = some (sv H.v.2.1) ∧ w.cell? ((⟨H.g, 0, none⟩ : Addr).add 2) = some (sv H.v.2.2.1) ∧
  w.cell? ((⟨H.g, 0, none⟩ : Addr).add 3) = some (sv H.out) ∧ w.cell? ((⟨H.g, 0, none⟩ : Addr).add 4) = some (sv H.inn) ∧ w.cell? ((⟨H.g, 0, none⟩ : Addr).add 5) = some (sv H.fr) ∧ w.cell? ((⟨H.g, 0, none⟩ : Addr).add 6) = some (sv H.to) := by
 have hh := h.head
 refine ⟨?_, ?_, ?_, ?_, ?_, ?_, ?_⟩ <;> rw [addr_lit, hh.cell] <;> rfl
theorem Edges_i {Q : Int → World → Prop} (h : GraIs w H G) (hQ : Q (G.m : Int) w) : F_gG_Edges (some ⟨H.g, 0, none⟩) w Q := by
 unfold F_gG_Edges
 refine cond_i (fun h => by simp at h) (fun _ => onSome_i rfl ?_)
 rw [add_zero]
 refine ld1_i (k := .slice) H.v.2.1 h.cells.2.1 ?_
 rw [h.val.ed.len]; exact hQ
theorem Nodes_i {Q : Int → World → Prop} (h : GraIs w H G) (hQ : Q (G.n : Int) w) : F_gG_Nodes (some ⟨H.g, 0, none⟩) w Q := by
 unfold F_gG_Nodes
 refine cond_i (fun h => by simp at h) (fun _ => onSome_i rfl ?_)
 rw [add_zero]
 refine ld1_i (k := .slice) H.v.1 h.cells.1 ?_
 rw [h.val.nd.len]; exact hQ
theorem Edge_i {i : Int} {Q : (Int × Int × Int × Unit) → Bool → World → Prop} (h : GraIs w H G) (hyes : G.isE i → ∀ w', Keep w w' → Q (G.fr i, G.to i, G.wt i, ()) true w') (hno : ¬ G.isE i → ∀ w', Keep w w' → Q (0, 0, 0, ()) false w') :
  F_gG_Edge (some ⟨H.g, 0, none⟩) i w Q := by
 unfold F_gG_Edge
 refine alloc_i fun w1 o1 k1 z1 => ?_
 have zz : ∀ w2, Keep w w2 → Own w2 w.heap.size tEdge [.int .i64 0, .int .i64 0, .int .i64 0] → ¬ G.isE i → storeD Tryz.prog tEdge ⟨w.heap.size, 0, none⟩ (Value.agg #[(.int .i64 0), (.int .i64 0), (.int .i64 0)]) w2 fun w3 =>
   ldN [.int .i64, .int .i64, .int .i64] w3 ⟨w.heap.size, 0, none⟩ fun (t1 : Int × Int × Int × Unit) => Q (t1.1, t1.2.1, t1.2.2.1, ()) false w3 := fun w2 k2 o2 hn => by
  refine agg_store (vs := [.int .i64 0, .int .i64 0, .int .i64 0]) o2 size_Edge rfl (by simp [Value.oneCell']) fun w3 o3 m3 _ => ?_
  refine ldN_i (l := [.int .i64, .int .i64, .int .i64]) ((0 : Int), (0 : Int), (0 : Int), ()) (own_all o3) (hno hn w3 (k2.fresh m3 fun k e => by rw [show k = w.heap.size from e]; exact Nat.le_refl _))
 refine cond_d (fun hneg => zz w1 k1 o1 fun hi => by omega) (fun hpos => ?_)
 refine Edges_i (h.keep k1) ?_
 refine cond_d (fun hge => zz w1 k1 o1 fun hi => by omega) (fun hlt => ?_)
 have hi : G.isE i := ⟨by omega, by omega⟩
 have h1 := h.keep k1
 refine onSome_i rfl ?_
 rw [add_zero]
 refine ld1_i (k := .slice) H.v.2.1 h1.cells.2.1 ?_
 obtain ⟨a, ha, hh, _⟩ := h1.val.edge hi
 refine ⟨⟨hi.1, by rw [h1.val.ed.len]; exact hi.2⟩, onSome_i ha (ldN_i (l := [.int .i64, .int .i64, .int .i64]) (G.fr i, G.to i, G.wt i, ()) hh ?_)⟩
 refine agg_store (vs := [.int .i64 (G.fr i), .int .i64 (G.to i), .int .i64 (G.wt i)]) o1 size_Edge rfl (by simp [Value.oneCell']) fun w3 o3 m3 _ => ?_
 exact ldN_i (l := [.int .i64, .int .i64, .int .i64]) (G.fr i, G.to i, G.wt i, ()) (own_all o3) (hyes hi w3 (k1.fresh m3 fun k e => by rw [show k = w.heap.size from e]; exact Nat.le_refl _))
theorem part_i {row first : Sl} {key : Int → Int} (h : ByN w row first G.n G.m key) (hm : G.m ≤ 51) {node : Int} (hn : G.isN node) {Q : Sl → World → Prop}
  (hQ : ∀ s w', Vec w' tInt 1 eI s (flK key G.m node.toNat) → Keep w w' → (∀ b, s.b = some b → w.heap.size ≤ b.block) → Q s w') :
  ∃ x2 x3 : Int, (∃ a, first.b = some a ∧ w.cell? (a.add (node.toNat * 1)) = some (.int .i64 x2) ∧ w.cell? (a.add ((node + 1).toNat * 1)) = some (.int .i64 x3)) ∧ (0 ≤ node ∧ node + 1 < (first.l : Int)) ∧ (0 ≤ x3 ∧ x3 ≤ ((row.c : Nat) : Int)) ∧
  (0 ≤ x2 ∧ x2 ≤ (((Int.toNat x3) : Nat) : Int)) ∧ F_slices_Clone_sint_int ⟨(sliceAddr row.b row.c (Int.toNat x2) 1), ((Int.toNat x3) - (Int.toNat x2)), (row.c - (Int.toNat x2))⟩ w Q := by
 obtain ⟨fs, rs, h1, h2, h3, h4, h5, h6⟩ := h
 obtain ⟨p1, p2⟩ := h6 node.toNat (by have := hn.1; have := hn.2; omega)
 have hl := h2.len
 have hcap := h2.cap
 have e1 := h5 node.toNat (by have := hn.2; omega)
 have e2 := h5 (node.toNat + 1) (by have := hn.1; have := hn.2; omega)
 obtain ⟨a, ha, hc1⟩ := rd_cell (k := .int .i64) (e := fun x => x) h1 e1
 obtain ⟨a', ha', hc2⟩ := rd_cell (k := .int .i64) (e := fun x => x) h1 e2
 rw [ha] at ha'; cases ha'
 have hp : preK (cK key G.m) (node.toNat + 1) = preK (cK key G.m) node.toNat + cK key G.m node.toNat := rfl
 have hen : (node + 1).toNat = node.toNat + 1 := by have := hn.1; omega
 refine ⟨_, _, ⟨a, ha, hc1, by rw [hen]; exact hc2⟩, ⟨hn.1, by have := h1.len; have := hn.2; omega⟩, ⟨by omega, by omega⟩, ⟨by omega, by omega⟩, ?_⟩
 simp only [Int.toNat_natCast]
 have hpart := h2.part (i := preK (cK key G.m) node.toNat) (j := preK (cK key G.m) (node.toNat + 1)) (c := row.c) (by omega) (by omega) (by omega) (Nat.le_refl _)
 rw [hp, Nat.add_sub_cancel_left, p2] at hpart
 refine CloneI_i (xs := flK key G.m node.toNat) ?_ (by have := cK_bnd key G.m node.toNat; unfold cK at this; omega) hQ
 rw [hp, Nat.add_sub_cancel_left]; exact hpart
theorem fl_node {key : Int → Int} {m : Nat} {node : Int} (h : 0 ≤ node) : flK key m node.toNat = (ints m).filter fun e => decide (key e = node) := by
 unfold flK; rw [Int.toNat_of_nonneg h]
theorem fl_none {key : Int → Int} {m n : Nat} (hk : ∀ e : Int, 0 ≤ e ∧ e < m → 0 ≤ key e ∧ key e < n) {node : Int} (h : ¬ (0 ≤ node ∧ node < n)) : ((ints m).filter fun e => decide (key e = node)) = [] := by
 rw [List.filter_eq_nil_iff]
 intro e he hd
 have := hk e (mem_ints.1 he)
 have : key e = node := by simpa using hd
 omega
theorem wnode {node : Int} (h : G.isN node) (ok : OkG G) : IntKind.wrap .i64 (node + (1 : Int)) = node + 1 := by have := ok.n1; have := h.1; have := h.2; exact w64 (by omega) (by omega)
theorem gOut_i {node : Int} {Q : Sl → World → Prop} (h : GraIs w H G) (hQ : ∀ s w', Vec w' tInt 1 eI s (G.outN node) → Keep w w' → (∀ b, s.b = some b → w.heap.size ≤ b.block) → Q s w') : F_gG_Out (some ⟨H.g, 0, none⟩) node w Q := by
 unfold F_gG_Out
 have nil : ¬ G.isN node → Q ⟨none, 0, 0⟩ w := fun hn => by
  refine hQ _ w ?_ (Mod.refl _ _) fun b hb => by cases hb
  unfold Gr.outN
  rw [fl_none (n := G.n) (fun e he => (h.ok.ed _ (G.ed_mem he)).1) hn]
  exact Vec.nil _ _ _ _
 refine cond_d (fun h => nil fun hn => by omega) (fun h0 => Nodes_i h (cond_d (fun h => nil fun hn => by omega) (fun h1 => ?_)))
 have hn : G.isN node := ⟨by omega, by omega⟩
 have d : Keep w w.drew := Mod.drew (Mod.refl _ w)
 have hd := h.keep d
 have hc := hd.cells
 obtain ⟨x2, x3, ⟨a, ha, c1, c2⟩, ⟨b0, b1⟩, q1, q2, hcl⟩ := part_i hd.out h.ok.m1.2 hn (Q := Q) fun s w' v k f => hQ s w' (by rw [fl_node hn.1] at v; exact v) (d.tr k) f
 refine onSome_i rfl (ld1_i (k := .slice) H.out hc.2.2.2.1 (onSome_i rfl (ld1_i (k := .slice) H.fr hc.2.2.2.2.2.1 ⟨⟨b0, by omega⟩, onSome_i ha (ld1_i (k := .int .i64) x2 c1 (onSome_i rfl (ld1_i (k := .slice) H.fr hc.2.2.2.2.2.1 ?_)))⟩)))
 rw [wnode hn h.ok]
 exact ⟨⟨by omega, by omega⟩, onSome_i ha (ld1_i (k := .int .i64) x3 c2 ⟨q1, q2, hcl⟩)⟩
theorem gIn_i {node : Int} {Q : Sl → World → Prop} (h : GraIs w H G) (hQ : ∀ s w', Vec w' tInt 1 eI s (G.inN node) → Keep w w' → (∀ b, s.b = some b → w.heap.size ≤ b.block) → Q s w') : F_gG_In (some ⟨H.g, 0, none⟩) node w Q := by
 unfold F_gG_In
 have nil : ¬ G.isN node → Q ⟨none, 0, 0⟩ w := fun hn => by
  refine hQ _ w ?_ (Mod.refl _ _) fun b hb => by cases hb
  unfold Gr.inN
  rw [fl_none (n := G.n) (fun e he => (h.ok.ed _ (G.ed_mem he)).2.1) hn]
  exact Vec.nil _ _ _ _
 refine cond_d (fun h => nil fun hn => by omega) (fun h0 => Nodes_i h (cond_d (fun h => nil fun hn => by omega) (fun h1 => ?_)))
 have hn : G.isN node := ⟨by omega, by omega⟩
 have d : Keep w w.drew := Mod.drew (Mod.refl _ w)
 have hd := h.keep d
 have hc := hd.cells
 obtain ⟨x2, x3, ⟨a, ha, c1, c2⟩, ⟨b0, b1⟩, q1, q2, hcl⟩ := part_i hd.inn h.ok.m1.2 hn (Q := Q) fun s w' v k f => hQ s w' (by rw [fl_node hn.1] at v; exact v) (d.tr k) f
 refine onSome_i rfl (ld1_i (k := .slice) H.inn hc.2.2.2.2.1 (onSome_i rfl (ld1_i (k := .slice) H.to hc.2.2.2.2.2.2 ⟨⟨b0, by omega⟩, onSome_i ha (ld1_i (k := .int .i64) x2 c1 (onSome_i rfl (ld1_i (k := .slice) H.to hc.2.2.2.2.2.2 ?_)))⟩)))
 rw [wnode hn h.ok]
 exact ⟨⟨by omega, by omega⟩, onSome_i ha (ld1_i (k := .int .i64) x3 c2 ⟨q1, q2, hcl⟩)⟩
end
end Go.Proofs.YtjjgcimlmjnaeaaGreat

namespace Go.Proofs.YtjjgcimlmjnaeaaGreat
open Go Go.Den
def ord2 (a b : Int × Int) : Int := if cmp3 a.1 b.1 ≠ 0 then cmp3 a.1 b.1 else cmp3 a.2 b.2
theorem ord2_neg {a b : Int × Int} : ord2 a b < 0 ↔ lex2 a b := by
 unfold ord2 cmp3
 by_cases h1 : a.1 < b.1
 ·simp [h1]; exact .inl h1
 ·by_cases h2 : a.1 > b.1
  ·simp [h1, h2]; omega
  ·have : a.1 = b.1 := by omega
   by_cases h3 : a.2 < b.2
   ·simp [this, h3]; exact .inr ⟨this, h3⟩
   ·by_cases h4 : a.2 > b.2
    ·simp [this, h3, h4]
    ·simp [this, h3, h4]
theorem ord2_zero {a b : Int × Int} : ord2 a b = 0 ↔ a = b := by
 obtain ⟨a1, a2⟩ := a
 obtain ⟨b1, b2⟩ := b
 unfold ord2 cmp3
 simp only [Prod.mk.injEq]
 by_cases h1 : a1 < b1
 ·simp [h1]; omega
 ·by_cases h2 : a1 > b1
  ·simp [h1, h2]; omega
  ·have : a1 = b1 := by omega
   subst this
   by_cases h3 : a2 < b2
   ·simp [h3]; omega
   ·by_cases h4 : a2 > b2
    ·simp [h3, h4]; omega
    ·simp [h3, h4]; omega
theorem lex2_irr (a : Int × Int) : ¬ lex2 a a := fun h => by rcases h with h | h <;> omega
theorem lex2_tr {a b c : Int × Int} (h : lex2 a b) (h' : lex2 b c) : lex2 a c := by unfold lex2 at *; omega
theorem Or_i {x y : Int} {w : World} {g : Nat} {Q : Int → World → Prop} (h : Own w g tInt [.int .i64 x, .int .i64 y]) (hQ : Q (if x ≠ 0 then x else y) w) : F_cmp_Or_int ⟨some ⟨g, 0, none⟩, 2, 2⟩ w Q := by
 unfold F_cmp_Or_int
 obtain ⟨c0, c1⟩ := own2 h
 refine loop_i (fun c t w1 => w1 = w ∧ ((c = 2 ∧ t = ((0 : Int), ())) ∨ (c = 1 ∧ t = ((1 : Int), ()) ∧ x = 0) ∨ (c = 0 ∧ t = ((2 : Int), ()) ∧ x = 0 ∧ y = 0))) 2 ⟨rfl, .inl ⟨rfl, rfl⟩⟩ ?_
 rintro c t w1 ⟨rfl, hst⟩ X hX
 rcases hst with ⟨rfl, rfl⟩ | ⟨rfl, rfl, hx⟩ | ⟨rfl, rfl, hx, hy⟩
 ·dsimp only
  refine cond_d (fun _ => ⟨by decide, onSome_i rfl (ld1_i (k := .int .i64) x c0 ?_)⟩) (fun h => absurd (by decide) h)
  refine cond_i (fun hn => ?_) (fun hn => ?_)
  ·have : x ≠ 0 := by simpa using hn
   rw [if_pos this] at hQ; exact hQ
  ·have : x = 0 := by simpa using hn
   exact hX 1 _ _ (by omega) ⟨rfl, .inr (.inl ⟨rfl, by rw [show IntKind.wrap .i64 ((0 : Int) + 1) = 1 by decide], this⟩)⟩
 ·dsimp only
  refine cond_d (fun _ => ⟨by decide, onSome_i rfl (ld1_i (k := .int .i64) y c1 ?_)⟩) (fun h => absurd (by decide) h)
  rw [if_neg (fun h => h hx)] at hQ
  refine cond_i (fun hn => hQ) (fun hn => ?_)
  have : y = 0 := by simpa using hn
  exact hX 0 _ _ (by omega) ⟨rfl, .inr (.inr ⟨rfl, by rw [show IntKind.wrap .i64 ((1 : Int) + 1) = 2 by decide], hx, this⟩)⟩
 ·dsimp only
  refine cond_d (fun h => absurd h (by decide)) (fun _ => ?_)
  rw [if_neg (fun h => h hx), hy] at hQ; exact hQ
theorem order_i {a b : Int × Int} {w : World} {Q : Int → World → Prop} (hQ : ∀ w', Keep w w' → Q (ord2 a b) w') : F_graph_order (a.1, a.2, ()) (b.1, b.2, ()) w Q := by
 unfold F_graph_order
 refine alloc_i fun w1 o1 k1 z1 => alloc_i fun w2 o2 k2 z2 => ?_
 have d : Keep w2 w2.drew := Mod.drew (Mod.refl _ w2)
 have kd := k2.tr d
 obtain ⟨a0, a1⟩ := own2 (o1.mod kd id)
 obtain ⟨b0, b1⟩ := own2 (o2.mod d id)
 refine ld1_i (k := .int .i64) a.1 a0 (ld1_i (k := .int .i64) b.1 b0 (ld1_i (k := .int .i64) a.2 a1 (ld1_i (k := .int .i64) b.2 b1 ?_)))
 refine Compare_i ⟨b1, a1, Compare_i ?_⟩
 refine alloc_i fun w5 o5 k5 z5 => ?_
 exact Or_i o5 (hQ w5 ((k1.tr kd).tr k5))
theorem callOrder {a b : Int × Int} {w : World} {K : Value → World → Prop} (hK : ∀ w', Keep w w' → K (.int .i64 (ord2 a b)) w') : callV Tryz.prog (.func (.func fn_graph_order) #[] #[]) [.agg #[.int .i64 a.1, .int .i64 a.2], .agg #[.int .i64 b.1, .int .i64 b.2]] w K :=
 callV_i S_graph_order (by kernel_rfl) (decK_intro (ks := [.agg [.int .i64, .int .i64], .agg [.int .i64, .int .i64]]) (t := ((a.1, a.2, ()), (b.1, b.2, ()), ())) (order_i hK))
theorem SearchBan_i {s : Sl} {xs : List (Int × Int)} {v : Int × Int} {w : World} {Q : Int → Bool → World → Prop} (hs : Rd w s 2 eP xs) (hsrt : xs.Pairwise lex2) (hlen : xs.length < 4611686018427387904)
  (hQ : ∀ i w', Keep w w' → Q i (decide (v ∈ xs)) w') : F_slices_BinarySearchFunc_sBan_Ban_Ban s (v.1, v.2, ()) (.func (.func fn_graph_order) #[] #[]) w Q := by
 unfold F_slices_BinarySearchFunc_sBan_Ban_Ban
 have hl := hs.len
 have sget : ∀ {p q : Nat} {x y : Int × Int}, p < q → xs[p]? = some x → xs[q]? = some y → lex2 x y := fun {p q x y} hpq hx hy => by
  obtain ⟨h1, rfl⟩ := List.getElem?_eq_some_iff.1 hx
  obtain ⟨h2, rfl⟩ := List.getElem?_eq_some_iff.1 hy
  exact List.pairwise_iff_getElem.1 hsrt p q h1 h2 hpq
 refine alloc_i fun w1 o1 k1 z1 => ?_
 refine loop_i (fun n t w' => ∃ i j : Nat, i ≤ j ∧ j ≤ xs.length ∧ n = j - i ∧ t = ((i : Int), (j : Int), ()) ∧ Keep w1 w' ∧ (∀ p x, p < i → xs[p]? = some x → lex2 x v) ∧ (∀ p x, j ≤ p → xs[p]? = some x → ¬ lex2 x v)) xs.length
  ⟨0, xs.length, by omega, by omega, by omega, by rw [hl]; rfl, Mod.refl _ _, fun p x hp => by omega, fun p x hp hx => by have := (List.getElem?_eq_some_iff.1 hx).1; omega⟩ ?_
 rintro n t w' ⟨i, j, hij, hj, rfl, rfl, hk, hlo, hhi⟩ X hX
 dsimp only
 have d : Keep w' w'.drew := Mod.drew (Mod.refl _ w')
 have hkd := hk.tr d
 have hs' := hs.mod (k1.tr hkd) eP_ne (fun _ _ => id)
 have hv : HoldsAt w'.drew ⟨w.heap.size, 0, none⟩ 0 (encs [.int .i64, .int .i64] (v.1, v.2, ())) := own_all (o1.mod hkd id)
 refine cond_d (fun h => ?_) (fun h => ?_)
 ·have hlt : i < j := by omega
  rw [mid_i i j (by omega)]
  have hm : (i + j) / 2 < xs.length := by omega
  have hget := List.getElem?_eq_getElem hm
  refine ⟨by omega, ⟨by omega, by omega⟩, ?_⟩
  obtain ⟨a, ha, hh, _⟩ := rd2 hs' hget
  generalize xs[(i + j) / 2] = x at *
  refine onSome_i ha (ldN_i (l := [.int .i64, .int .i64]) (x.1, x.2, ()) hh (ldN_i (l := [.int .i64, .int .i64]) (v.1, v.2, ()) hv ?_))
  refine callOrder fun w2 k2 => ⟨_, rfl, ?_⟩
  rw [w64 (n := (((i + j) / 2 : Nat) : Int) + 1) (by omega) (by omega)]
  refine cond_d (fun h => ?_) (fun h => ?_)
  ·have hx := ord2_neg.1 h
   refine hX (j - ((i + j) / 2 + 1)) _ _ (by omega) ⟨(i + j) / 2 + 1, j, by omega, hj, rfl, rfl, hkd.tr k2, fun p y hp hy => ?_, hhi⟩
   rcases Nat.lt_or_ge p ((i + j) / 2) with h' | h'
   ·exact lex2_tr (sget h' hy hget) hx
   ·have : p = (i + j) / 2 := by omega
    subst this; rw [hget] at hy; cases hy; exact hx
  ·have hx : ¬ lex2 x v := fun h' => h (ord2_neg.2 h')
   refine hX ((i + j) / 2 - i) _ _ (by omega) ⟨i, (i + j) / 2, by omega, by omega, rfl, rfl, hkd.tr k2, hlo, fun p y hp hy => ?_⟩
   rcases Nat.eq_or_lt_of_le hp with h' | h'
   ·subst h'; rw [hget] at hy; cases hy; exact hx
   ·exact fun h2 => hx (lex2_tr (sget h' hget hy) h2)
 ·have hje : j = i := by omega
  subst hje
  have loc : ∀ {q : Nat}, xs[q]? = some v → q = j ∨ (j < q ∧ ∀ x, xs[j]? = some x → False) := fun {q} hq => by
   rcases Nat.lt_trichotomy q j with h1 | h1 | h1
   ·exact absurd (hlo q v h1 hq) (lex2_irr v)
   ·exact .inl h1
   ·exact .inr ⟨h1, fun x hx => hhi j x (Nat.le_refl _) hx (sget h1 hx hq)⟩
  refine cond_d (fun h => ?_) (fun h => ?_)
  ·have hi : j < xs.length := by omega
   have hget := List.getElem?_eq_getElem hi
   refine ⟨⟨by omega, by omega⟩, ?_⟩
   obtain ⟨a, ha, hh, _⟩ := rd2 hs' hget
   generalize xs[j] = x at *
   refine onSome_i ha (ldN_i (l := [.int .i64, .int .i64]) (x.1, x.2, ()) hh (ldN_i (l := [.int .i64, .int .i64]) (v.1, v.2, ()) hv ?_))
   refine callOrder fun w2 k2 => ⟨_, rfl, ?_⟩
   have e : (ord2 x v == 0) = decide (v ∈ xs) := by
    rw [Bool.eq_iff_iff]
    simp only [beq_iff_eq, decide_eq_true_eq]
    rw [ord2_zero]
    constructor
    ·rintro rfl; exact List.mem_of_getElem? hget
    ·intro hm
     obtain ⟨q, hq⟩ := List.mem_iff_getElem?.1 hm
     rcases loc hq with rfl | ⟨_, h2⟩
     ·rw [hget] at hq; exact (Option.some.inj hq)
     ·exact (h2 x hget).elim
   rw [e]
   exact hQ _ w2 ((k1.tr hkd).tr k2)
  ·have e : decide (v ∈ xs) = false := by
    rw [decide_eq_false_iff_not]
    intro hm
    obtain ⟨q, hq⟩ := List.mem_iff_getElem?.1 hm
    have := (List.getElem?_eq_some_iff.1 hq).1
    have h' : ¬ ((j : Int) < (s.l : Int)) := h
    rcases loc hq with rfl | ⟨h1, _⟩ <;> omega
   have := hQ (j : Int) w'.drew (k1.tr hkd)
   rw [e] at this; exact this
section
variable {w : World} {H : GraS} {G : Gr}
theorem Banned_i {a b : Int} {Q : Bool → World → Prop} (h : GraIs w H G) (hQ : ∀ w', Keep w w' → Q (decide ((a, b) ∈ G.B)) w') : F_gG_Banned (some ⟨H.g, 0, none⟩) a b w Q := by
 unfold F_gG_Banned
 refine cond_i (fun h => by simp at h) (fun _ => onSome_i rfl ?_)
 rw [add_zero]
 refine ld1_i (k := .slice) H.v.2.2.1 h.cells.2.2.1 ?_
 have := h.ok.bl
 exact SearchBan_i (v := (a, b)) h.val.bn h.ok.bs (by omega) fun i w' k => hQ w' k
end
theorem gwithin_i {n low high : Int} {w : World} {Q : Bool → World → Prop} (h : low ≤ n ∧ n ≤ high) (hQ : Q true w) : F_graph_within n low high w Q := by
 unfold F_graph_within
 refine cond_d (fun _ => ?_) (fun h' => absurd h.1 h')
 rw [decide_eq_true h.2]; exact hQ
theorem gmay_i {g : GT} {G : Gr} {W : World} {Q : Bool → World → Prop} (h : GvIs W g G) (ok : OkG G) (hQ : ∀ w', Keep W w' → Q true w') : F_graph_may g W Q := by
 unfold F_graph_may
 refine alloc_i fun w1 o1 k1 z1 => ?_
 have hn := ok.n1
 have hm := ok.m1
 have hb := ok.bl
 have l1 := h.nd.len
 have l2 := h.ed.len
 have l3 := h.bn.len
 have cs : ∀ {wx : World}, Keep w1 wx → _ := fun {wx} kx => own3 (o1.mod kx id)
 have c1 := cs (Mod.refl _ _)
 unfold Gr.n at hn
 unfold Gr.m at hm
 refine ld1_i (k := .slice) g.1 c1.1 (gwithin_i (by omega) (cond_i (fun h => by simp at h) (fun _ => ?_)))
 refine ld1_i (k := .slice) g.2.1 c1.2.1 (cond_d (fun h => by omega) (fun _ => ?_))
 refine ld1_i (k := .slice) g.2.2.1 c1.2.2 (cond_d (fun h => by omega) (fun _ => ?_))
 refine ld1_i (k := .slice) g.1 c1.1 ?_
 refine loop_i (fun c t w2 => ∃ i : Nat, i ≤ G.N.length ∧ c = G.N.length - i ∧ t = ((i : Int), ()) ∧ Keep w1 w2) G.N.length ⟨0, Nat.zero_le _, rfl, rfl, Mod.refl _ _⟩ ?_
 rintro c t w2 ⟨i, hi, rfl, rfl, k2⟩ X hX
 dsimp only
 refine cond_d (fun hlt => ?_) (fun hge => ?_)
 ·have hi' : i < G.N.length := by omega
  have hget := List.getElem?_eq_getElem hi'
  have hnd := ok.nd _ (List.getElem_mem hi')
  obtain ⟨a, ha, hh, _⟩ := rd2 (h.nd.mod (k1.tr k2) eP_ne fun _ _ => id) hget
  generalize G.N[i] = x at *
  rw [Int.toNat_natCast]
  refine ⟨⟨by omega, hlt⟩, onSome_i ha (ldN_i (l := [.int .i64, .int .i64]) (x.1, x.2, ()) hh ?_)⟩
  refine agg_new (vs := [.int .i64 x.1, .int .i64 x.2]) size_Node rfl (by simp [Value.oneCell']) fun w5 o5 k5 z5 => ?_
  obtain ⟨n0, n1⟩ := own2 o5
  refine ld1_i (k := .int .i64) x.1 n0 (gwithin_i hnd.1 (cond_i (fun h => by simp at h) (fun _ => ?_)))
  refine ld1_i (k := .int .i64) x.2 n1 (gwithin_i hnd.2 (cond_i (fun h => by simp at h) (fun _ => ?_)))
  rw [wi_ i (by omega)]
  exact hX _ _ _ (by omega) ⟨i + 1, hi', rfl, rfl, k2.tr k5⟩
 clear hX X hge hi i
 have c2 := cs k2
 refine ld1_i (k := .slice) g.1 c2.1 (ld1_i (k := .slice) g.2.1 c2.2.1 ?_)
 have wn : IntKind.wrap .i64 (((g.1.l : Nat) : Int) - (1 : Int)) = (G.n : Int) - 1 := by rw [w64 (by omega) (by omega), l1]; rfl
 have wm : IntKind.wrap .i64 (((g.2.1.l : Nat) : Int) - (1 : Int)) = (G.m : Int) - 1 := by rw [w64 (by omega) (by omega), l2]; rfl
 rw [wn]
 refine loop_i (fun c t w3 => ∃ i : Nat, i ≤ G.E.length ∧ c = G.E.length - i ∧ t = ((i : Int), ()) ∧ Keep w1 w3) G.E.length ⟨0, Nat.zero_le _, rfl, rfl, k2⟩ ?_
 rintro c t w3 ⟨i, hi, rfl, rfl, k3⟩ X hX
 dsimp only
 refine cond_d (fun hlt => ?_) (fun hge => ?_)
 ·have hi' : i < G.E.length := by omega
  have hget := List.getElem?_eq_getElem hi'
  have hed := ok.ed _ (List.getElem_mem hi')
  obtain ⟨a, ha, hh, _⟩ := rd3 (h.ed.mod (k1.tr k3) eR3_ne fun _ _ => id) hget
  generalize G.E[i] = x at *
  rw [Int.toNat_natCast]
  refine ⟨⟨by omega, hlt⟩, onSome_i ha (ldN_i (l := [.int .i64, .int .i64, .int .i64]) (x.1, x.2.1, x.2.2, ()) hh ?_)⟩
  refine agg_new (vs := [.int .i64 x.1, .int .i64 x.2.1, .int .i64 x.2.2]) size_Edge rfl (by simp [Value.oneCell']) fun w5 o5 k5 z5 => ?_
  obtain ⟨n0, n1, n2⟩ := own3 o5
  refine ld1_i (k := .int .i64) x.1 n0 (gwithin_i (by omega) (cond_i (fun h => by simp at h) (fun _ => ?_)))
  refine ld1_i (k := .int .i64) x.2.1 n1 (gwithin_i (by omega) (cond_i (fun h => by simp at h) (fun _ => ?_)))
  refine ld1_i (k := .int .i64) x.2.2 n2 (gwithin_i (by omega) (cond_i (fun h => by simp at h) (fun _ => ?_)))
  rw [wi_ i (by omega)]
  exact hX _ _ _ (by omega) ⟨i + 1, hi', rfl, rfl, k3.tr k5⟩
 clear hX X hge hi i
 have c3 := cs k3
 refine ld1_i (k := .slice) g.2.2.1 c3.2.2 ?_
 refine loop_i (fun c t w4 => ∃ i : Nat, i ≤ G.B.length ∧ c = G.B.length - i ∧ t = ((i : Int), ()) ∧ Keep w1 w4) G.B.length ⟨0, Nat.zero_le _, rfl, rfl, k3⟩ ?_
 rintro c t w4 ⟨i, hi, rfl, rfl, k4⟩ X hX
 dsimp only
 refine cond_d (fun hlt => ?_) (fun _ => hQ w4 (k1.tr k4))
 have hi' : i < G.B.length := by omega
 have hget := List.getElem?_eq_getElem hi'
 obtain ⟨hb1, hb2, hb3⟩ := ok.bd _ (List.getElem_mem hi')
 have srt : ∀ y, 0 < i → G.B[i - 1]? = some y → lex2 y G.B[i] := fun y h0 hy => by
  obtain ⟨h1, rfl⟩ := List.getElem?_eq_some_iff.1 hy
  exact List.pairwise_iff_getElem.1 ok.bs (i - 1) i h1 hi' (by omega)
 obtain ⟨a, ha, hh, _⟩ := rd2 (h.bn.mod (k1.tr k4) eP_ne fun _ _ => id) hget
 generalize G.B[i] = x at *
 rw [Int.toNat_natCast]
 refine ⟨⟨by omega, hlt⟩, onSome_i ha (ldN_i (l := [.int .i64, .int .i64]) (x.1, x.2, ()) hh ?_)⟩
 refine agg_new (vs := [.int .i64 x.1, .int .i64 x.2]) size_Ban rfl (by simp [Value.oneCell']) fun w5 o5 k5 z5 => ?_
 have d5 : Keep w5 w5.drew := Mod.drew (Mod.refl _ w5)
 obtain ⟨n0, n1⟩ := own2 o5
 obtain ⟨n0', n1'⟩ := own2 (o5.mod d5 id)
 have k15 := (k4.tr k5)
 have c5 := cs k15
 have c5' := cs (k15.tr d5)
 have hv5 := h.keep ((k1.tr k15).tr d5)
 refine ld1_i (k := .slice) g.2.1 c5.2.1 (ld1_i (k := .int .i64) x.1 n0' ?_)
 rw [wm]
 refine gwithin_i (by omega) (cond_i (fun h => by simp at h) (fun _ => ?_))
 refine ld1_i (k := .int .i64) x.2 n1' (gwithin_i (by omega) (cond_i (fun h => by simp at h) (fun _ => ?_)))
 obtain ⟨p1, hp1, _, _, t1, _⟩ := hv5.edge hb1
 obtain ⟨p2, hp2, _, f2, _, _⟩ := hv5.edge hb2
 refine ld1_i (k := .slice) g.2.1 c5'.2.1 (ld1_i (k := .int .i64) x.1 n0' ⟨⟨hb1.1, by rw [l2]; exact hb1.2⟩, onSome_i hp1 (ld1_i (k := .int .i64) (G.to x.1) t1 ?_)⟩)
 refine ld1_i (k := .slice) g.2.1 c5'.2.1 (ld1_i (k := .int .i64) x.2 n1' ⟨⟨hb2.1, by rw [l2]; exact hb2.2⟩, onSome_i hp2 (ld1_i (k := .int .i64) (G.fr x.2) f2 ?_)⟩)
 refine cond_i (fun h => by rw [hb3] at h; simp at h) (fun _ => ?_)
 have next : ∀ wz, Keep w1 wz → X (IntKind.wrap .i64 ((i : Int) + 1), ()) wz := fun wz kz => by
  rw [wi_ i (by omega)]
  exact hX _ _ _ (by omega) ⟨i + 1, hi', rfl, rfl, kz⟩
 refine cond_d (fun hpos => ?_) (fun _ => next _ (k15.tr d5))
 have wi : IntKind.wrap .i64 ((i : Int) - (1 : Int)) = ((i - 1 : Nat) : Int) := by rw [w64 (by omega) (by omega)]; omega
 rw [wi, Int.toNat_natCast]
 have hget' := List.getElem?_eq_getElem (show i - 1 < G.B.length by omega)
 have hs := srt _ (by omega) hget'
 obtain ⟨a', ha', hh', _⟩ := rd2 hv5.bn hget'
 generalize G.B[i - 1] = y at *
 refine ld1_i (k := .slice) g.2.2.1 c5'.2.2 ⟨⟨by omega, by omega⟩, onSome_i ha' (ldN_i (l := [.int .i64, .int .i64]) (y.1, y.2, ()) hh' (ldN_i (l := [.int .i64, .int .i64]) (x.1, x.2, ()) (own_all (o5.mod d5 id)) ?_))⟩
 refine order_i (a := y) (b := x) fun w6 k6 => ?_
 exact cond_d (fun hge => absurd (ord2_neg.2 hs) (by omega)) (fun _ => next _ ((k15.tr d5).tr k6))
theorem rows_i {g : GT} {G : Gr} {node : Value} {key : Int → Int} {W : World} {Q : Sl → Sl → World → Prop} (h : GvIs W g G) (ok : OkG G) (hkey : ∀ e : Int, G.isE e → 0 ≤ key e ∧ key e < G.n)
  (hnode : ∀ (e : Int) w (K : Value → World → Prop), G.isE e → (∀ w', Keep w w' → K (.int .i64 (key e)) w') → callV Tryz.prog node [.agg #[.int .i64 (G.fr e), .int .i64 (G.to e), .int .i64 (G.wt e)]] w K)
  (hQ : ∀ s1 s2 w', ByN w' s1 s2 G.n G.m key → Keep W w' → (∀ b, s1.b = some b → W.heap.size ≤ b.block) → (∀ b, s2.b = some b → W.heap.size ≤ b.block) → Q s1 s2 w') : F_graph_rows g node W Q := by
 unfold F_graph_rows
 have hn := ok.n1
 have hm := ok.m1
 have l1 : g.1.l = G.n := h.nd.len
 have l2 : g.2.1.l = G.m := h.ed.len
 have hkey' : ∀ i : Nat, i < G.m → 0 ≤ key (i : Int) ∧ key (i : Int) < G.n := fun i hi => hkey i ⟨by omega, by omega⟩
 refine alloc_i fun w1 o1 k1 z1 => ?_
 have cs : ∀ {wx : World}, Keep w1 wx → _ := fun {wx} kx => own3 (o1.mod kx id)
 have wl : IntKind.wrap .i64 (((g.1.l : Nat) : Int) + (1 : Int)) = ((G.n + 1 : Nat) : Int) := by rw [w64 (by omega) (by omega), l1]; rfl
 refine ld1_i (k := .slice) g.1 (cs (Mod.refl _ _)).1 ?_
 rw [wl]
 refine make_i elem_sInt (enc := eI) (0 : Int) rfl lenI (by omega) (Int.le_refl _) (by omega) (by omega) fun w2 v2 k2 => ?_
 generalize hs2 : (⟨some ⟨w1.heap.size, 0, none⟩, Int.toNat ((G.n + 1 : Nat) : Int), Int.toNat ((G.n + 1 : Nat) : Int)⟩ : Sl) = s2 at *
 have s2b : s2.b = some ⟨w1.heap.size, 0, none⟩ := by rw [← hs2]
 have s2l : s2.l = G.n + 1 := by rw [← hs2]; exact Int.toNat_natCast _
 rw [Int.toNat_natCast] at v2
 have fr2 : ∀ {wx : World} {F : Nat → Prop} {wy : World}, Keep w1 wx → Mod F wx wy → (∀ k, F k → w1.heap.size ≤ k) → Keep w1 wy := fun kx m hF => kx.fresh m hF
 refine ld1_i (k := .slice) g.2.1 (cs k2).2.1 ?_
 refine loop_i (fun c t w3 => ∃ (i : Nat) (fs : List Int), i ≤ G.m ∧ c = G.m - i ∧ t = ((i : Int), ()) ∧ Keep w1 w3 ∧ Vec w3 tInt 1 eI s2 fs ∧ Rows1 key G.n i fs) G.m ⟨0, _, Nat.zero_le _, rfl, rfl, k2, v2, Rows1.start key G.n⟩ ?_
 rintro c t w3 ⟨i, fs, hi, rfl, rfl, k3, v3, R⟩ X hX
 dsimp only
 refine cond_d (fun hlt => ?_) (fun hge => ?_)
 ·have hi' : i < G.m := by omega
  have hE : G.isE (i : Int) := ⟨by omega, by omega⟩
  obtain ⟨a, ha, hh, _⟩ := (h.keep (k1.tr k3)).edge hE
  refine ⟨⟨by omega, hlt⟩, onSome_i ha (ldN_i (l := [.int .i64, .int .i64, .int .i64]) (G.fr i, G.to i, G.wt i, ()) hh ?_)⟩
  refine agg_new (vs := [.int .i64 (G.fr i), .int .i64 (G.to i), .int .i64 (G.wt i)]) size_Edge rfl (by simp [Value.oneCell']) fun w5 o5 k5 z5 => ?_
  refine ldN_i (l := [.int .i64, .int .i64, .int .i64]) (G.fr i, G.to i, G.wt i, ()) (own_all o5) ?_
  refine hnode i w5 _ hE fun w6 k6 => ⟨_, rfl, ?_⟩
  obtain ⟨q0, q1⟩ := hkey i hE
  obtain ⟨v0, hv0⟩ : ∃ v0 : Nat, key (i : Int) = (v0 : Int) := ⟨(key i).toNat, by omega⟩
  have hv0n : v0 < G.n := by omega
  have wk : IntKind.wrap .i64 (key (i : Int) + (1 : Int)) = ((v0 + 1 : Nat) : Int) := by rw [hv0, w64 (by omega) (by omega)]; rfl
  rw [wk, Int.toNat_natCast]
  have v6 := v3.mod (k5.tr k6) fun _ _ => id
  have hget := R.val v0 hv0n
  obtain ⟨p, hp, hc⟩ := rd_cell (k := .int .i64) (e := fun x => x) (v6.rd lenI) hget
  have hcb := cK_bnd key i v0
  have bnd : 0 ≤ ((v0 + 1 : Nat) : Int) ∧ ((v0 + 1 : Nat) : Int) < ((s2.l : Nat) : Int) := ⟨by omega, by omega⟩
  refine ⟨bnd, onSome_i hp (ld1_i (k := .int .i64) (cK key i v0 : Int) hc ⟨bnd, onSome_i s2b ?_⟩)⟩
  rw [w64 (n := (cK key i v0 : Int) + 1) (by omega) (by omega)]
  refine v6.store lenI s2b (i := v0 + 1) (by rw [R.len]; omega) ((cK key i v0 : Int) + 1) (v := .int .i64 ((cK key i v0 : Int) + 1)) rfl size_Int (oneI _) fun w7 v7 m7 z7 => ?_
  rw [wi_ i (by omega)]
  exact hX _ _ _ (by omega) ⟨i + 1, _, hi', rfl, rfl, fr2 ((k3.tr k5).tr k6) m7 fun k e => by rw [show k = w1.heap.size from e]; exact Nat.le_refl _, v7, R.step hv0n hv0⟩
 have ei : i = G.m := by omega
 subst ei
 have R2 := R.rows2
 clear hX X R hge hi
 refine ld1_i (k := .slice) g.1 (cs k3).1 ?_
 refine loop_i (fun c t w3 => ∃ (j : Nat) (fs : List Int), j ≤ G.n ∧ c = G.n - j ∧ t = ((j : Int), ()) ∧ Keep w1 w3 ∧ Vec w3 tInt 1 eI s2 fs ∧ Rows2 (cK key G.m) G.n j fs) G.n ⟨0, _, Nat.zero_le _, rfl, rfl, k3, v3, R2⟩ ?_
 clear k3 v3 R2 fs
 rintro c t w3 ⟨j, fs, hj, rfl, rfl, k3, v3, R⟩ X hX
 dsimp only
 have hall := preK_all hkey'
 refine cond_d (fun hlt => ?_) (fun hge => ?_)
 ·have hj' : j < G.n := by omega
  have d : Keep w3 w3.drew := Mod.drew (Mod.refl _ w3)
  have v3' := v3.mod d fun _ _ => id
  rw [wi_ j (by omega), Int.toNat_natCast, Int.toNat_natCast]
  obtain ⟨p, hp, hc⟩ := rd_cell (k := .int .i64) (e := fun x => x) (v3'.rd lenI) (R.hi j hj' (Nat.le_refl _))
  obtain ⟨p', hp', hc'⟩ := rd_cell (k := .int .i64) (e := fun x => x) (v3'.rd lenI) (R.lo j (Nat.le_refl _))
  have hcb := cK_bnd key G.m j
  have hpb : preK (cK key G.m) j + cK key G.m j ≤ G.m := by have := preK_lt (cK key G.m) hj'; omega
  have bnd : 0 ≤ ((j + 1 : Nat) : Int) ∧ ((j + 1 : Nat) : Int) < ((s2.l : Nat) : Int) := ⟨by omega, by omega⟩
  refine ⟨bnd, onSome_i hp (ld1_i (k := .int .i64) (cK key G.m j : Int) hc ⟨⟨by omega, by omega⟩, onSome_i hp' (ld1_i (k := .int .i64) (preK (cK key G.m) j : Int) hc' ⟨bnd, onSome_i s2b ?_⟩)⟩)⟩
  rw [w64 (n := (cK key G.m j : Int) + (preK (cK key G.m) j : Int)) (by omega) (by omega)]
  refine v3'.store lenI s2b (i := j + 1) (by rw [R.len]; omega) ((cK key G.m j : Int) + (preK (cK key G.m) j : Int)) (v := .int .i64 ((cK key G.m j : Int) + (preK (cK key G.m) j : Int))) rfl size_Int (oneI _) fun w7 v7 m7 z7 => ?_
  exact hX _ _ _ (by omega) ⟨j + 1, _, hj', rfl, rfl, fr2 (k3.tr d) m7 fun k e => by rw [show k = w1.heap.size from e]; exact Nat.le_refl _, v7, R.step hj'⟩
 have ej : j = G.n := by omega
 subst ej
 clear hX X hge hj
 refine ld1_i (k := .slice) g.2.1 (cs k3).2.1 ?_
 rw [l2]
 refine make_i elem_sInt (enc := eI) (0 : Int) rfl lenI (by omega) (Int.le_refl _) (by omega) (by omega) fun w4 v4 k4 => ?_
 simp only [Int.toNat_natCast] at v4 ⊢
 have K4 := k3.tr k4
 have v2' := v3.mod k4 fun _ _ => id
 refine CloneI_i (v2'.rd lenI) (by rw [R.len]; omega) fun s7 w5 v5 k5 f5 => ?_
 have K5 := K4.tr k5
 have z34 : w1.heap.size < w3.heap.size := by
  have := v3.lt s2b
  exact this
 have hk4 := k4.size
 have hlt4 : w3.heap.size < w4.heap.size := v4.lt rfl
 obtain ⟨g7, hg7⟩ : ∃ g7, s7.b = some ⟨g7, 0, none⟩ := by
  rcases v5.own with ⟨_, h2⟩ | ⟨g, _, hb, _⟩
  ·have := v5.cap; have := v5.len; have := R.len; omega
  ·exact ⟨g, hb⟩
 have g7lo : w4.heap.size ≤ g7 := f5 _ hg7
 refine ld1_i (k := .slice) g.2.1 (cs K5).2.1 ?_
 have R3 := R.rows3
 have l7 := v5.len
 rw [R.len] at l7
 refine loop_i (fun c t w6 => ∃ (i : Nat) (nx row : List Int), i ≤ G.m ∧ c = G.m - i ∧ t = ((i : Int), ()) ∧ Keep w1 w6 ∧ Vec w6 tInt 1 eI s7 nx ∧ Vec w6 tInt 1 eI ⟨some ⟨w3.heap.size, 0, none⟩, G.m, G.m⟩ row ∧ Vec w6 tInt 1 eI s2 fs ∧ Rows3 key G.n G.m i nx row) G.m
  ⟨0, _, _, Nat.zero_le _, rfl, rfl, K5, v5, v4.mod k5 (fun _ _ => id), v2'.mod k5 (fun _ _ => id), R3⟩ ?_
 clear R3
 rintro c t w6 ⟨i, nx, row, hi, rfl, rfl, k6, v7, vr, vs, R3⟩ X hX
 dsimp only
 refine cond_d (fun hlt => ?_) (fun hge => ?_)
 ·have hi' : i < G.m := by omega
  have hE : G.isE (i : Int) := ⟨by omega, by omega⟩
  obtain ⟨a, ha, hh, _⟩ := (h.keep (k1.tr k6)).edge hE
  refine ⟨⟨by omega, hlt⟩, onSome_i ha (ldN_i (l := [.int .i64, .int .i64, .int .i64]) (G.fr i, G.to i, G.wt i, ()) hh ?_)⟩
  refine agg_new (vs := [.int .i64 (G.fr i), .int .i64 (G.to i), .int .i64 (G.wt i)]) size_Edge rfl (by simp [Value.oneCell']) fun w8 o8 k8 z8 => ?_
  refine ldN_i (l := [.int .i64, .int .i64, .int .i64]) (G.fr i, G.to i, G.wt i, ()) (own_all o8) ?_
  refine hnode i w8 _ hE fun w9 k9 => ⟨_, rfl, ?_⟩
  obtain ⟨q0, q1⟩ := hkey i hE
  obtain ⟨v0, hv0⟩ : ∃ v0 : Nat, key (i : Int) = (v0 : Int) := ⟨(key i).toNat, by omega⟩
  have hv0n : v0 < G.n := by omega
  obtain ⟨hpos, Rn⟩ := R3.step hi' hkey' hv0n hv0
  rw [hv0, Int.toNat_natCast]
  have k69 := k8.tr k9
  have v7' := v7.mod k69 fun _ _ => id
  have vr' := vr.mod k69 fun _ _ => id
  have vs' := vs.mod k69 fun _ _ => id
  have hget := R3.nv v0 hv0n
  generalize hP : preK (cK key G.m) v0 + cK key i v0 = P at *
  obtain ⟨p, hp, hc⟩ := rd_cell (k := .int .i64) (e := fun x => x) (v7'.rd lenI) hget
  have bnd : 0 ≤ (v0 : Int) ∧ (v0 : Int) < ((s7.l : Nat) : Int) := ⟨by omega, by omega⟩
  refine ⟨bnd, onSome_i hp (ld1_i (k := .int .i64) (P : Int) hc ⟨⟨by omega, by omega⟩, onSome_i rfl ?_⟩)⟩
  rw [Int.toNat_natCast]
  refine vr'.store lenI rfl (i := P) (by rw [R3.rl]; exact hpos) (i : Int) (v := .int .i64 (i : Int)) rfl size_Int (oneI _) fun w10 v10 m10 z10 => ?_
  have m10' : Mod (fun k => k = w3.heap.size) w9 w10 := m10
  have v7'' := v7'.mod m10' fun b hb e => by rw [hg7] at hb; cases hb; have e' : g7 = w3.heap.size := e; omega
  have vs'' := vs'.mod m10' fun b hb e => by rw [s2b] at hb; cases hb; have e' : w1.heap.size = w3.heap.size := e; omega
  have o10 := (o8.mod k9 id).mod m10' fun e => by have e' : w6.heap.size = w3.heap.size := e; have := k6.size; have := vr.lt (a := ⟨w3.heap.size, 0, none⟩) rfl; have e'' : w3.heap.size < w6.heap.size := this; omega
  refine ldN_i (l := [.int .i64, .int .i64, .int .i64]) (G.fr i, G.to i, G.wt i, ()) (own_all o10) ?_
  refine hnode i w10 _ hE fun w11 k11 => ⟨_, rfl, ?_⟩
  rw [hv0, Int.toNat_natCast]
  have v11 := v7''.mod k11 fun _ _ => id
  obtain ⟨p2, hp2, hc2⟩ := rd_cell (k := .int .i64) (e := fun x => x) (v11.rd lenI) hget
  refine ⟨bnd, onSome_i hp2 (ld1_i (k := .int .i64) (P : Int) hc2 ⟨bnd, onSome_i hg7 ?_⟩)⟩
  rw [w64 (n := (P : Int) + 1) (by omega) (by omega)]
  refine v11.store lenI hg7 (i := v0) (by rw [R3.nl]; omega) ((P : Int) + 1) (v := .int .i64 ((P : Int) + 1)) rfl size_Int (oneI _) fun w12 v12 m12 z12 => ?_
  have m12' : Mod (fun k => k = g7) w11 w12 := m12
  have z14 : w1.heap.size ≤ w3.heap.size := Nat.le_of_lt z34
  have KK : Keep w1 w12 := fr2 ((fr2 (k6.tr k69) m10' fun k e => by rw [show k = w3.heap.size from e]; exact z14).tr k11) m12' fun k e => by rw [show k = g7 from e]; omega
  rw [wi_ i (by omega)]
  refine hX _ _ _ (by omega) ⟨i + 1, _, _, hi', rfl, rfl, KK, v12, (v10.mod k11 fun _ _ => id).mod m12' fun b hb e => ?_, (vs''.mod k11 fun _ _ => id).mod m12' fun b hb e => ?_, Rn⟩
  ·cases hb; have e' : w3.heap.size = g7 := e; omega
  ·rw [s2b] at hb; cases hb; have e' : w1.heap.size = g7 := e; omega
 have ei : i = G.m := by omega
 subst ei
 refine hQ _ _ w6 ⟨fs, row, vs.rd lenI, vr.rd lenI, R.len, R3.rl, fun i hi => R.lo i hi, fun v hv => R3.done hkey' hv⟩ (k1.tr k6) (fun b hb => ?_) (fun b hb => ?_)
 ·cases hb; show W.heap.size ≤ w3.heap.size; omega
 ·rw [s2b] at hb; cases hb; show W.heap.size ≤ w1.heap.size; omega
theorem CloneN_i {s : Sl} {xs : List (Int × Int)} {w : World} {Q : Sl → World → Prop} (hs : Rd w s 2 eP xs) (hb : xs.length < 1000000) (hQ : ∀ s' w', Rd w' s' 2 eP xs → Keep w w' → Q s' w') : F_slices_Clone_sNode_Node s w Q := by
 unfold F_slices_Clone_sNode_Node
 refine cond_i (fun h => ?_) (fun h => ?_)
 ·have hn : xs = [] := by
   cases xs with
   | nil => rfl
   | cons x r => obtain ⟨a, ha, _⟩ := hs.get 0 x rfl; rw [ha] at h; cases h
  subst hn
  exact hQ _ w (Rd.nil _ _ _) (Mod.refl _ _)
 ·refine alloc_i fun w1 o1 k1 z1 => ?_
  have v0 : Vec w1 tNode 2 eP ⟨some ⟨w.heap.size, 0, none⟩, 0, 0⟩ [] := Vec.new lenP [] o1 (by simp)
  refine append_i elem_sNode lenP oneP v0 (hs.mod k1 eP_ne (fun _ _ => id)) (by simp; omega) (by simp; omega) fun r w' hr hm hrb _ => ?_
  exact hQ r w' (by simpa using hr.rd lenP) (Mod.fresh k1 hm fun k ⟨a, ha, hk⟩ => by cases ha; rw [hk]; exact Nat.le_refl _)
theorem CloneBan_i {s : Sl} {xs : List (Int × Int)} {w : World} {Q : Sl → World → Prop} (hs : Rd w s 2 eP xs) (hb : xs.length < 1000000) (hQ : ∀ s' w', Rd w' s' 2 eP xs → Keep w w' → Q s' w') : F_slices_Clone_sBan_Ban s w Q := by
 unfold F_slices_Clone_sBan_Ban
 refine cond_i (fun h => ?_) (fun h => ?_)
 ·have hn : xs = [] := by
   cases xs with
   | nil => rfl
   | cons x r => obtain ⟨a, ha, _⟩ := hs.get 0 x rfl; rw [ha] at h; cases h
  subst hn
  exact hQ _ w (Rd.nil _ _ _) (Mod.refl _ _)
 ·refine alloc_i fun w1 o1 k1 z1 => ?_
  have v0 : Vec w1 tBan 2 eP ⟨some ⟨w.heap.size, 0, none⟩, 0, 0⟩ [] := Vec.new lenP [] o1 (by simp)
  refine append_i elem_sBan lenP oneP v0 (hs.mod k1 eP_ne (fun _ _ => id)) (by simp; omega) (by simp; omega) fun r w' hr hm hrb _ => ?_
  exact hQ r w' (by simpa using hr.rd lenP) (Mod.fresh k1 hm fun k ⟨a, ha, hk⟩ => by cases ha; rw [hk]; exact Nat.le_refl _)
theorem CloneE_i {s : Sl} {xs : List R3} {w : World} {Q : Sl → World → Prop} (hs : Rd w s 3 eR3 xs) (hb : xs.length < 1000000) (hQ : ∀ s' w', Rd w' s' 3 eR3 xs → Keep w w' → Q s' w') : F_slices_Clone_sEdge_Edge s w Q := by
 unfold F_slices_Clone_sEdge_Edge
 refine cond_i (fun h => ?_) (fun h => ?_)
 ·have hn : xs = [] := by
   cases xs with
   | nil => rfl
   | cons x r => obtain ⟨a, ha, _⟩ := hs.get 0 x rfl; rw [ha] at h; cases h
  subst hn
  exact hQ _ w (Rd.nil _ _ _) (Mod.refl _ _)
 ·refine alloc_i fun w1 o1 k1 z1 => ?_
  have v0 : Vec w1 tEdge 3 eR3 ⟨some ⟨w.heap.size, 0, none⟩, 0, 0⟩ [] := Vec.new lenR3' [] o1 (by simp)
  refine append_i elem_sEdge lenR3' oneR3 v0 (hs.mod k1 eR3_ne (fun _ _ => id)) (by simp; omega) (by simp; omega) fun r w' hr hm hrb _ => ?_
  exact hQ r w' (by simpa using hr.rd lenR3') (Mod.fresh k1 hm fun k ⟨a, ha, hk⟩ => by cases ha; rw [hk]; exact Nat.le_refl _)
theorem gNew_i {g : GT} {G : Gr} {W : World} {Q : Option Addr → Int → World → Prop} (h : GvIs W g G) (ok : OkG G) (hQ : ∀ H w', GraIs w' H G → Keep W w' → W.heap.size ≤ H.g → Q (some ⟨H.g, 0, none⟩) 0 w') : F_graph_New g W Q := by
 unfold F_graph_New
 have hn := ok.n1
 have hm := ok.m1
 have hbl := ok.bl
 unfold Gr.n at hn
 unfold Gr.m at hm
 refine alloc_i fun w1 o1 k1 z1 => ?_
 refine ldN_i (l := [.slice, .slice, .slice]) g (own_g (g := g) o1) ?_
 refine gmay_i (g := g) (h.keep k1) ok fun w2 k2 => cond_i (fun h => by simp at h) (fun _ => ?_)
 have d2 : Keep w2 w2.drew := Mod.drew (Mod.refl _ w2)
 have k12 := k2.tr d2
 have cs : ∀ {wx : World}, Keep w1 wx → _ := fun {wx} kx => own3 (o1.mod kx id)
 have c2 := cs k12
 have h2 := h.keep (k1.tr k12)
 refine ld1_i (k := .slice) g.1 c2.1 (ld1_i (k := .slice) g.2.1 c2.2.1 (ld1_i (k := .slice) g.2.2.1 c2.2.2 ?_))
 refine CloneN_i h2.nd (by omega) fun s4 w3 r4 k3 => ⟨(cs (k12.tr k3)).2.2, (cs (k12.tr k3)).2.1, ?_⟩
 refine CloneE_i (h2.keep k3).ed (by omega) fun s5 w4 r5 k4 => ⟨(cs ((k12.tr k3).tr k4)).2.2, ?_⟩
 refine CloneBan_i ((h2.keep k3).keep k4).bn (by omega) fun s6 w5 r6 k5 => ?_
 have k15 := ((k12.tr k3).tr k4).tr k5
 refine alloc_i fun w6 o6 k6 z6 => ?_
 have k16 := k15.tr k6
 have hv6 : GvIs w6 (s4, s5, s6, ()) G := ⟨((r4.mod k4 eP_ne fun _ _ => id).mod k5 eP_ne fun _ _ => id).mod k6 eP_ne fun _ _ => id, (r5.mod k5 eR3_ne fun _ _ => id).mod k6 eR3_ne fun _ _ => id, r6.mod k6 eP_ne fun _ _ => id⟩
 refine ldN_i (l := [.slice, .slice, .slice]) g (own_g (g := g) (o1.mod k16 id)) ?_
 refine rows_i (key := G.fr) (g := g) (h.keep (k1.tr k16)) ok (fun e he => (ok.ed _ (G.ed_mem he)).1) (fun e w K _ hK => ?_) fun s7 s8 w7 B7 k7 f7 f8 => ?_
 ·refine callV_i S_graph_New_c1 (by kernel_rfl) (decK_intro (ks := [.agg [.int .i64, .int .i64, .int .i64]]) (t := ((G.fr e, G.to e, G.wt e, ()), ())) ?_)
  show F_graph_New_c1 _ _ _
  unfold F_graph_New_c1
  exact alloc_i fun wa oa ka _ => ld1_i (k := .int .i64) (G.fr e) (own3 oa).1 (hK wa ka)
 have o7 := o6.mod k7 id
 have zz : w1.heap.size ≤ w5.heap.size := k15.size
 have zW := k1.size
 have lit : ∀ k, ((⟨w5.heap.size, 0, none⟩ : Addr).add k) = ⟨w5.heap.size, k, none⟩ := fun k => by rw [addr_lit, Nat.zero_add]
 rw [lit 3]
 refine storeD1_i (o := 3) (v := sv s7) o7 size_sInt (by simp) rfl rfl fun w8 o8 m8 _ => ?_
 rw [lit 5]
 refine storeD1_i (o := 5) (v := sv s8) o8 size_sInt (by simp) rfl rfl fun w9 o9 m9 _ => ?_
 have k79 : Keep w5 w9 := ((k6.tr k7).fresh m8 fun k e => by rw [show k = w5.heap.size from e]; exact Nat.le_refl _).fresh m9 fun k e => by rw [show k = w5.heap.size from e]; exact Nat.le_refl _
 have k19 := k15.tr k79
 have mK : ∀ {wx wy : World}, Keep w5 wx → Mod (fun k => k = w5.heap.size) wx wy → Keep w5 wy := fun kx m => kx.fresh m fun k e => by rw [show k = w5.heap.size from e]; exact Nat.le_refl _
 have o1' := o1.mod k19 id
 refine ldN_i (l := [.slice, .slice, .slice]) g (own_g (g := g) o1') ?_
 refine rows_i (key := G.to) (g := g) (h.keep (k1.tr k19)) ok (fun e he => (ok.ed _ (G.ed_mem he)).2.1) (fun e w K _ hK => ?_) fun s9 s10 w10 B10 k10 f9 f10 => ?_
 ·refine callV_i S_graph_New_c2 (by kernel_rfl) (decK_intro (ks := [.agg [.int .i64, .int .i64, .int .i64]]) (t := ((G.fr e, G.to e, G.wt e, ()), ())) ?_)
  show F_graph_New_c2 _ _ _
  unfold F_graph_New_c2
  exact alloc_i fun wa oa ka _ => ld1_i (k := .int .i64) (G.to e) (own3 oa).2.1 (hK wa ka)
 have o10 := o9.mod k10 id
 rw [lit 4]
 refine storeD1_i (o := 4) (v := sv s9) o10 size_sInt (by simp) rfl rfl fun w11 o11 m11 _ => ?_
 rw [lit 6]
 refine storeD1_i (o := 6) (v := sv s10) o11 size_sInt (by simp) rfl rfl fun w12 o12 m12 _ => ?_
 have k712 : Keep w5 w12 := mK (mK (k79.tr k10) m11) m12
 have kW : Keep W w12 := k1.tr (k15.tr k712)
 have nb : ∀ {wx wy : World} {row first : Sl} {key : Int → Int}, ByN wx row first G.n G.m key → (∀ b, row.b = some b → b.block ≠ w5.heap.size) → (∀ b, first.b = some b → b.block ≠ w5.heap.size) → Mod (fun k => k = w5.heap.size) wx wy → ByN wy row first G.n G.m key := fun hB h1 h2 m => by
  obtain ⟨fs, rs, g1, g2, g3⟩ := hB
  exact ⟨fs, rs, g1.mod m eI_ne fun b hb e => h2 b hb e, g2.mod m eI_ne fun b hb e => h1 b hb e, g3⟩
 have z7 := k7.size
 have z79 : w6.heap.size ≤ w9.heap.size := Nat.le_trans (Nat.le_trans k7.size m8.size) m9.size
 have n7 : ∀ b, s7.b = some b → b.block ≠ w5.heap.size := fun b hb => by have := f7 b hb; omega
 have n8 : ∀ b, s8.b = some b → b.block ≠ w5.heap.size := fun b hb => by have := f8 b hb; omega
 have n9 : ∀ b, s9.b = some b → b.block ≠ w5.heap.size := fun b hb => by have := f9 b hb; omega
 have n10 : ∀ b, s10.b = some b → b.block ≠ w5.heap.size := fun b hb => by have := f10 b hb; omega
 have b7 := nb (nb (((nb (nb B7 n7 n8 m8) n7 n8 m9)).keep k10) n7 n8 m11) n7 n8 m12
 have b9 := nb (nb B10 n9 n10 m11) n9 n10 m12
 have hv12 : GvIs w12 (s4, s5, s6, ()) G := ⟨((r4.mod k4 eP_ne fun _ _ => id).mod k5 eP_ne fun _ _ => id).mod k712 eP_ne fun _ _ => id, (r5.mod k5 eR3_ne fun _ _ => id).mod k712 eR3_ne fun _ _ => id, r6.mod k712 eP_ne fun _ _ => id⟩
 exact hQ ⟨w5.heap.size, (s4, s5, s6, ()), s7, s9, s8, s10⟩ w12 ⟨ok, o12, hv12, b7, b9⟩ kW (by show W.heap.size ≤ w5.heap.size; omega)
end Go.Proofs.YtjjgcimlmjnaeaaGreat

namespace Go.Proofs.YtjjgcimlmjnaeaaGreat
open Go Go.Den
section
variable {w : World} {H : GraS} {G : Gr}
theorem Node_i {i : Int} {Q : (Int × Int × Unit) → Bool → World → Prop} (h : GraIs w H G) (hi : G.isN i) (hQ : ∀ w', Keep w w' → Q ((G.nd i).1, (G.nd i).2, ()) true w') : F_gG_Node (some ⟨H.g, 0, none⟩) i w Q := by
 unfold F_gG_Node
 have hi0 := hi.1
 have hi1 := hi.2
 refine alloc_i fun w1 o1 k1 z1 => ?_
 refine cond_d (fun hneg => by omega) (fun _ => ?_)
 have h1 := h.keep k1
 refine Nodes_i h1 ?_
 refine cond_d (fun hge => by omega) (fun _ => ?_)
 refine onSome_i rfl ?_
 rw [add_zero]
 refine ld1_i (k := .slice) H.v.1 h1.cells.1 ?_
 obtain ⟨a, ha, hh, _⟩ := rd2 h1.val.nd (G.get_nd hi)
 refine ⟨⟨hi.1, by rw [h1.val.nd.len]; exact hi.2⟩, onSome_i ha (ldN_i (l := [.int .i64, .int .i64]) ((G.nd i).1, (G.nd i).2, ()) hh ?_)⟩
 refine agg_store (vs := [.int .i64 (G.nd i).1, .int .i64 (G.nd i).2]) o1 size_Node rfl (by simp [Value.oneCell']) fun w3 o3 m3 _ => ?_
 exact ldN_i (l := [.int .i64, .int .i64]) ((G.nd i).1, (G.nd i).2, ()) (own_all o3) (hQ w3 (k1.fresh m3 fun k e => by rw [show k = w.heap.size from e]; exact Nat.le_refl _))
theorem way_i {i : Int} {Q : Int → Int → Bool → World → Prop} (h : GraIs w H G) (hi : G.isE i) (hQ : ∀ w', Keep w w' → Q ((G.nd (G.to i)).1 - (G.nd (G.fr i)).1) ((G.nd (G.to i)).2 - (G.nd (G.fr i)).2) true w') : F_bend_way (some ⟨H.g, 0, none⟩) i w Q := by
 unfold F_bend_way
 have ok := h.ok
 have he := ok.ed _ (G.ed_mem hi)
 have hf : G.isN (G.fr i) := he.1
 have ht : G.isN (G.to i) := he.2.1
 have rf := ok.nd_rng hf
 have rt := ok.nd_rng ht
 refine Edge_i h (fun _ w1 k1 => ?_) (fun hn => absurd hi hn)
 refine agg_new (vs := [.int .i64 (G.fr i), .int .i64 (G.to i), .int .i64 (G.wt i)]) size_Edge rfl (by simp [Value.oneCell']) fun w3 o3 k3 z3 => ?_
 refine ld1_i (k := .int .i64) (G.fr i) (own3 o3).1 ?_
 have h3 := (h.keep k1).keep k3
 refine Node_i h3 hf fun w4 k4 => ?_
 refine agg_new (vs := [.int .i64 (G.nd (G.fr i)).1, .int .i64 (G.nd (G.fr i)).2]) size_Node rfl (by simp [Value.oneCell']) fun w6 o6 k6 z6 => ?_
 refine ld1_i (k := .int .i64) (G.to i) (own3 ((o3.mod k4 id).mod k6 id)).2.1 ?_
 refine Node_i ((h3.keep k4).keep k6) ht fun w7 k7 => ?_
 refine agg_new (vs := [.int .i64 (G.nd (G.to i)).1, .int .i64 (G.nd (G.to i)).2]) size_Node rfl (by simp [Value.oneCell']) fun w9 o9 k9 z9 => ?_
 have d9 : Keep w9 w9.drew := Mod.drew (Mod.refl _ w9)
 have n9 := own2 (o9.mod d9 id)
 have n6 := own2 (((o6.mod k7 id).mod k9 id).mod d9 id)
 refine ld1_i (k := .int .i64) (G.nd (G.to i)).1 n9.1 (ld1_i (k := .int .i64) (G.nd (G.fr i)).1 n6.1 (ld1_i (k := .int .i64) (G.nd (G.to i)).2 n9.2 (ld1_i (k := .int .i64) (G.nd (G.fr i)).2 n6.2 ?_)))
 rw [w64 (n := (G.nd (G.to i)).1 - (G.nd (G.fr i)).1) (by omega) (by omega), w64 (n := (G.nd (G.to i)).2 - (G.nd (G.fr i)).2) (by omega) (by omega)]
 exact hQ _ ((((((k1.tr k3).tr k4).tr k6).tr k7).tr k9).tr d9)
end
theorem Mirror_i {k : Int} {w : World} {Q : Int → World → Prop} (hk : k = 2 ∨ k = 3 ∨ k = 4) (hQ : Q (k + 4) w) : F_bend_Mirror k w Q := by
 unfold F_bend_Mirror
 intro J hJ
 have hj : J (true, ()) w := by
  apply hJ
  refine cond_i (fun _ => ?_) (fun h => by simp at h)
  rw [w64 (n := k + 4) (by omega) (by omega)]; exact hQ
 rcases hk with rfl | rfl | rfl
 ·exact cond_i (fun _ => hj) (fun h => by simp at h)
 ·exact cond_i (fun h => by simp at h) (fun _ => cond_i (fun _ => hj) (fun h => by simp at h))
 ·exact cond_i (fun h => by simp at h) (fun _ => cond_i (fun h => by simp at h) (fun _ => hj))
theorem bfar_i {n : Int} {w : World} {Q : Bool → World → Prop} (h : -4095 ≤ n ∧ n ≤ 4095) (hQ : Q false w) : F_bend_far n w Q := by
 unfold F_bend_far
 refine cond_d (fun h => by omega) (fun _ => ?_)
 rw [decide_eq_false (by omega)]; exact hQ
abbrev rngP (n : Int) : Prop := -4095 ≤ n ∧ n ≤ 4095
theorem Class_i {ax ay bx by_ : Int} {w : World} {Q : Int → World → Prop} (h1 : rngP ax) (h2 : rngP ay) (h3 : rngP bx) (h4 : rngP by_) (hQ : Q (clsP ax ay bx by_) w) : F_bend_Class ax ay bx by_ w Q := by
 unfold F_bend_Class
 intro J1 hJ1
 refine bfar_i h1 (cond_i (fun h => by simp at h) (fun _ => bfar_i h2 (cond_i (fun h => by simp at h) (fun _ => bfar_i h3 (cond_i (fun h => by simp at h) (fun _ => bfar_i h4 (cond_i (fun h => by simp at h) (fun _ => ?_))))))))
 have core : ¬ ((ax = 0 ∧ ay = 0) ∨ (bx = 0 ∧ by_ = 0)) → J1 () w := by
  intro hn
  apply hJ1
  rw [clsP_eq hn] at hQ
  have p1 := mul_rng h1 h4
  have p2 := mul_rng h2 h3
  have p3 := mul_rng h1 h3
  have p4 := mul_rng h2 h4
  have hz : ¬ (ax * by_ - ay * bx = 0 ∧ ax * bx + ay * by_ = 0) := fun h => hn (cross_dot h.1 h.2)
  rw [w64 (n := ax * by_) (by omega) (by omega), w64 (n := ay * bx) (by omega) (by omega), w64 (n := ax * bx) (by omega) (by omega), w64 (n := ay * by_) (by omega) (by omega),
   w64 (n := ax * by_ - ay * bx) (by omega) (by omega), w64 (n := ax * bx + ay * by_) (by omega) (by omega)]
  have q1 : -33538050 ≤ ax * by_ - ay * bx ∧ ax * by_ - ay * bx ≤ 33538050 := by omega
  have q2 : -33538050 ≤ ax * bx + ay * by_ ∧ ax * bx + ay * by_ ≤ 33538050 := by omega
  clear p1 p2 p3 p4 hn
  generalize ax * by_ - ay * bx = c at *
  generalize ax * bx + ay * by_ = d at *
  rw [w64 (n := 0 - c) (by omega) (by omega), w64 (n := 0 - d) (by omega) (by omega)]
  have hm : maxInt c (0 - c) = absI c := by unfold maxInt absI; split <;> split <;> omega
  have ha : 0 ≤ absI c ∧ absI c ≤ 33538050 := by unfold absI; split <;> omega
  rw [hm, w64 (n := 4 * absI c) (by omega) (by omega)]
  have q : ∀ v, v = clsC c d → Q v w := fun v hv => by rw [hv]; exact hQ
  intro J2 hJ2
  have j2 : ¬ (d > 0 ∧ 4 * absI c ≤ d) → ¬ (d < 0 ∧ 4 * absI c ≤ -d) → J2 () w := by
   intro n1 n2
   apply hJ2
   intro J3 hJ3
   have hc0 : c ≠ 0 := fun e => by
    subst e
    have : absI 0 = 0 := rfl
    rw [this] at n1 n2
    omega
   have j3 : ∀ k, (k = 2 ∨ k = 3 ∨ k = 4) → (c < 0 → k + 4 = clsC c d) → (¬ c < 0 → k = clsC c d) → J3 (k, ()) w := fun k hk hl hr => by
    apply hJ3
    exact cond_d (fun h => Mirror_i hk (q _ (hl h))) (fun h => q _ (hr h))
   have base : clsC c d = if c > 0 ∧ d > 0 ∧ c ≤ d then 2 else if c > 0 ∧ d < 0 ∧ c ≤ -d then 4 else if c > 0 then 3 else if d > 0 ∧ -c ≤ d then 6 else if d < 0 ∧ -c ≤ -d then 8 else 7 := by
    unfold clsC; rw [if_neg n1, if_neg n2]
   have e2 : ∀ k : Int, (d > 0 ∧ absI c ≤ d ∧ k = 2) ∨ (d < 0 ∧ absI c ≤ -d ∧ k = 4) ∨ (¬ (d > 0 ∧ absI c ≤ d) ∧ ¬ (d < 0 ∧ absI c ≤ -d) ∧ k = 3) → J3 (k, ()) w := fun k hk => by
    have hab : (c < 0 ∧ absI c = -c) ∨ (c > 0 ∧ absI c = c) := by unfold absI; split <;> omega
    refine j3 k (by omega) (fun hl => ?_) (fun hl => ?_)
    ·rw [base]; (repeat' split) <;> omega
    ·rw [base]; (repeat' split) <;> omega
   refine cond_d (fun g1 => cond_d (fun g2 => e2 2 (.inl ⟨g1, g2, rfl⟩)) (fun g2 => cond_d (fun g3 => by omega) (fun g3 => e2 3 (.inr (.inr ⟨fun h => g2 h.2, fun h => g3 h.1, rfl⟩))))) (fun g1 => ?_)
   refine cond_d (fun g2 => cond_d (fun g3 => e2 4 (.inr (.inl ⟨g2, by omega, rfl⟩))) (fun g3 => e2 3 (.inr (.inr ⟨fun h => g1 h.1, fun h => g3 (by omega), rfl⟩)))) (fun g2 => e2 3 (.inr (.inr ⟨fun h => g1 h.1, fun h => g2 h.1, rfl⟩)))
  refine cond_d (fun g1 => cond_d (fun g2 => q _ ?_) (fun g2 => cond_d (fun g3 => by omega) (fun g3 => j2 (fun h => g2 h.2) (fun h => g3 h.1)))) (fun g1 => ?_)
  ·unfold clsC; rw [if_pos ⟨g1, g2⟩]
  refine cond_d (fun g2 => cond_d (fun g3 => q _ ?_) (fun g3 => j2 (fun h => g1 h.1) (fun h => g3 (by omega)))) (fun g2 => j2 (fun h => g1 h.1) (fun h => g2 h.1))
  unfold clsC; rw [if_neg (fun h => g1 h.1), if_pos ⟨g2, by omega⟩]
 have zero : ((ax = 0 ∧ ay = 0) ∨ (bx = 0 ∧ by_ = 0)) → Q 0 w := fun h => by
  have : clsP ax ay bx by_ = 0 := by unfold clsP; rw [if_pos h]
  rw [this] at hQ; exact hQ
 have tb : ¬ (ax = 0 ∧ ay = 0) → cond (bx == 0) (cond (by_ == 0) (Q 0 w) (J1 () w)) (J1 () w) := fun hn => by
  refine cond_i (fun g1 => cond_i (fun g2 => zero (.inr ⟨by simpa using g1, by simpa using g2⟩)) (fun g2 => core fun h => ?_)) (fun g1 => core fun h => ?_)
  ·rcases h with h | h
   ·exact hn h
   ·rw [h.2] at g2; simp at g2
  ·rcases h with h | h
   ·exact hn h
   ·rw [h.1] at g1; simp at g1
 refine cond_i (fun g1 => cond_i (fun g2 => zero (.inl ⟨by simpa using g1, by simpa using g2⟩)) (fun g2 => tb fun h => ?_)) (fun g1 => tb fun h => ?_)
 ·rw [h.2] at g2; simp at g2
 ·rw [h.1] at g1; simp at g1
theorem OkG.way_rng {G : Gr} (ok : OkG G) {i : Int} (hi : G.isE i) : rngP ((G.nd (G.to i)).1 - (G.nd (G.fr i)).1) ∧ rngP ((G.nd (G.to i)).2 - (G.nd (G.fr i)).2) := by
 have he := ok.ed _ (G.ed_mem hi)
 have rf := ok.nd_rng (show G.isN (G.fr i) from he.1)
 have rt := ok.nd_rng (show G.isN (G.to i) from he.2.1)
 unfold rngP
 omega
theorem Of_i {w : World} {H : GraS} {G : Gr} {a b : Int} {Q : Int → World → Prop} (h : GraIs w H G) (ha : G.isE a) (hb : G.isE b) (hQ : ∀ w', Keep w w' → Q (G.bend a b) w') : F_bend_Of (some ⟨H.g, 0, none⟩) a b w Q := by
 unfold F_bend_Of
 have r1 := OkG.way_rng h.ok ha
 have r2 := OkG.way_rng h.ok hb
 refine way_i h ha fun w1 k1 => way_i (h.keep k1) hb fun w2 k2 => ?_
 refine cond_i (fun h => by simp at h) (fun _ => cond_i (fun h => by simp at h) (fun _ => ?_))
 exact Class_i r1.1 r1.2 r2.1 r2.2 (hQ w2 (k1.tr k2))
end Go.Proofs.YtjjgcimlmjnaeaaGreat

namespace Go.Proofs.YtjjgcimlmjnaeaaGreat
open Go Go.Den
abbrev eS (s : Sl) : List Value := [sv s]
theorem lenS : ∀ s : Sl, (eS s).length = 1 := fun _ => rfl
theorem oneS : ∀ s : Sl, ∀ u ∈ eS s, u.oneCell' = true := by intro s u hu; simp at hu; subst hu; rfl
theorem eS_ne (s : Sl) : eS s ≠ [] := by simp
def RowsRd (w : World) (s : Sl) (rows : List (List Int)) : Prop := ∃ ss : List Sl, Rd w s 1 eS ss ∧ ss.length = rows.length ∧ ∀ (i : Nat) x r, ss[i]? = some x → rows[i]? = some r → Rd w x 1 eI r
theorem RowsRd.keep {w w' : World} {s : Sl} {rows : List (List Int)} (h : RowsRd w s rows) (k : Keep w w') : RowsRd w' s rows := by
 obtain ⟨ss, h1, h2, h3⟩ := h
 exact ⟨ss, h1.mod k eS_ne fun _ _ => id, h2, fun i x r hx hr => (h3 i x r hx hr).mod k eI_ne fun _ _ => id⟩
theorem RowsRd.get {w : World} {s : Sl} {rows : List (List Int)} (h : RowsRd w s rows) {i : Nat} {r : List Int} (hr : rows[i]? = some r) : s.l = rows.length ∧ ∃ p x, s.b = some p ∧ w.cell? (p.add (i * 1)) = some (sv x) ∧ Rd w x 1 eI r := by
 obtain ⟨ss, h1, h2, h3⟩ := h
 have hi : i < ss.length := by rw [h2]; exact (List.getElem?_eq_some_iff.1 hr).1
 obtain ⟨p, hp, hc⟩ := rd_cell (k := .slice) (e := fun x => x) h1 (List.getElem?_eq_getElem hi)
 exact ⟨by rw [h1.len, h2], p, ss[i], hp, hc, h3 i _ r (List.getElem?_eq_getElem hi) hr⟩
def VHas (gs : Nat) (ss : List Sl) (k : Nat) : Prop := k = gs ∨ ∃ x ∈ ss, ∃ a, x.b = some a ∧ k = a.block
structure VV (w : World) (s : Sl) (gs : Nat) (rows : List (List Int)) (ss : List Sl) : Prop where
 sb : s.b = some ⟨gs, 0, none⟩
 v : Vec w tsInt 1 eS s ss
 len : ss.length = rows.length
 inn : ∀ (i : Nat) x r, ss[i]? = some x → rows[i]? = some r → Vec w tInt 1 eI x r
 dis : ∀ (i j : Nat) x y a b, i ≠ j → ss[i]? = some x → ss[j]? = some y → x.b = some a → y.b = some b → a.block ≠ b.block
 ne : ∀ x ∈ ss, ∀ a, x.b = some a → a.block ≠ gs
section
variable {w : World} {s : Sl} {gs : Nat} {rows : List (List Int)} {ss : List Sl}
theorem VV.mod {F : Nat → Prop} {w' : World} (h : VV w s gs rows ss) (m : Mod F w w') (hF : ∀ k, VHas gs ss k → ¬ F k) : VV w' s gs rows ss :=
 ⟨h.sb, h.v.mod m fun a ha => by rw [h.sb] at ha; cases ha; exact hF gs (.inl rfl), h.len, fun i x r hx hr => (h.inn i x r hx hr).mod m fun a ha => hF _ (.inr ⟨x, List.mem_of_getElem? hx, a, ha, rfl⟩), h.dis, h.ne⟩
theorem VV.lt (h : VV w s gs rows ss) {k : Nat} (hk : VHas gs ss k) : k < w.heap.size := by
 rcases hk with rfl | ⟨x, hx, a, ha, rfl⟩
 ·exact h.v.lt h.sb
 ·obtain ⟨i, hi⟩ := List.mem_iff_getElem?.1 hx
  have hil : i < rows.length := by rw [← h.len]; exact (List.getElem?_eq_some_iff.1 hi).1
  exact (h.inn i x _ hi (List.getElem?_eq_getElem hil)).lt ha
theorem VV.rd (h : VV w s gs rows ss) : RowsRd w s rows := ⟨ss, h.v.rd lenS, h.len, fun i x r hx hr => (h.inn i x r hx hr).rd lenI⟩
theorem VV.start {n g : Nat} (h : Vec w tsInt 1 eS ⟨some ⟨g, 0, none⟩, n, n⟩ (List.replicate n ⟨none, 0, 0⟩)) : VV w ⟨some ⟨g, 0, none⟩, n, n⟩ g (List.replicate n []) (List.replicate n ⟨none, 0, 0⟩) := by
 have rep : ∀ {i : Nat} {x : Sl}, (List.replicate n (⟨none, 0, 0⟩ : Sl))[i]? = some x → x = ⟨none, 0, 0⟩ := fun {i x} h => (List.mem_replicate.1 (List.mem_of_getElem? h)).2
 refine ⟨rfl, h, by simp, fun i x r hx hr => ?_, fun i j x y a b _ hx _ ha => ?_, fun x hx a ha => ?_⟩
 ·rw [rep hx, (List.mem_replicate.1 (List.mem_of_getElem? hr)).2]; exact Vec.nil _ _ _ _
 ·rw [rep hx] at ha; cases ha
 ·rw [(List.mem_replicate.1 hx).2] at ha; cases ha
theorem pushRow_i {T f : Nat} {hd : List Value} {i : Nat} {r : List Int} {x : Int} {K : World → Prop} (hT : Own w T tTurns hd) (hf : hd[f]? = some (sv s)) (hTn : ¬ VHas gs ss T) (V : VV w s gs rows ss) (hr : rows[i]? = some r) (hl : r.length < 1000)
  (hK : ∀ w' ss', VV w' s gs (rows.set i (r ++ [x])) ss' → Mod (VHas gs ss) w w' → (∀ k, VHas gs ss' k → VHas gs ss k ∨ w.heap.size ≤ k) → K w') :
  ld1 .slice w.drew ((⟨T, 0, none⟩ : Addr).add f) fun (s2 : Sl) => onSome (some ⟨T, 0, none⟩) fun a4 => ld1 .slice w.drew (a4.add f) fun (s3 : Sl) => (0 ≤ (i : Int) ∧ (i : Int) < ((s3.l : Nat) : Int)) ∧ onSome s3.b fun a5 =>
   ld1 .slice w.drew (a5.add (Int.toNat (i : Int) * 1)) fun (s4 : Sl) => allocD w.drew #[Value.int .i64 x] tInt fun a6 w10 => w10.cell? (a5.add (Int.toNat (i : Int) * 1)) = some (Value.slice s4.b s4.l s4.c) ∧ w10.cell? (a4.add f) = some (Value.slice s3.b s3.l s3.c) ∧
   w10.cell? ((⟨T, 0, none⟩ : Addr).add f) = some (Value.slice s2.b s2.l s2.c) ∧ appendD Tryz.prog tsInt tsInt s4 (Value.slice (some a6) 1 1) w10 fun (s5 : Sl) w11 => w11.cell? ((⟨T, 0, none⟩ : Addr).add f) = some (Value.slice s2.b s2.l s2.c) ∧ (0 ≤ (i : Int) ∧ (i : Int) < ((s2.l : Nat) : Int)) ∧
   onSome s2.b fun a7 => storeD Tryz.prog tsInt (a7.add (Int.toNat (i : Int) * 1)) (Value.slice s5.b s5.l s5.c) w11 K := by
 have d : Keep w w.drew := Mod.drew (Mod.refl _ w)
 have V1 := V.mod d fun _ _ => id
 have T1 := hT.mod d id
 have cT : ∀ {wx : World}, Own wx T tTurns hd → wx.cell? ((⟨T, 0, none⟩ : Addr).add f) = some (sv s) := fun {wx} h => by rw [addr_lit, h.cell, Nat.zero_add]; exact hf
 have hir : i < rows.length := (List.getElem?_eq_some_iff.1 hr).1
 have his : i < ss.length := by rw [V.len]; exact hir
 have hsl := V.v.len
 have hget := List.getElem?_eq_getElem his
 have hmem := List.getElem_mem his
 generalize ss[i] = y at *
 obtain ⟨p, hp, hc⟩ := rd_cell (k := .slice) (e := fun x => x) (V1.v.rd lenS) hget
 rw [V.sb] at hp
 cases hp
 rw [Int.toNat_natCast]
 have bnd : 0 ≤ (i : Int) ∧ (i : Int) < ((s.l : Nat) : Int) := ⟨by omega, by omega⟩
 refine ld1_i (k := .slice) s (cT T1) (onSome_i rfl (ld1_i (k := .slice) s (cT T1) ⟨bnd, onSome_i V.sb (ld1_i (k := .slice) y hc ?_)⟩))
 refine alloc_i fun w10 o10 k10 z10 => ⟨?_, cT (T1.mod k10 id), cT (T1.mod k10 id), ?_⟩
 ·exact k10.cell hc id
 have V10 := V1.mod k10 fun _ _ => id
 have vy := V10.inn i y r hget hr
 have vx : Vec w10 tInt 1 eI ⟨some ⟨w.heap.size, 0, none⟩, 1, 1⟩ [x] := Vec.new lenI [x] o10 (by simp [maxLen])
 refine append_i elem_sInt lenI oneI vy (vx.rd lenI) (by simp; omega) (by simp; omega) fun s5 w11 v11 m11 f11 _ => ?_
 have nT : ∀ a, y.b = some a → T ≠ a.block := fun a ha e => hTn (.inr ⟨y, hmem, a, ha, e⟩)
 have T11 := (T1.mod k10 id).mod m11 fun ⟨a, ha, e⟩ => nT a ha e
 have vs11 := V10.v.mod m11 fun a ha ⟨b, hb, e⟩ => by rw [V.sb] at ha; cases ha; exact V.ne y hmem b hb e.symm
 refine ⟨cT T11, bnd, onSome_i V.sb ?_⟩
 refine vs11.store lenS V.sb (i := i) his s5 (v := sv s5) rfl size_sInt (oneS s5) fun w12 v12 m12 z12 => ?_
 have m12' : Mod (fun k => k = gs) w11 w12 := m12
 have hz : w.heap.size < w10.heap.size := by rw [z10]; exact Nat.lt_succ_self _
 have hgs : gs < w.heap.size := V.lt (.inl rfl)
 have f5 : ∀ b, s5.b = some b → (∃ a, y.b = some a ∧ b.block = a.block) ∨ w.heap.size < b.block := fun b hb => by
  rcases f11 with h | ⟨b', hb', hlt⟩
  ·exact .inl ⟨b, by rw [← h]; exact hb, rfl⟩
  ·rw [hb] at hb'; cases hb'; exact .inr (by omega)
 have n5 : ∀ b, s5.b = some b → b.block ≠ gs := fun b hb e => by
  rcases f5 b hb with ⟨a, ha, h⟩ | h
  ·exact V.ne y hmem a ha (h.symm.trans e)
  ·omega
 have sget : ∀ {j : Nat} {z : Sl}, (ss.set i s5)[j]? = some z → (j = i ∧ z = s5) ∨ (j ≠ i ∧ ss[j]? = some z) := fun {j z} h => by
  rw [List.getElem?_set] at h
  by_cases e : i = j
  ·rw [if_pos e, if_pos (by omega)] at h; cases h; exact .inl ⟨e.symm, rfl⟩
  ·rw [if_neg e] at h; exact .inr ⟨fun e' => e e'.symm, h⟩
 have blt : ∀ {j : Nat} {z : Sl} {b : Addr}, ss[j]? = some z → z.b = some b → b.block < w.heap.size := fun hz hb => V.lt (.inr ⟨_, List.mem_of_getElem? hz, _, hb, rfl⟩)
 have m12w : Mod (VHas gs ss) w w12 := by
  have h1 : Mod (VHas gs ss) w w10 := (d.tr k10).wk
  have h2 : Mod (VHas gs ss) w w11 := h1.trans m11 fun k hk ⟨a, ha, e⟩ => .inr ⟨y, hmem, a, ha, e⟩
  exact h2.trans m12' fun k hk e => .inl e
 refine hK w12 (ss.set i s5) ⟨V.sb, v12, by rw [List.length_set, List.length_set]; exact V.len, fun j z q hz hq => ?_, fun j l z u a b hjl hz hu ha hb => ?_, fun z hz a ha => ?_⟩ m12w fun k hk => ?_
 ·rcases sget hz with ⟨rfl, rfl⟩ | ⟨hji, hz⟩
  ·rw [List.getElem?_set, if_pos rfl, if_pos hir] at hq
   cases hq
   exact v11.mod m12' fun b hb => n5 b hb
  ·rw [List.getElem?_set, if_neg (fun e => hji e.symm)] at hq
   refine ((V10.inn j z q hz hq).mod m11 fun b hb ⟨a, ha, e⟩ => V.dis j i z y b a hji hz hget hb ha e).mod m12' fun b hb => V.ne z (List.mem_of_getElem? hz) b hb
 ·rcases sget hz with ⟨e1, e2⟩ | ⟨hji, hz'⟩ <;> rcases sget hu with ⟨e3, e4⟩ | ⟨hli, hu'⟩
  ·exact absurd (e1.trans e3.symm) hjl
  ·rw [e2] at ha
   rw [e1] at hjl
   rcases f5 a ha with ⟨a', ha', h⟩ | h
   ·rw [h]; exact V.dis _ _ _ _ _ _ hjl hget hu' ha' hb
   ·have := blt hu' hb; omega
  ·rw [e4] at hb
   rw [e3] at hjl
   rcases f5 b hb with ⟨a', ha', h⟩ | h
   ·rw [h]; exact V.dis _ _ _ _ _ _ hjl hz' hget ha ha'
   ·have := blt hz' ha; omega
  ·exact V.dis _ _ _ _ _ _ hjl hz' hu' ha hb
 ·obtain ⟨j, hj⟩ := List.mem_iff_getElem?.1 hz
  rcases sget hj with ⟨rfl, rfl⟩ | ⟨_, hz⟩
  ·exact n5 a ha
  ·exact V.ne z (List.mem_of_getElem? hz) a ha
 ·rcases hk with rfl | ⟨z, hz, a, ha, rfl⟩
  ·exact .inl (.inl rfl)
  ·obtain ⟨j, hj⟩ := List.mem_iff_getElem?.1 hz
   rcases sget hj with ⟨rfl, rfl⟩ | ⟨_, hz⟩
   ·rcases f5 a ha with ⟨a', ha', h⟩ | h
    ·exact .inl (.inr ⟨y, hmem, a', ha', h⟩)
    ·exact .inr (Nat.le_of_lt h)
   ·exact .inl (.inr ⟨z, List.mem_of_getElem? hz, a, ha, rfl⟩)
end
end Go.Proofs.YtjjgcimlmjnaeaaGreat

namespace Go.Proofs.YtjjgcimlmjnaeaaGreat
open Go Go.Den
structure TurS where
 t : Nat
 H : GraS
 nx : Sl
 pv : Sl
def nextR (G : Gr) : List (List Int) := (List.range G.m).map fun i : Nat => G.nextL (i : Int)
def prevR (G : Gr) : List (List Int) := (List.range G.m).map fun i : Nat => G.prevL (i : Int)
structure TurIs (w : World) (t : TurS) (G : Gr) : Prop where
 head : Own w t.t tTurns [.pointer (some ⟨t.H.g, 0, none⟩), sv t.nx, sv t.pv]
 gra : GraIs w t.H G
 nxt : RowsRd w t.nx (nextR G)
 prv : RowsRd w t.pv (prevR G)
 typ : ∀ b, t.nx.b = some b ∨ t.pv.b = some b → ∃ cs, Own w b.block tsInt cs
theorem TurIs.keep {w w' : World} {t : TurS} {G : Gr} (h : TurIs w t G) (k : Keep w w') : TurIs w' t G :=
 ⟨h.head.mod k id, h.gra.keep k, h.nxt.keep k, h.prv.keep k, fun b hb => by obtain ⟨cs, o⟩ := h.typ b hb; exact ⟨cs, o.mod k id⟩⟩
theorem TurIs.cells {w : World} {t : TurS} {G : Gr} (h : TurIs w t G) : w.cell? ((⟨t.t, 0, none⟩ : Addr).add 0) = some (.pointer (some ⟨t.H.g, 0, none⟩)) ∧ w.cell? ((⟨t.t, 0, none⟩ : Addr).add 1) = some (sv t.nx) ∧ w.cell? ((⟨t.t, 0, none⟩ : Addr).add 2) = some (sv t.pv) := own3 h.head
theorem vec_own {α : Type} {w : World} {e : TypeId} {n : Nat} {enc : α → List Value} {s : Sl} {xs : List α} (h : Vec w e n enc s xs) {b : Addr} (hb : s.b = some b) : ∃ cs, Own w b.block e cs := by
 obtain ⟨_, _, _, h4⟩ := h
 rcases h4 with ⟨h5, _⟩ | ⟨g, rest, h5, h6, _⟩
 ·rw [hb] at h5; cases h5
 ·rw [hb] at h5; cases h5; exact ⟨_, h6⟩
structure TSt (W w : World) (T gn gp hg : Nat) (nx pv : Sl) (rn rp : List (List Int)) (ssn ssp : List Sl) : Prop where
 own : Own w T tTurns [.pointer (some ⟨hg, 0, none⟩), sv nx, sv pv]
 vn : VV w nx gn rn ssn
 vp : VV w pv gp rp ssp
 dis : ∀ k, VHas gn ssn k → ¬ VHas gp ssp k
 nTn : ¬ VHas gn ssn T
 nTp : ¬ VHas gp ssp T
 kp : Keep W w
 lown : ∀ k, VHas gn ssn k → W.heap.size ≤ k
 lowp : ∀ k, VHas gp ssp k → W.heap.size ≤ k
section
variable {W w : World} {T gn gp hg : Nat} {nx pv : Sl} {rn rp : List (List Int)} {ssn ssp : List Sl}
theorem TSt.keep {w' : World} (h : TSt W w T gn gp hg nx pv rn rp ssn ssp) (k : Keep w w') : TSt W w' T gn gp hg nx pv rn rp ssn ssp :=
 ⟨h.own.mod k id, h.vn.mod k fun _ _ => id, h.vp.mod k fun _ _ => id, h.dis, h.nTn, h.nTp, h.kp.tr k, h.lown, h.lowp⟩
theorem TSt.pushN {w' : World} {rn' : List (List Int)} {ssn' : List Sl} (h : TSt W w T gn gp hg nx pv rn rp ssn ssp) (v : VV w' nx gn rn' ssn') (m : Mod (VHas gn ssn) w w') (f : ∀ k, VHas gn ssn' k → VHas gn ssn k ∨ w.heap.size ≤ k) :
  TSt W w' T gn gp hg nx pv rn' rp ssn' ssp := by
 have hT := h.own.lt
 have hk := h.kp.size
 refine ⟨h.own.mod m h.nTn, v, h.vp.mod m fun k hk hn => h.dis k hn hk, fun k hk hp => ?_, fun hh => ?_, h.nTp, h.kp.fresh m h.lown, fun k hk' => ?_, h.lowp⟩
 ·rcases f k hk with h1 | h1
  ·exact h.dis k h1 hp
  ·have := h.vp.lt hp; omega
 ·rcases f T hh with h1 | h1
  ·exact h.nTn h1
  ·omega
 ·rcases f k hk' with h1 | h1
  ·exact h.lown k h1
  ·omega
theorem TSt.pushP {w' : World} {rp' : List (List Int)} {ssp' : List Sl} (h : TSt W w T gn gp hg nx pv rn rp ssn ssp) (v : VV w' pv gp rp' ssp') (m : Mod (VHas gp ssp) w w') (f : ∀ k, VHas gp ssp' k → VHas gp ssp k ∨ w.heap.size ≤ k) :
  TSt W w' T gn gp hg nx pv rn rp' ssn ssp' := by
 have hT := h.own.lt
 have hk := h.kp.size
 refine ⟨h.own.mod m h.nTp, h.vn.mod m fun k hn hk => h.dis k hn hk, v, fun k hn hk => ?_, h.nTn, fun hh => ?_, h.kp.fresh m h.lowp, h.lown, fun k hk' => ?_⟩
 ·rcases f k hk with h1 | h1
  ·exact h.dis k hn h1
  ·have := h.vn.lt hn; omega
 ·rcases f T hh with h1 | h1
  ·exact h.nTp h1
  ·omega
 ·rcases f k hk' with h1 | h1
  ·exact h.lowp k h1
  ·omega
end
def nrow (G : Gr) (a : Nat) (q : List Int) (i : Nat) : List Int := if i < a then G.nextL (i : Int) else if i = a then q else []
def prow (G : Gr) (a : Nat) (q : List Int) (b : Nat) : List Int := (ints a).filter (fun x => G.turn x (b : Int)) ++ if (b : Int) ∈ q then [(a : Int)] else []
def rowsF (m : Nat) (f : Nat → List Int) : List (List Int) := (List.range m).map f
theorem rows_get {m : Nat} {f : Nat → List Int} {i : Nat} (h : i < m) : (rowsF m f)[i]? = some (f i) := by simp [rowsF, h]
theorem rows_congr {m : Nat} {f g : Nat → List Int} (h : ∀ i, i < m → f i = g i) : rowsF m f = rowsF m g := List.map_congr_left fun i hi => h i (List.mem_range.1 hi)
theorem rows_set {m : Nat} {f : Nat → List Int} {i : Nat} (r : List Int) : (rowsF m f).set i r = rowsF m fun j => if j = i then r else f j := by
 apply List.ext_getElem?
 intro j
 rw [List.getElem?_set]
 unfold rowsF
 by_cases e : i = j
 ·subst e
  by_cases hj : i < m <;> simp [hj]
 ·by_cases hj : j < m
  ·have : ¬ j = i := fun h => e h.symm
   simp [e, hj, this]
  ·simp [e, hj]
theorem rows_nil (m : Nat) : List.replicate m [] = rowsF m fun _ => [] := by
 apply List.ext_getElem?
 intro j
 unfold rowsF
 by_cases hj : j < m <;> simp [hj, List.getElem?_replicate]
theorem outs_next {G : Gr} {a : Int} (ha : G.isE a) : (G.outN (G.to a)).filter (fun b => !decide ((a, b) ∈ G.B)) = G.nextL a := by
 unfold Gr.outN Gr.nextL
 rw [List.filter_filter]
 refine List.filter_congr fun b hb => ?_
 have hb' := mem_ints.1 hb
 unfold Gr.turn
 rw [decide_eq_true ha, decide_eq_true (show G.isE b from hb')]
 simp only [Bool.true_and]
 by_cases e : G.fr b = G.to a
 ·simp [e]
 ·have e' : ¬ G.to a = G.fr b := fun h => e h.symm
  simp [e, e']
theorem TNew_i {W : World} {H : GraS} {G : Gr} {Q : Option Addr → World → Prop} (h : GraIs W H G) (hQ : ∀ t w', TurIs w' t G → t.H = H → Keep W w' → Q (some ⟨t.t, 0, none⟩) w') : F_turns_New (some ⟨H.g, 0, none⟩) W Q := by
 unfold F_turns_New
 have hm := h.ok.m1
 refine cond_i (fun h => by simp at h) (fun _ => Edges_i h ?_)
 have d : Keep W W.drew := Mod.drew (Mod.refl _ W)
 intro J hJ
 have core : ∀ w2 T gn gp nx pv ssn ssp, TSt W w2 T gn gp H.g nx pv (List.replicate G.m []) (List.replicate G.m []) ssn ssp → J (some ⟨T, 0, none⟩, ()) w2 := by
  intro w2 T gn gp nx pv ssn ssp st
  apply hJ
  dsimp only
  have e1 : (List.replicate G.m ([] : List Int)) = rowsF G.m (nrow G 0 []) := by
   rw [rows_nil]; exact rows_congr fun i _ => by unfold nrow; rw [if_neg (by omega)]; split <;> rfl
  have e2 : (List.replicate G.m ([] : List Int)) = rowsF G.m (prow G 0 []) := by
   rw [rows_nil]; exact rows_congr fun i _ => by simp [prow, ints]
  have st0 : TSt W w2 T gn gp H.g nx pv (rowsF G.m (nrow G 0 [])) (rowsF G.m (prow G 0 [])) ssn ssp := by rw [← e1, ← e2]; exact st
  clear e1 e2 st
  refine loop_i (fun c t w3 => ∃ (a : Nat) (ssn ssp : List Sl), a ≤ G.m ∧ c = G.m - a ∧ t = ((a : Int), ()) ∧ TSt W w3 T gn gp H.g nx pv (rowsF G.m (nrow G a [])) (rowsF G.m (prow G a [])) ssn ssp) G.m ⟨0, ssn, ssp, Nat.zero_le _, rfl, rfl, st0⟩ ?_
  clear st0 ssn ssp
  rintro c t w3 ⟨a, ssn, ssp, ha, rfl, rfl, st⟩ X hX
  dsimp only
  refine cond_d (fun hlt => ?_) (fun hge => ?_)
  ·have ha' : a < G.m := by omega
   have hE : G.isE (a : Int) := ⟨by omega, by omega⟩
   refine Edge_i (h.keep st.kp) (fun _ w4 k4 => ?_) (fun hn => absurd hE hn)
   refine agg_new (vs := [.int .i64 (G.fr a), .int .i64 (G.to a), .int .i64 (G.wt a)]) size_Edge rfl (by simp [Value.oneCell']) fun w6 o6 k6 z6 => ?_
   refine ld1_i (k := .int .i64) (G.to a) (own3 o6).2.1 ?_
   have st6 := (st.keep k4).keep k6
   refine gOut_i (h.keep st6.kp) fun s1 w7 v7 k7 f7 => ?_
   have st7 := st6.keep k7
   have hlen : (G.outN (G.to a)).length ≤ G.m := by
    have := List.length_filter_le (fun e => decide (G.fr e = G.to a)) (ints G.m)
    rw [ints_len] at this; exact this
   have hon := outs_next hE
   have hin : ∀ b ∈ G.outN (G.to a), G.isE b := fun b hb => mem_ints.1 (List.mem_filter.1 hb).1
   have hnd : (G.outN (G.to a)).Pairwise fun x y => x < y := List.Pairwise.filter _ (ints_lt G.m)
   generalize G.outN (G.to a) = outs at *
   have l1 := v7.len
   refine loop_i (fun c t w8 => ∃ (j : Nat) (ssn ssp : List Sl), j ≤ outs.length ∧ c = outs.length - j ∧ t = ((j : Int), ()) ∧ (∀ b, s1.b = some b → ¬ VHas gn ssn b.block ∧ ¬ VHas gp ssp b.block) ∧ Vec w8 tInt 1 eI s1 outs ∧
     TSt W w8 T gn gp H.g nx pv (rowsF G.m (nrow G a ((outs.take j).filter fun b => !decide (((a : Int), b) ∈ G.B)))) (rowsF G.m (prow G a ((outs.take j).filter fun b => !decide (((a : Int), b) ∈ G.B)))) ssn ssp) outs.length
    ⟨0, ssn, ssp, Nat.zero_le _, rfl, rfl, fun b hb => ⟨fun hk => ?_, fun hk => ?_⟩, v7, by simpa using st7⟩ ?_
   ·have := st6.vn.lt hk; have := f7 b hb; omega
   ·have := st6.vp.lt hk; have := f7 b hb; omega
   clear st st6 st7 v7 f7 k7 o6 k6 z6 k4 ssn ssp
   rintro c t w8 ⟨j, ssn, ssp, hj, rfl, rfl, hs1, v8, st⟩ Y hY
   dsimp only
   refine cond_d (fun hlt' => ?_) (fun hge' => ?_)
   ·have hj' : j < outs.length := by omega
    have hget := List.getElem?_eq_getElem hj'
    have hbE := hin _ (List.getElem_mem hj')
    have htk : outs.take (j + 1) = outs.take j ++ [outs[j]] := List.take_succ_eq_append_getElem hj'
    have hnew : outs[j] ∉ outs.take j := fun hm => by
     obtain ⟨i, hi⟩ := List.mem_iff_getElem?.1 hm
     have hil := (List.getElem?_eq_some_iff.1 hi).1
     rw [List.length_take] at hil
     rw [List.getElem?_take_of_lt (by omega)] at hi
     have := List.pairwise_iff_getElem.1 hnd i j (by omega) hj' (by omega)
     rw [(List.getElem?_eq_some_iff.1 hi).2] at this
     omega
    generalize outs[j] = b at *
    obtain ⟨p, hp, hc⟩ := rd_cell (k := .int .i64) (e := fun x => x) (v8.rd lenI) hget
    rw [Int.toNat_natCast]
    refine ⟨⟨by omega, hlt'⟩, onSome_i hp (ld1_i (k := .int .i64) b hc ?_)⟩
    refine Banned_i (h.keep st.kp) fun w9 k9 => ?_
    have st9 := st.keep k9
    rw [wi_ j (by omega)]
    refine cond_i (fun hb => ?_) (fun hb => ?_)
    ·have hb' : (!decide (((a : Int), b) ∈ G.B)) = true := hb
     have hfl : (outs.take (j + 1)).filter (fun b => !decide (((a : Int), b) ∈ G.B)) = (outs.take j).filter (fun b => !decide (((a : Int), b) ∈ G.B)) ++ [b] := by
      rw [htk, List.filter_append]; simp [hb']
     have hql : ((outs.take j).filter fun b => !decide (((a : Int), b) ∈ G.B)).length ≤ 51 := by
      have := List.length_filter_le (fun b => !decide (((a : Int), b) ∈ G.B)) (outs.take j)
      rw [List.length_take] at this; omega
     have hqn : b ∉ (outs.take j).filter (fun b => !decide (((a : Int), b) ∈ G.B)) := fun hm => hnew (List.mem_filter.1 hm).1
     generalize (outs.take j).filter (fun b => !decide (((a : Int), b) ∈ G.B)) = q at *
     refine onSome_i rfl ?_
     refine pushRow_i (f := 1) (r := nrow G a q a) (x := b) st9.own rfl st9.nTn st9.vn (rows_get ha') (by unfold nrow; rw [if_neg (by omega), if_pos rfl]; omega) fun w12 ssn' v12 m12 f12 => ?_
     have st12 := st9.pushN v12 m12 f12
     obtain ⟨bn, rfl⟩ : ∃ bn : Nat, b = (bn : Int) := ⟨b.toNat, by have := hbE.1; omega⟩
     have hbn : bn < G.m := by have := hbE.2; omega
     have hpl : (prow G a q bn).length < 1000 := by
      have := List.length_filter_le (fun x => G.turn x (bn : Int)) (ints a)
      rw [ints_len] at this
      unfold prow
      rw [List.length_append]
      split <;> simp <;> omega
     refine onSome_i rfl ?_
     refine pushRow_i (f := 2) (r := prow G a q bn) (x := (a : Int)) st12.own rfl st12.nTp st12.vp (rows_get hbn) hpl fun w15 ssp' v15 m15 f15 => ?_
     have st15 := st12.pushP v15 m15 f15
     have h9 := k9.size
     have h12 := m12.size
     refine hY (outs.length - (j + 1)) _ _ (by omega) ⟨j + 1, ssn', ssp', hj', rfl, rfl, fun b' hb' => ⟨fun hk => ?_, fun hk => ?_⟩, ((v8.mod k9 fun _ _ => id).mod m12 fun b' hb' => (hs1 b' hb').1).mod m15 fun b' hb' => (hs1 b' hb').2, ?_⟩
     ·rcases f12 _ hk with h1 | h1
      ·exact (hs1 b' hb').1 h1
      ·have := v8.lt hb'; omega
     ·rcases f15 _ hk with h1 | h1
      ·exact (hs1 b' hb').2 h1
      ·have := v8.lt hb'; omega
     ·rw [hfl]
      have e1 : (rowsF G.m (nrow G a q)).set a (nrow G a q a ++ [(bn : Int)]) = rowsF G.m (nrow G a (q ++ [(bn : Int)])) := by
       rw [rows_set]
       refine rows_congr fun i _ => ?_
       by_cases e : i = a
       ·subst e; simp [nrow]
       ·rw [if_neg e]; unfold nrow; simp [e]
      have e2 : (rowsF G.m (prow G a q)).set bn (prow G a q bn ++ [(a : Int)]) = rowsF G.m (prow G a (q ++ [(bn : Int)])) := by
       rw [rows_set]
       refine rows_congr fun i _ => ?_
       by_cases e : i = bn
       ·subst e; simp [prow, hqn]
       ·have e' : ¬ ((i : Int) = (bn : Int)) := by omega
        rw [if_neg e]; unfold prow; simp [e']
      rw [← e1, ← e2]; exact st15
    ·have hb' : (!decide (((a : Int), b) ∈ G.B)) = false := hb
     have hfl : (outs.take (j + 1)).filter (fun b => !decide (((a : Int), b) ∈ G.B)) = (outs.take j).filter (fun b => !decide (((a : Int), b) ∈ G.B)) := by
      rw [htk, List.filter_append]; simp at hb'; simp [hb']
     refine hY (outs.length - (j + 1)) _ _ (by omega) ⟨j + 1, ssn, ssp, hj', rfl, rfl, hs1, v8.mod k9 fun _ _ => id, by rw [hfl]; exact st9⟩
   ·have ej : j = outs.length := by omega
    subst ej
    rw [List.take_length, hon] at st
    rw [wi_ a (by omega)]
    refine hX _ _ _ (by omega) ⟨a + 1, ssn, ssp, ha', rfl, rfl, ?_⟩
    have e1 : rowsF G.m (nrow G a (G.nextL a)) = rowsF G.m (nrow G (a + 1) []) := rows_congr fun i _ => by
     unfold nrow
     by_cases h1 : i < a
     ·rw [if_pos h1, if_pos (by omega)]
     ·by_cases h2 : i = a
      ·subst h2; rw [if_neg h1, if_pos rfl, if_pos (by omega)]
      ·rw [if_neg h1, if_neg h2, if_neg (by omega)]; split <;> rfl
    have e2 : rowsF G.m (prow G a (G.nextL a)) = rowsF G.m (prow G (a + 1) []) := rows_congr fun i _ => by
     unfold prow
     rw [ints_succ, List.filter_append]
     simp only [G.mem_next, List.not_mem_nil, if_false, List.append_nil]
     congr 1
     by_cases e : G.turn (a : Int) (i : Int) = true <;> simp [e]
    rw [← e1, ← e2]; exact st
  ·have ea : a = G.m := by omega
   subst ea
   refine hQ ⟨T, H, nx, pv⟩ w3 ⟨st.own, h.keep st.kp, ?_, ?_, fun b hb => hb.elim (vec_own st.vn.v) (vec_own st.vp.v)⟩ rfl st.kp
   ·have e : nextR G = rowsF G.m (nrow G G.m []) := rows_congr fun i hi => by unfold nrow; rw [if_pos hi]
    rw [e]; exact st.vn.rd
   ·have e : prevR G = rowsF G.m (prow G G.m []) := rows_congr fun i hi => by unfold prow Gr.prevL; simp
    rw [e]; exact st.vp.rd
 have mk2 : ∀ w1 (K : Sl → World → Prop), (∀ w2, Vec w2 tsInt 1 eS ⟨some ⟨w1.heap.size, 0, none⟩, G.m, G.m⟩ (List.replicate G.m ⟨none, 0, 0⟩) → Keep w1 w2 → K ⟨some ⟨w1.heap.size, 0, none⟩, G.m, G.m⟩ w2) → makeSliceD Tryz.prog tssInt (Value.int .i64 (G.m : Int)) (Value.int .i64 (G.m : Int)) w1 K := fun w1 K hK => by
  refine make_i elem_ssInt (enc := eS) (⟨none, 0, 0⟩ : Sl) rfl lenS (by omega) (Int.le_refl _) (by omega) (by omega) fun w2 v2 k2 => ?_
  simp only [Int.toNat_natCast] at v2 ⊢
  exact hK w2 v2 k2
 have has : ∀ {g k : Nat}, VHas g (List.replicate G.m ⟨none, 0, 0⟩) k → k = g := fun {g k} hk => by
  rcases hk with h1 | ⟨x, hx, a, ha, _⟩
  ·exact h1
  ·rw [(List.mem_replicate.1 hx).2] at ha; cases ha
 have dz : W.heap.size ≤ W.drew.heap.size := d.size
 refine ⟨mk2 _ _ fun w16 v16 k16 => mk2 _ _ fun w17 v17 k17 => alloc_i fun w18 o18 k18 z18 => ?_, mk2 _ _ fun w16 v16 k16 => mk2 _ _ fun w17 v17 k17 => alloc_i fun w18 o18 k18 z18 => ?_⟩
 all_goals
  have l16 : W.drew.heap.size < w16.heap.size := v16.lt rfl
  have l17 : w16.heap.size < w17.heap.size := v17.lt rfl
  have V16 := VV.start ((v16.mod k17 fun _ _ => id).mod k18 fun _ _ => id)
  have V17 := VV.start (v17.mod k18 fun _ _ => id)
  have KK := ((d.tr k16).tr k17).tr k18
 ·exact core w18 w17.heap.size W.drew.heap.size w16.heap.size _ _ _ _ ⟨o18, V16, V17, fun k h1 h2 => by have := has h1; have := has h2; omega, fun h1 => by have := has h1; omega, fun h1 => by have := has h1; omega, KK, fun k h1 => by have := has h1; omega, fun k h1 => by have := has h1; omega⟩
 ·exact core w18 w17.heap.size w16.heap.size W.drew.heap.size _ _ _ _ ⟨o18, V17, V16, fun k h1 h2 => by have := has h1; have := has h2; omega, fun h1 => by have := has h1; omega, fun h1 => by have := has h1; omega, KK, fun k h1 => by have := has h1; omega, fun k h1 => by have := has h1; omega⟩
end Go.Proofs.YtjjgcimlmjnaeaaGreat
