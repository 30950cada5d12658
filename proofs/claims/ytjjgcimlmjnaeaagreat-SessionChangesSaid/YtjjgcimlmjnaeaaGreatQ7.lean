/-
  The document's answer; walks, and where they end.
-/
import Derived.Test.YtjjgcimlmjnaeaaGreatQ6
import Derived.Test.YtjjgcimlmjnaeaaGreatFRes
import Derived.Test.YtjjgcimlmjnaeaaGreatQ5
import Derived.Test.YtjjgcimlmjnaeaaGreatQ4
import Derived.Test.YtjjgcimlmjnaeaaGreatA4
namespace Go.Proofs.YtjjgcimlmjnaeaaGreat
open Go Go.Den

section
variable {g : GT} {G : Gr} {W : World} (h : GvIs W g G) (ok : OkG G)
include h ok
theorem RBetween_i {e node : Int} {shut : Sl} {c : List Bool} {Q : Int → World → Prop} (hc : Rd W shut 1 eB c)
    (hno : ∀ w', Keep W w' → (∀ d, G.isN node → ¬ G.gw c node e d) → Q (-1) w') (hyes : ∀ d1 w', G.isE e → G.isN node → G.far c node d1 → Keep W w' → Q (dsv d1 e) w') : F_ref4_Between g e node shut W Q := by
  unfold F_ref4_Between
  have hm := ok.m1
  refine alloc_i fun w1 o1 k1 z1 => ?_
  have og : ∀ {wx : World}, Keep w1 wx → Own wx W.heap.size tAGraph (gcs g) := fun kx => o1.mod kx id
  refine ldN_i (l := [.slice, .slice, .slice]) g (own_g (g := g) o1) ?_
  refine REdge_i (h.keep k1) ok fun w2 k2 => cond_i (fun hn => hno w2 (k1.tr k2) fun d _ hg => ?_) (fun hy => ?_)
  · have := (ok.gw_rng hg).1
    rw [decide_eq_true this] at hn; cases hn
  have hE : G.isE e := by simpa using hy
  refine ldN_i (l := [.slice, .slice, .slice]) g (own_g (g := g) (og k2)) ?_
  refine RNode_i (h.keep (k1.tr k2)) ok fun w3 k3 => cond_i (fun hn => hno w3 (k1.tr (k2.tr k3)) fun d hN _ => ?_) (fun hy => ?_)
  · rw [decide_eq_true hN] at hn; cases hn
  have hN : G.isN node := by simpa using hy
  have k13 := k2.tr k3
  refine ldN_i (l := [.slice, .slice, .slice]) g (own_g (g := g) (og k13)) ?_
  refine RTo_i (h.keep (k1.tr k13)) ok hN (hc.mod (k1.tr k13) eB_ne fun _ _ => id) fun s1 ds w4 hd v4 k4 f4 b4 => ?_
  have hfl := v4.len
  rw [hd.1] at hfl
  obtain ⟨p, hp, hcp⟩ := rd_cell (k := .int .i64) (e := fun x => x) (v4.rd lenI) (far_get hd hE)
  exact ⟨⟨hE.1, by rw [hfl]; exact hE.2⟩, onSome_i hp (ld1_i (k := .int .i64) (dsv ds e) hcp (hyes ds w4 hE hN hd (k1.tr (k13.tr k4))))⟩
end
end Go.Proofs.YtjjgcimlmjnaeaaGreat

/-
  The document's bend.
-/
namespace Go.Proofs.YtjjgcimlmjnaeaaGreat
open Go Go.Den

abbrev e2 (p : Int × Int) : List Value := [.int .i64 p.1, .int .i64 p.2]
end Go.Proofs.YtjjgcimlmjnaeaaGreat

/-
  Messages in memory.
-/
namespace Go.Proofs.YtjjgcimlmjnaeaaGreat
open Go Go.Den

abbrev MX := MsgP × Sl
abbrev eMX (x : MX) : List Value := [.int .i64 x.1.kind, .int .i64 x.1.pos, .int .i64 x.1.dest, sv x.2, .int .i64 x.1.weight, .int .i64 x.1.hint.cls, .int .i64 x.1.hint.edge, .int .i64 x.1.hint.far, .int .i64 x.1.hint.left]
abbrev MT := Int × Int × Int × Sl × Int × Int × Int × Int × Int × Unit
abbrev mTup (x : MX) : MT := (x.1.kind, x.1.pos, x.1.dest, x.2, x.1.weight, x.1.hint.cls, x.1.hint.edge, x.1.hint.far, x.1.hint.left, ())
abbrev kMX : List CK := [.int .i64, .int .i64, .int .i64, .slice, .int .i64, .int .i64, .int .i64, .int .i64, .int .i64]
theorem lenMX : ∀ x : MX, (eMX x).length = 9 := fun _ => rfl
theorem oneMX : ∀ x : MX, ∀ u ∈ eMX x, u.oneCell' = true := by intro x u hu; simp at hu; rcases hu with rfl | rfl | rfl | rfl | rfl | rfl | rfl | rfl | rfl <;> rfl
theorem eMX_ne (x : MX) : eMX x ≠ [] := by simp
theorem own_at {w : World} {g k : Nat} {e : TypeId} {cs : List Value} {v : Value} (h : Own w g e cs) (hk : cs[k]? = some v) : w.cell? ((⟨g, 0, none⟩ : Addr).add k) = some v := by
  rw [addr_lit, Nat.zero_add, h.cell]; exact hk
structure MsgX (w : World) (P : Nat → Prop) (x : MX) : Prop where
  rd : Rd w x.2 1 eI x.1.edges
  blk : ∀ b, x.2.b = some b → P b.block ∧ b.block < w.heap.size
  len : x.1.edges.length ≤ 51
def MsgsIs (w : World) (P : Nat → Prop) (s : Sl) (l : List MsgP) : Prop := ∃ xs : List MX, Rd w s 9 eMX xs ∧ xs.map (·.1) = l ∧ (∀ b, s.b = some b → P b.block ∧ b.block < w.heap.size) ∧ ∀ x ∈ xs, MsgX w P x
theorem MsgX.mod {w w' : World} {P F : Nat → Prop} {x : MX} (h : MsgX w P x) (m : Mod F w w') (hF : ∀ k, P k → ¬ F k) : MsgX w' P x :=
  ⟨h.rd.mod m eI_ne fun b hb => hF _ (h.blk b hb).1, fun b hb => ⟨(h.blk b hb).1, Nat.lt_of_lt_of_le (h.blk b hb).2 m.size⟩, h.len⟩
theorem MsgX.wk {w : World} {P P' : Nat → Prop} {x : MX} (h : MsgX w P x) (hP : ∀ k, P k → k < w.heap.size → P' k) : MsgX w P' x :=
  ⟨h.rd, fun b hb => ⟨hP _ (h.blk b hb).1 (h.blk b hb).2, (h.blk b hb).2⟩, h.len⟩
theorem MsgX.none {w : World} {P : Nat → Prop} {p : MsgP} (h : p.edges = []) : MsgX w P (p, ⟨none, 0, 0⟩) :=
  ⟨by show Rd w _ 1 eI p.edges; rw [h]; exact Rd.nil _ _ _, fun b hb => (by cases hb), by show p.edges.length ≤ 51; rw [h]; simp⟩
section
variable {w w' : World} {P P' F : Nat → Prop} {s : Sl} {l : List MsgP}
theorem MsgsIs.mod (h : MsgsIs w P s l) (m : Mod F w w') (hF : ∀ k, P k → ¬ F k) : MsgsIs w' P s l := by
  obtain ⟨xs, h1, h2, h3, h4⟩ := h
  exact ⟨xs, h1.mod m eMX_ne fun b hb => hF _ (h3 b hb).1, h2, fun b hb => ⟨(h3 b hb).1, Nat.lt_of_lt_of_le (h3 b hb).2 m.size⟩, fun x hx => (h4 x hx).mod m hF⟩
theorem MsgsIs.wk (h : MsgsIs w P s l) (hP : ∀ k, P k → k < w.heap.size → P' k) : MsgsIs w P' s l := by
  obtain ⟨xs, h1, h2, h3, h4⟩ := h
  exact ⟨xs, h1, h2, fun b hb => ⟨hP _ (h3 b hb).1 (h3 b hb).2, (h3 b hb).2⟩, fun x hx => (h4 x hx).wk hP⟩
theorem MsgsIs.keep (h : MsgsIs w P s l) (k : Keep w w') : MsgsIs w' P s l := h.mod k fun _ _ => id
theorem MsgsIs.nil : MsgsIs w P ⟨none, 0, 0⟩ [] := ⟨[], Rd.nil _ _ _, rfl, fun b hb => (by cases hb), by simp⟩
theorem MsgsIs.len (h : MsgsIs w P s l) : s.l = l.length := by
  obtain ⟨xs, h1, h2, _⟩ := h
  rw [h1.len, ← h2, List.length_map]
theorem MsgsIs.one {g : Nat} {x : MX} (o : Own w g tMsg (eMX x)) (hx : MsgX w P x) (hg : P g) : MsgsIs w P ⟨some ⟨g, 0, none⟩, 1, 1⟩ [x.1] :=
  ⟨[x], (Vec.new lenMX [x] (by simpa using o) (by simp [maxLen])).rd lenMX, rfl, fun b hb => by cases hb; exact ⟨hg, o.lt⟩, by simpa using hx⟩
/-- What is at a place. -/
theorem MsgsIs.get (h : MsgsIs w P s l) {i : Nat} {p : MsgP} (hp : l[i]? = some p) : ∃ a sl, s.b = some a ∧ MsgX w P (p, sl) ∧ HoldsAt w (a.add (i * 9)) 0 (encs kMX (mTup (p, sl))) ∧ ∀ k v, (eMX (p, sl))[k]? = some v → w.cell? ((a.add (i * 9)).add k) = some v := by
  obtain ⟨xs, h1, h2, h3, h4⟩ := h
  rw [← h2, List.getElem?_map] at hp
  cases hx : xs[i]? with
  | none => rw [hx] at hp; cases hp
  | some x =>
    rw [hx] at hp
    obtain ⟨p', sl⟩ := x
    cases hp
    obtain ⟨a, ha, hh⟩ := h1.get i _ hx
    exact ⟨a, sl, ha, h4 _ (List.mem_of_getElem? hx), hh, fun k v hv => by have := holds_iff.1 hh k v hv; rwa [Nat.zero_add] at this⟩
/-- One ahead of others. -/
theorem msgs_app {g : Nat} {x : MX} {K : Sl → World → Prop} (o : Own w g tMsg (eMX x)) (hx : MsgX w (fun k => P k ∧ k ≠ g) x) (hg : P g) (hn : ∀ k, w.heap.size ≤ k → P k) (hs : MsgsIs w (fun k => P k ∧ k ≠ g) s l) (hl : l.length ≤ 10)
    (hK : ∀ r w', MsgsIs w' P r (x.1 :: l) → Mod (fun k => k = g) w w' → K r w') : appendD Tryz.prog tsMsg tsMsg ⟨some ⟨g, 0, none⟩, 1, 1⟩ (Value.slice s.b s.l s.c) w K := by
  obtain ⟨xs, h1, h2, h3, h4⟩ := hs
  have hxl : xs.length = l.length := by rw [← h2, List.length_map]
  refine append_i elem_sMsg lenMX oneMX (Vec.new lenMX [x] (by simpa using o) (by simp [maxLen])) h1 (by simp; omega) (by simp; omega) fun r w' hr hm hrb hrn => ?_
  have m : Mod (fun k => k = g) w w' := hm.mono fun k _ ⟨a, ha, hk⟩ => by cases ha; exact hk
  refine hK r w' ⟨[x] ++ xs, hr.rd lenMX, by rw [List.map_append, h2]; rfl, fun b hb => ⟨?_, hr.lt hb⟩, fun y hy => ?_⟩ m
  · rcases hrb with e | ⟨a, ha, hle⟩
    · rw [hb] at e; cases e; exact hg
    · rw [hb] at ha; cases ha; exact hn _ hle
  · have hy' : MsgX w (fun k => P k ∧ k ≠ g) y := by
      rcases List.mem_append.1 hy with hy | hy
      · rw [List.mem_singleton.1 hy]; exact hx
      · exact h4 y hy
    exact (hy'.mod m fun k hk e => hk.2 e).wk fun k hk _ => hk.1
end
end Go.Proofs.YtjjgcimlmjnaeaaGreat

/-
  The document's hint, and its session: hint, asks.
-/
namespace Go.Proofs.YtjjgcimlmjnaeaaGreat
open Go Go.Den

section
variable {w : World} {g : GT} {G : Gr}
end

abbrev eRSe (g : GT) (p : Ses) (sl : Sl) : List Value := [sv g.1, sv g.2.1, sv g.2.2.1, .int .i64 p.pos, .int .i64 p.node, sv sl, .bool p.has, .bool p.over]
/-- The document's session is there; its way lies in none of some blocks. -/
structure RSesAt (F : Nat → Prop) (W0 w : World) (s : Nat) (g : GT) (G : Gr) (p : Ses) : Prop where
  gv : GvIs W0 g G
  gok : OkG G
  k0 : Keep W0 w
  lo : W0.heap.size ≤ s
  own : ∃ sl, Own w s tRSess (eRSe g p sl) ∧ Rd w sl 1 eI p.way ∧ ∀ b, sl.b = some b → ¬ F b.block ∧ b.block < w.heap.size
  fs : F s
section
variable {F F' : Nat → Prop} {W0 w w' : World} {s : Nat} {g : GT} {G : Gr} {p : Ses}
theorem RSesAt.e (h : RSesAt F W0 w s g G p) : GvIs w g G := h.gv.keep h.k0
theorem RSesAt.mod {M : Nat → Prop} (h : RSesAt F W0 w s g G p) (m : Mod M w w') (hM : ∀ k, M k → k ≠ s ∧ (F k ∨ w.heap.size ≤ k) ∧ W0.heap.size ≤ k) : RSesAt F W0 w' s g G p := by
  obtain ⟨sl, h1, h2, h3⟩ := h.own
  refine ⟨h.gv, h.gok, h.k0.fresh m fun k hk => (hM k hk).2.2, h.lo, ⟨sl, h1.mod m fun hs => (hM s hs).1 rfl, h2.mod m eI_ne fun b hb hm => ?_, fun b hb => ⟨(h3 b hb).1, Nat.lt_of_lt_of_le (h3 b hb).2 m.size⟩⟩, h.fs⟩
  rcases (hM _ hm).2.1 with hf | hf
  · exact (h3 b hb).1 hf
  · have := (h3 b hb).2; omega
theorem RSesAt.keep (h : RSesAt F W0 w s g G p) (k : Keep w w') : RSesAt F W0 w' s g G p := h.mod k fun _ hk => hk.elim
theorem RSesAt.more (h : RSesAt F W0 w s g G p) (hF : ∀ k, F' k → F k ∨ w.heap.size ≤ k) (hs : F' s) : RSesAt F' W0 w s g G p := by
  obtain ⟨sl, h1, h2, h3⟩ := h.own
  refine ⟨h.gv, h.gok, h.k0, h.lo, ⟨sl, h1, h2, fun b hb => ⟨fun hf => ?_, (h3 b hb).2⟩⟩, hs⟩
  rcases hF _ hf with hf | hf
  · exact (h3 b hb).1 hf
  · have := (h3 b hb).2; omega
theorem RSesAt.lt (h : RSesAt F W0 w s g G p) : s < w.heap.size := by obtain ⟨sl, h1, _⟩ := h.own; exact h1.lt
theorem RSesAt.put {sl : Sl} {q : Ses} (h : RSesAt F W0 w s g G p) (m : Mod (fun k => k = s) w w') (o : Own w' s tRSess (eRSe g q sl)) (hr : Rd w' sl 1 eI q.way) (hb : ∀ b, sl.b = some b → ¬ F b.block ∧ b.block < w'.heap.size) : RSesAt F W0 w' s g G q :=
  ⟨h.gv, h.gok, h.k0.fresh m fun k e => by rw [show k = s from e]; exact h.lo, h.lo, ⟨sl, o, hr, hb⟩, h.fs⟩
theorem RSesAt.cell (h : RSesAt F W0 w s g G p) : ∃ sl, Own w s tRSess (eRSe g p sl) ∧ Rd w sl 1 eI p.way ∧ (∀ b, sl.b = some b → ¬ F b.block ∧ b.block < w.heap.size) ∧
    HoldsAt w ((⟨s, 0, none⟩ : Addr).add 0) 0 (encs [.slice, .slice, .slice] g) ∧ w.cell? (((⟨s, 0, none⟩ : Addr).add 0).add 1) = some (sv g.2.1) ∧ w.cell? ((⟨s, 0, none⟩ : Addr).add 3) = some (.int .i64 p.pos) ∧ w.cell? ((⟨s, 0, none⟩ : Addr).add 4) = some (.int .i64 p.node) ∧
    w.cell? ((⟨s, 0, none⟩ : Addr).add 5) = some (sv sl) ∧ w.cell? ((⟨s, 0, none⟩ : Addr).add 6) = some (.bool p.has) ∧ w.cell? ((⟨s, 0, none⟩ : Addr).add 7) = some (.bool p.over) := by
  obtain ⟨sl, h1, h2, h3⟩ := h.own
  refine ⟨sl, h1, h2, h3, ?_, by rw [add_zero]; exact own_at h1 rfl, own_at h1 rfl, own_at h1 rfl, own_at h1 rfl, own_at h1 rfl, own_at h1 rfl⟩
  rw [add_zero]
  refine h1.holds fun j v hj => ?_
  match j, hj with
  | 0, hj => exact hj
  | 1, hj => exact hj
  | 2, hj => exact hj
  | _ + 3, hj => cases hj
end
end Go.Proofs.YtjjgcimlmjnaeaaGreat

/-
  The program's session.
-/
namespace Go.Proofs.YtjjgcimlmjnaeaaGreat
open Go Go.Den

abbrev eSe (e : Nat) (p : Ses) (sl : Sl) : List Value := [.pointer (some ⟨e, 0, none⟩), .int .i64 p.pos, .int .i64 p.node, sv sl, .bool p.has, .bool p.over]
/-- A session is there; its way lies in none of some blocks. -/
structure SesAt (F : Nat → Prop) (W0 w : World) (s : Nat) (E : EngS) (G : Gr) (p : Ses) : Prop where
  eng : EngIs W0 E G
  k0 : Keep W0 w
  lo : W0.heap.size ≤ s
  own : ∃ sl, Own w s tSess (eSe E.e p sl) ∧ Rd w sl 1 eI p.way ∧ ∀ b, sl.b = some b → ¬ F b.block ∧ b.block < w.heap.size
  fs : F s
section
variable {F F' : Nat → Prop} {W0 w w' : World} {s : Nat} {E : EngS} {G : Gr} {p : Ses}
theorem SesAt.e (h : SesAt F W0 w s E G p) : EngIs w E G := h.eng.keep h.k0
theorem SesAt.mod {M : Nat → Prop} (h : SesAt F W0 w s E G p) (m : Mod M w w') (hM : ∀ k, M k → k ≠ s ∧ (F k ∨ w.heap.size ≤ k) ∧ W0.heap.size ≤ k) : SesAt F W0 w' s E G p := by
  obtain ⟨sl, h1, h2, h3⟩ := h.own
  refine ⟨h.eng, h.k0.fresh m fun k hk => (hM k hk).2.2, h.lo, ⟨sl, h1.mod m fun hs => (hM s hs).1 rfl, h2.mod m eI_ne fun b hb hm => ?_, fun b hb => ⟨(h3 b hb).1, Nat.lt_of_lt_of_le (h3 b hb).2 m.size⟩⟩, h.fs⟩
  rcases (hM _ hm).2.1 with hf | hf
  · exact (h3 b hb).1 hf
  · have := (h3 b hb).2; omega
theorem SesAt.keep (h : SesAt F W0 w s E G p) (k : Keep w w') : SesAt F W0 w' s E G p := h.mod k fun _ hk => hk.elim
theorem SesAt.more (h : SesAt F W0 w s E G p) (hF : ∀ k, F' k → F k ∨ w.heap.size ≤ k) (hs : F' s) : SesAt F' W0 w s E G p := by
  obtain ⟨sl, h1, h2, h3⟩ := h.own
  refine ⟨h.eng, h.k0, h.lo, ⟨sl, h1, h2, fun b hb => ⟨fun hf => ?_, (h3 b hb).2⟩⟩, hs⟩
  rcases hF _ hf with hf | hf
  · exact (h3 b hb).1 hf
  · have := (h3 b hb).2; omega
theorem SesAt.lt (h : SesAt F W0 w s E G p) : s < w.heap.size := by obtain ⟨sl, h1, _⟩ := h.own; exact h1.lt
/-- One of its cells is written. -/
theorem SesAt.put {sl : Sl} {q : Ses} (h : SesAt F W0 w s E G p) (m : Mod (fun k => k = s) w w') (o : Own w' s tSess (eSe E.e q sl)) (hr : Rd w' sl 1 eI q.way) (hb : ∀ b, sl.b = some b → ¬ F b.block ∧ b.block < w'.heap.size) : SesAt F W0 w' s E G q :=
  ⟨h.eng, h.k0.fresh m fun k e => by rw [show k = s from e]; exact h.lo, h.lo, ⟨sl, o, hr, hb⟩, h.fs⟩
theorem SesAt.cell (h : SesAt F W0 w s E G p) : w.cell? ((⟨s, 0, none⟩ : Addr).add 0) = some (.pointer (some ⟨E.e, 0, none⟩)) ∧ w.cell? ((⟨s, 0, none⟩ : Addr).add 1) = some (.int .i64 p.pos) ∧ w.cell? ((⟨s, 0, none⟩ : Addr).add 2) = some (.int .i64 p.node) ∧
    w.cell? ((⟨s, 0, none⟩ : Addr).add 4) = some (.bool p.has) ∧ w.cell? ((⟨s, 0, none⟩ : Addr).add 5) = some (.bool p.over) ∧
    ∃ sl, Own w s tSess (eSe E.e p sl) ∧ w.cell? ((⟨s, 0, none⟩ : Addr).add 3) = some (sv sl) ∧ Rd w sl 1 eI p.way ∧ ∀ b, sl.b = some b → ¬ F b.block ∧ b.block < w.heap.size := by
  obtain ⟨sl, h1, h2, h3⟩ := h.own
  exact ⟨own_at h1 rfl, own_at h1 rfl, own_at h1 rfl, own_at h1 rfl, own_at h1 rfl, sl, h1, own_at h1 rfl, h2, h3⟩

theorem Done_i {Q : Bool → World → Prop} (h : SesAt F W0 w s E G p) (hQ : Q p.over w) : F_session_Session_Done (some ⟨s, 0, none⟩) w Q := by
  unfold F_session_Session_Done
  exact cond_i (fun h => by simp at h) (fun _ => onSome_i rfl (ld1_i (k := .bool) p.over h.cell.2.2.2.2.1 hQ))
theorem At_i {Q : Int → World → Prop} (h : SesAt F W0 w s E G p) (hQ : Q p.pos w) : F_session_Session_At (some ⟨s, 0, none⟩) w Q := by
  unfold F_session_Session_At
  exact cond_i (fun h => by simp at h) (fun _ => onSome_i rfl (ld1_i (k := .int .i64) p.pos h.cell.2.1 hQ))
theorem Left_i {Q : Sl → Bool → World → Prop} (h : SesAt F W0 w s E G p) (hl : p.way.length ≤ 51) (hn : p.has = false → p.way = []) (hQ : ∀ r w', Vec w' tInt 1 eI r p.way → Keep w w' → (∀ b, r.b = some b → w.heap.size ≤ b.block) → Q r p.has w') : F_session_Session_Left (some ⟨s, 0, none⟩) w Q := by
  unfold F_session_Session_Left
  obtain ⟨_, _, _, c4, _, sl, _, c3, hr, _⟩ := h.cell
  refine cond_i (fun h => by simp at h) (fun _ => onSome_i rfl (ld1_i (k := .bool) p.has c4 (cond_i (fun hb => ?_) (fun hb => ?_))))
  · have hf : p.has = false := by simpa using hb
    have := hQ ⟨none, 0, 0⟩ w (by rw [hn hf]; exact Vec.nil _ _ _ _) (Mod.refl _ _) (fun b hb => by cases hb)
    rw [hf] at this; exact this
  · have ht : p.has = true := by simpa using hb
    refine onSome_i rfl (ld1_i (k := .slice) sl c3 (CloneI_i hr (by omega) fun r w1 v1 k1 f1 => ?_))
    have := hQ r w1 v1 k1 f1
    rw [ht] at this; exact this

theorem shint_i {Q : Sl → World → Prop} (h : SesAt F W0 w s E G p) (ok : OkS G p) (hh : p.has = true) (hQ : ∀ ms w', SesAt F W0 w' s E G (hintS G p).1 → MsgsIs w' (fun k => w.heap.size ≤ k) ms (hintS G p).2 → (hintS G p).2.length = 1 → Mod (fun k => k = s) w w' → Q ms w') :
    F_session_Session_hint (some ⟨s, 0, none⟩) w Q := by
  unfold F_session_Session_hint
  intro J1 hJ1
  have slt := h.lt
  have core : ∀ a w1, w1.cell? (a.add 1) = some (.int .i64 (G.to p.pos)) → Keep w w1 → J1 (some a, ()) w1 := by
    intro a w1 c1 k1
    apply hJ1
    have d1 : Keep w1 w1.drew := Mod.drew (Mod.refl _ w1)
    have hd := h.keep (k1.tr d1)
    refine onSome_i rfl (ld1_i (k := .int .i64) (G.to p.pos) (d1.cell c1 id) (onSome_i rfl (ld1_i (k := .int .i64) p.node hd.cell.2.2.1 ?_)))
    refine cond_i (fun he => ?_) (fun hne => ?_)
    · have he' : G.to p.pos = p.node := by simpa using he
      obtain ⟨sl, o, hr, hb⟩ := hd.own
      refine onSome_i rfl ?_
      rw [addr_lit, Nat.zero_add]
      refine storeD1_i (o := 5) (v := .bool true) o size_Bool (by simp) rfl rfl fun w2 o2 m2 z2 => ?_
      have h2 : SesAt F W0 w2 s E G { p with over := true } := hd.put m2 o2 (hr.mod m2 eI_ne fun b hb' e => (hb b hb').1 (by rw [show b.block = s from e]; exact h.fs)) fun b hb' => ⟨(hb b hb').1, by rw [z2]; exact (hb b hb').2⟩
      refine alloc_i fun w3 o3 k3 z3 => ?_
      have e : hintS G p = ({ p with over := true }, [mArrived]) := by unfold hintS; rw [if_pos he']
      rw [e] at hQ
      have M2 : Mod (fun k => k = s) w w2 := (Keep.mod (k1.tr d1)).tr m2
      have z := M2.size
      exact hQ _ w3 (h2.keep k3) (MsgsIs.one (x := (mArrived, ⟨none, 0, 0⟩)) o3 (MsgX.none rfl) z) rfl (M2.tr k3.wk)
    · have hne' : ¬ G.to p.pos = p.node := by simpa using hne
      have e : hintS G p = (p, [mNext (G.hint p.pos p.way)]) := by unfold hintS; rw [if_neg hne']
      rw [e] at hQ
      have d2 : Keep w1 w1.drew.drew := d1.tr (Mod.drew (Mod.refl _ _))
      have h2 := h.keep (k1.tr d2)
      obtain ⟨c0, c1', _, _, _, sl, _, c3, hr, _⟩ := h2.cell
      have he2 := h2.e
      refine onSome_i rfl (ld1_i (k := .ptr) (some ⟨E.e, 0, none⟩) c0 (onSome_i rfl (ld1_i (k := .ptr) (some ⟨E.t.t, 0, none⟩) he2.cells.1 (onSome_i rfl (ld1_i (k := .int .i64) p.pos c1' (onSome_i rfl (ld1_i (k := .slice) sl c3 ?_)))))))
      have len := ok.len
      refine ⟨?_, ?_⟩
      · refine Hint_i he2.tur ok.pos (ok.walk hh) hr (by omega) fun w4 k4 => ?_
        refine agg_new (vs := eH (G.hint p.pos p.way)) size_Hint rfl (oneH _) fun w6 o6 k6 _ => ?_
        refine ldN_i (l := [.int .i64, .int .i64, .int .i64, .int .i64]) (hTup (G.hint p.pos p.way)) (own_h o6) ?_
        refine alloc_i fun w7 o7 k7 z7 => ?_
        have K6 := ((k1.tr d2).tr k4).tr k6
        exact hQ _ w7 (h.keep (K6.tr k7)) (MsgsIs.one (x := (mNext (G.hint p.pos p.way), ⟨none, 0, 0⟩)) o7 (MsgX.none rfl) K6.size) rfl (K6.tr k7).wk
      · refine alloc_i fun w8 o8 k8 z8 => ?_
        have o8' : Own w8 w1.drew.drew.heap.size tHint (eH ⟨0, 0, 0, 0⟩) := o8
        have h8 := h2.keep k8
        refine ⟨k8.cell c3 id, k8.cell c1' id, k8.cell he2.cells.1 id, k8.cell c0 id, ?_⟩
        refine Hint_i (he2.keep k8).tur ok.pos (ok.walk hh) (hr.mod k8 eI_ne fun _ _ => id) (by omega) fun w9 k9 => ?_
        refine agg_store (vs := eH (G.hint p.pos p.way)) (o8'.mod k9 id) size_Hint rfl (oneH _) fun w10 o10 m10 _ => ?_
        refine ldN_i (l := [.int .i64, .int .i64, .int .i64, .int .i64]) (hTup (G.hint p.pos p.way)) (own_h o10) ?_
        refine alloc_i fun w11 o11 k11 z11 => ?_
        have K2 := k1.tr d2
        have K10 : Keep w w10 := ((K2.tr k8).tr k9).fresh m10 fun k e => by rw [show k = w1.drew.drew.heap.size from e]; exact K2.size
        exact hQ _ w11 (h.keep (K10.tr k11)) (MsgsIs.one (x := (mNext (G.hint p.pos p.way), ⟨none, 0, 0⟩)) o11 (MsgX.none rfl) K10.size) rfl (K10.tr k11).wk
  have d : Keep w w.drew := Mod.drew (Mod.refl _ w)
  have hd := h.keep d
  have ed := hd.e
  obtain ⟨c0, c1', _⟩ := hd.cell
  refine onSome_i rfl (ld1_i (k := .ptr) (some ⟨E.e, 0, none⟩) c0 (onSome_i rfl (ld1_i (k := .ptr) (some ⟨E.t.t, 0, none⟩) ed.cells.1 (onSome_i rfl (ld1_i (k := .ptr) (some ⟨E.t.H.g, 0, none⟩) ed.tur.cells.1 (onSome_i rfl (ld1_i (k := .int .i64) p.pos c1' ?_)))))))
  refine ⟨?_, ?_⟩
  · refine Edge_i ed.tur.gra (fun _ w2 k2 => ?_) (fun hn => absurd ok.pos hn)
    refine agg_new (vs := [.int .i64 (G.fr p.pos), .int .i64 (G.to p.pos), .int .i64 (G.wt p.pos)]) size_Edge rfl (by simp [Value.oneCell']) fun w3 o3 k3 z3 => ?_
    exact core _ w3 (own3 o3).2.1 ((d.tr k2).tr k3)
  · refine alloc_i fun w2 o2 k2 z2 => ?_
    have o2' : Own w2 w.drew.heap.size tEdge [.int .i64 0, .int .i64 0, .int .i64 0] := o2
    refine ⟨k2.cell c1' id, k2.cell ed.tur.cells.1 id, k2.cell ed.cells.1 id, k2.cell c0 id, ?_⟩
    refine Edge_i (ed.keep k2).tur.gra (fun _ w3 k3 => ?_) (fun hn => absurd ok.pos hn)
    refine agg_store (vs := [.int .i64 (G.fr p.pos), .int .i64 (G.to p.pos), .int .i64 (G.wt p.pos)]) (o2'.mod k3 id) size_Edge rfl (by simp [Value.oneCell']) fun w4 o4 m4 _ => ?_
    exact core _ w4 (own3 o4).2.1 (((d.tr k2).tr k3).fresh m4 fun k e => by rw [show k = w.drew.heap.size from e]; exact d.size)
end
end Go.Proofs.YtjjgcimlmjnaeaaGreat

/-
  The program's session: asks, New, Report.
-/
namespace Go.Proofs.YtjjgcimlmjnaeaaGreat
open Go Go.Den

section
variable {F : Nat → Prop} {W0 w : World} {s : Nat} {E : EngS} {G : Gr} {p : Ses}
theorem asks_i {closed : Sl} {c : List Bool} {Q : Sl → World → Prop} (h : SesAt F W0 w s E G p) (hp : G.isE p.pos) (hn : G.isN p.node) (hc : Rd w closed 1 eB c) (hF : ∀ k, F k → k < w.heap.size)
    (hQ : ∀ z ms w', AskR G c p z → SesAt F W0 w' s E G z.1 → OkS G z.1 → MsgsIs w' (fun k => w.heap.size ≤ k) ms z.2 → z.2.length ≤ 2 ∧ 1 ≤ z.2.length → Mod (fun k => k = s) w w' → Q ms w') :
    F_session_Session_asks (some ⟨s, 0, none⟩) closed w Q := by
  unfold F_session_Session_asks
  have ok := h.eng.tur.gra.ok
  have slt := h.lt
  intro J1 hJ1
  have lit : ∀ b k : Nat, ((⟨b, 0, none⟩ : Addr).add k) = ⟨b, k, none⟩ := fun b k => by rw [addr_lit, Nat.zero_add]
  have core : ∀ b w1 (sl : Sl) wt f r l, Own w1 b tAns (eAns (sl, wt, f, r, ())) → w.heap.size ≤ b → G.AnsIs p.node p.pos c l wt f r → Vec w1 tInt 1 eI sl l → l.length ≤ 51 → (∀ a, sl.b = some a → w.heap.size ≤ a.block) → Keep w w1 → J1 (some ⟨b, 0, none⟩, ()) w1 := by
    intro b w1 sl wt f r l o1 hb hA v1 hl f1 k1
    apply hJ1
    have d1 : Keep w1 w1.drew := Mod.drew (Mod.refl _ w1)
    have K1 := k1.tr d1
    have hd := h.keep K1
    have od := o1.mod d1 id
    have vd := v1.mod d1 fun _ _ => id
    have cd := own4 od
    refine onSome_i rfl (ld1_i (k := .slice) sl cd.1 (onSome_i rfl (ld1_i (k := .bool) f cd.2.2.1 ?_)))
    obtain ⟨sl0, o, hr, hb0⟩ := hd.own
    refine onSome_i rfl ?_
    rw [lit s 3]
    refine storeD1_i (o := 3) (v := sv sl) o size_sInt (by simp) rfl rfl fun w2 o2 m2 z2 => ?_
    have bs : b ≠ s := by omega
    have od2 := od.mod m2 bs
    refine ⟨(own4 od2).2.2.1, ?_⟩
    refine onSome_i rfl ?_
    rw [lit s 4]
    refine storeD1_i (o := 4) (v := .bool f) o2 size_Bool (by simp) rfl rfl fun w3 o3 m3 z3 => ?_
    have od3 := od2.mod m3 bs
    have ns : ∀ a, sl.b = some a → ¬ a.block = s := fun a ha e => by have := f1 a ha; omega
    have v3 := (vd.mod m2 ns).mod m3 ns
    have M3 : Mod (fun k => k = s) w w3 := (K1.wk.tr m2).tr m3
    have h3 : SesAt F W0 w3 s E G { p with way := l, has := f } := hd.put (m2.tr m3) o3 (v3.rd lenI) fun a ha => ⟨fun hf => by have := f1 a ha; have := hF _ hf; omega, v3.lt ha⟩
    refine onSome_i rfl (ld1_i (k := .bool) f (own4 od3).2.2.1 ?_)
    refine cond_i (fun hf => ?_) (fun hf => ?_)
    · have hf' : f = false := by simpa using hf
      refine alloc_i fun w4 o4 k4 z4 => ?_
      subst hf'
      have e : askW G p l wt false = ({ p with way := l, has := false }, [mNoRoute]) := by unfold askW; rw [if_neg (by simp)]
      have hz : AskR G c p ({ p with way := l, has := false }, [mNoRoute]) := ⟨l, wt, false, r, hA, e.symm⟩
      have hok := (ask_ok ok hp hn hA).1
      rw [e] at hok
      exact hQ _ _ w4 hz (h3.keep k4) hok (MsgsIs.one (x := (mNoRoute, ⟨none, 0, 0⟩)) o4 (MsgX.none rfl) M3.size) (by simp) (M3.tr k4.wk)
    · have hf' : f = true := by simpa using hf
      subst hf'
      have hok := (ask_ok ok hp hn hA).2 rfl
      have e : askW G p l wt true = ((hintS G { p with way := l, has := true }).1, mRoute l wt :: (hintS G { p with way := l, has := true }).2) := by unfold askW; rw [if_pos rfl]
      have hz : AskR G c p ((hintS G { p with way := l, has := true }).1, mRoute l wt :: (hintS G { p with way := l, has := true }).2) := ⟨l, wt, true, r, hA, e.symm⟩
      have d3 : Keep w3 w3.drew := Mod.drew (Mod.refl _ w3)
      have odd := od3.mod d3 id
      have h3d := h3.keep d3
      have M3d := M3.tr d3.wk
      have zz := M3d.size
      refine onSome_i rfl (ld1_i (k := .slice) sl (own4 odd).1 (onSome_i rfl (ld1_i (k := .int .i64) wt (own4 odd).2.1 ?_)))
      refine CloneI_i ((v3.mod d3 fun _ _ => id).rd lenI) (by omega) fun s3 w5 v5 k5 f5 => ?_
      have o5 := odd.mod k5 id
      refine ⟨(own4 o5).2.1, ?_⟩
      have h5 := h3d.keep k5
      have M5 := M3d.tr k5.wk
      have z5 := k5.size
      have hOk5 : OkS G (hintS G { p with way := l, has := true }).1 := hok.hintS
      have mx : ∀ {wx : World} (g : Nat), Mod (fun k => k = s) w5 wx → w5.heap.size ≤ g → MsgX wx (fun k => w.heap.size ≤ k ∧ k ≠ g) (mRoute l wt, s3) := fun g kx hg => by
        have vx := v5.mod kx fun a ha e => by have := f5 a ha; have e' : a.block = s := e; omega
        exact ⟨vx.rd lenI, fun a ha => ⟨⟨by have := f5 a ha; omega, by have := v5.lt ha; omega⟩, vx.lt ha⟩, hl⟩
      have W0le := h.k0.size
      have g5 : w5.heap.size ≠ s := by have := M5.size; omega
      refine ⟨?_, ?_⟩
      · refine alloc_i fun w6 o6 k6 z6 => ?_
        have h5g : SesAt (fun k => F k ∨ k = w5.heap.size) W0 w5 s E G { p with way := l, has := true } := h5.more (fun k hk => hk.elim .inl (fun e => .inr (by omega))) (.inl h5.fs)
        refine shint_i (h5g.keep k6) hok rfl fun ms w7 h7 q7 hl7 m7 => ?_
        have z7 := m7.size
        refine msgs_app (x := (mRoute l wt, s3)) (P := fun k => w.heap.size ≤ k) (o6.mod m7 g5) (mx w5.heap.size (k6.wk.tr m7) (Nat.le_refl _)) (by omega) (fun k hk => by omega) (q7.wk fun k hk _ => ⟨by omega, by omega⟩) (by omega) fun r' w8 q8 m8 => ?_
        refine hQ _ _ w8 hz ((h7.mod m8 fun k hk => ⟨by omega, .inl (.inr hk), by omega⟩).more (fun k hk => .inl (.inl hk)) h.fs) hOk5 q8 ⟨by simp [hl7], by simp⟩ ((M5.tr (k6.wk.tr m7)).trans m8 fun k hk e => by omega)
      · refine shint_i h5 hok rfl fun ms w9 h9 q9 hl9 m9 => ?_
        have z9 := m9.size
        refine ⟨(own4 (o5.mod m9 bs)).2.1, ?_⟩
        refine alloc_i fun w10 o10 k10 z10 => ?_
        have h9g : SesAt (fun k => F k ∨ k = w9.heap.size) W0 w9 s E G (hintS G { p with way := l, has := true }).1 := h9.more (fun k hk => hk.elim .inl (fun e => .inr (by omega))) (.inl h9.fs)
        have q9' : MsgsIs w9 (fun k => w.heap.size ≤ k ∧ k ≠ w9.heap.size) ms (hintS G { p with way := l, has := true }).2 := q9.wk fun k hk hlt => ⟨by omega, by omega⟩
        refine msgs_app (x := (mRoute l wt, s3)) (P := fun k => w.heap.size ≤ k) o10 (mx w9.heap.size (m9.tr k10.wk) z9) (by omega) (fun k hk => by omega) (q9'.keep k10) (by omega) fun r' w11 q11 m11 => ?_
        refine hQ _ _ w11 hz (((h9g.keep k10).mod m11 fun k hk => ⟨by omega, .inl (.inr hk), by omega⟩).more (fun k hk => .inl (.inl hk)) h.fs) hOk5 q11 ⟨by simp [hl9], by simp⟩ (((M5.tr m9).tr k10.wk).trans m11 fun k hk e => by omega)
  have d : Keep w w.drew := Mod.drew (Mod.refl _ w)
  have hd := h.keep d
  obtain ⟨c0, c1, c2, _⟩ := hd.cell
  have hcd := hc.mod d eB_ne fun _ _ => id
  refine onSome_i rfl (ld1_i (k := .ptr) (some ⟨E.e, 0, none⟩) c0 (onSome_i rfl (ld1_i (k := .int .i64) p.pos c1 (onSome_i rfl (ld1_i (k := .int .i64) p.node c2 ?_)))))
  refine ⟨?_, ?_⟩
  · refine Way_i hd.e hcd fun sl wt f r l w1 hA v1 _ hl k1 f1 => ?_
    refine agg_new (vs := eAns (sl, wt, f, r, ())) size_Ans rfl (oneAns _) fun w2 o2 k2 z2 => ?_
    exact core _ w2 sl wt f r l o2 (by have := k1.size; have := d.size; omega) hA (v1.mod k2 fun _ _ => id) hl (fun a ha => by have := f1 a ha; have := d.size; omega) ((d.tr k1).tr k2)
  · refine alloc_i fun w1 o1 k1 z1 => ?_
    have o1' : Own w1 w.drew.heap.size tAns (eAns (⟨none, 0, 0⟩, 0, false, false, ())) := o1
    refine ⟨k1.cell c2 id, k1.cell c1 id, k1.cell c0 id, ?_⟩
    refine Way_i (hd.keep k1).e (hcd.mod k1 eB_ne fun _ _ => id) fun sl wt f r l w2 hA v2 _ hl k2 f2 => ?_
    refine agg_store (vs := eAns (sl, wt, f, r, ())) (o1'.mod k2 id) size_Ans rfl (oneAns _) fun w3 o3 m3 _ => ?_
    have ds := d.size
    refine core _ w3 sl wt f r l o3 ds hA (v2.mod m3 fun a ha e => ?_) hl (fun a ha => by have := f2 a ha; omega) (((d.tr k1).tr k2).fresh m3 fun k e => by rw [show k = w.drew.heap.size from e]; exact ds)
    have := f2 a ha
    have e' : a.block = w.drew.heap.size := e
    omega
end
end Go.Proofs.YtjjgcimlmjnaeaaGreat
