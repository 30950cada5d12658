/-
  Chapter 28's laws: SessionStays, SessionMasks.
-/
import Derived.Test.YtjjgcimlmjnaeaaGreatQ9
import Derived.Test.YtjjgcimlmjnaeaaGreatA5
namespace Go.Proofs.YtjjgcimlmjnaeaaGreat
open Go Go.Den

theorem start28_i {l : Sl} {xs : List Int} {at_ node : Int} {W : World} {Qf : World → Prop} {K : Addr → Option Addr → Int → Int → World → Prop} (hl : Rd W l 1 eI xs)
    (hK : ∀ g G E A w', EngIs w' E G → GvIs w' g G → OkG G → Own w' A tAGraph (gcs g) → Keep W w' → W.heap.size ≤ A → G.isE (at_ % G.m) → G.isN (node % G.n) → K ⟨A, 0, none⟩ (some ⟨E.e, 0, none⟩) (at_ % G.m) (node % G.n) w') :
    F_law28_made l W fun (t1 : GT) (p1 : Option Addr) w2 => allocD w2 #[Value.slice none 0 0, Value.slice none 0 0, Value.slice none 0 0] tAGraph fun a1 w3 => storeD Tryz.prog tAGraph a1 (Value.agg #[(Value.slice t1.1.b t1.1.l t1.1.c), (Value.slice t1.2.1.b t1.2.1.l t1.2.1.c), (Value.slice t1.2.2.1.b t1.2.2.1.l t1.2.2.1.c)]) w3 fun w4 =>
      cond (Option.isNone p1) (Qf w4) (ld1 .slice w4.drew (a1.add 1) fun (s1 : Sl) => ld1 .slice w4.drew (a1.add 0) fun (s2 : Sl) => F_alike_Round at_ ((s1.l : Nat) : Int) w4.drew fun (x1 : Int) w5 =>
        w5.cell? (a1.add 0) = some (Value.slice s2.b s2.l s2.c) ∧ F_alike_Round node ((s2.l : Nat) : Int) w5 fun (x2 : Int) w6 => K a1 p1 x1 x2 w6) := by
  refine made28_i hl fun g G E w2 hE hg ok hn k2 => ?_
  refine agg_new (vs := gcs g) size_AGraph rfl (gone1 g) fun w4 o4 k4 z4 => ?_
  have hm := ok.m1
  have hn1 := ok.n1
  have gl : g.2.1.l = G.m := hg.ed.len
  have gn : g.1.l = G.n := hg.nd.len
  refine cond_i (fun h => by simp at h) (fun _ => ?_)
  have d4 : Keep w4 w4.drew := Mod.drew (Mod.refl _ w4)
  have o4d := o4.mod d4 id
  refine ld1_i (k := .slice) g.2.1 (own3 o4d).2.1 (ld1_i (k := .slice) g.1 (own3 o4d).1 ?_)
  rw [gl, gn]
  refine Round_i (by omega) (by omega) ⟨by rw [← gn]; exact (own3 o4d).1, Round_i (by omega) (by omega) ?_⟩
  exact hK g G E _ w4.drew ((hE.keep k4).keep d4) ((hg.keep k4).keep d4) ok o4d ((k2.tr k4).tr d4) k2.size ⟨Int.emod_nonneg _ (by omega), Int.emod_lt_of_pos _ (by omega)⟩ ⟨Int.emod_nonneg _ (by omega), Int.emod_lt_of_pos _ (by omega)⟩
theorem MsgsIs.part {w : World} {P : Nat → Prop} {s : Sl} {l : List MsgP} (h : MsgsIs w P s l) {i : Nat} (hi : i ≤ l.length) : MsgsIs w P ⟨sliceAddr s.b s.c i 9, s.l - i, s.c - i⟩ (l.drop i) := by
  have hlen := h.len
  obtain ⟨xs, h1, h2, h3, h4⟩ := h
  have hp := h1.part (i := i) (j := s.l) (c := s.c) (by omega) (Nat.le_refl _) h1.cap (Nat.le_refl _)
  have hx : xs.length = s.l := h1.len.symm
  rw [List.take_of_length_le (by rw [List.length_drop]; omega)] at hp
  refine ⟨xs.drop i, hp, by rw [List.map_drop, h2], fun b hb => ?_, fun x hx => h4 x (List.mem_of_mem_drop hx)⟩
  obtain ⟨a0, ha0, e⟩ := slice_blk hb
  rw [e]; exact h3 a0 ha0
/-- What is told first, and what is told to one that stands still. -/
theorem stay_facts {G : Gr} (ok : OkG G) {a v : Int} (ha : G.isE a) {z z2 : Ses × List MsgP} (hz : AskR G [] (ses0 a v) z) (hz2 : RepR G [] z.1 a z2) :
    z2.1.pos = a ∧ z2.1.has = z.1.has ∧ z2.1.way = z.1.way ∧ z2.1.over = z.1.over ∧ (z.1.over = true → z2.2 = []) ∧ (z.1.over = false → z.1.has = true → ∃ m x, z.2 = [m, x] ∧ z2.2 = [x]) ∧ (z.1.over = false → z.1.has = false → z2.2 = [mNoRoute]) := by
  obtain ⟨l, w, f, r, hA, rfl⟩ := hz
  unfold askW at hz2 ⊢
  cases f with
  | true =>
    rw [if_pos rfl] at hz2 ⊢
    unfold hintS at hz2 ⊢
    split
    · rename_i e
      rw [if_pos e] at hz2
      unfold RepR at hz2
      rw [if_pos rfl] at hz2
      subst hz2
      exact ⟨rfl, rfl, rfl, rfl, fun _ => rfl, fun h => (by cases h), fun h => (by cases h)⟩
    · rename_i e
      rw [if_neg e] at hz2
      unfold RepR at hz2
      rw [if_neg (by simp), if_neg (by simpa using ha), if_pos ⟨rfl, rfl⟩] at hz2
      unfold hintS at hz2
      rw [if_neg e] at hz2
      subst hz2
      exact ⟨rfl, rfl, rfl, rfl, fun h => (by cases h), fun _ _ => ⟨_, _, rfl, rfl⟩, fun _ h => (by cases h)⟩
  | false =>
    rw [if_neg (by simp)] at hz2 ⊢
    unfold RepR at hz2
    rw [if_neg (by simp), if_neg (by simpa using ha), if_neg (by simp), if_neg (by simp)] at hz2
    obtain ⟨l', w', f', r', hA', rfl⟩ := hz2
    obtain ⟨e1, e2, e3, e4⟩ := ok.ans_uniq (v := v) (e := a) hA' hA
    subst e1
    subst e3
    unfold askW
    rw [if_neg (by simp)]
    exact ⟨rfl, rfl, rfl, rfl, fun h => (by cases h), fun _ h => (by cases h), fun _ _ => rfl⟩
theorem SessionStays_i {l : Sl} {xs : List Int} {at_ node odd : Int} {W : World} {Q : Bool → World → Prop} (hl : Rd W l 1 eI xs) (hQ : ∀ w', Keep W w' → Q true w') : F_law28_SessionStays l at_ node odd W Q := by
  unfold F_law28_SessionStays
  refine cond_d (fun _ => awake28_i hQ) (fun _ => ?_)
  refine start28_i hl fun g G E A w0 hE hg ok oA k0 zA ha hv => ?_
  refine SNew_i hE (c := []) (Rd.nil _ _ _) (fun hb => absurd ⟨ha, hv⟩ hb) fun _ _ z ms w1 hz h1 ok1 q1 l1 k1 => ?_
  have q1l := q1.len
  have W0 := k0.size
  have z1 := k1.size
  generalize hs : w0.heap.size = s at *
  generalize hae : at_ % (G.m : Int) = a at *
  generalize hve : node % (G.n : Int) = v at *
  refine cond_i (fun h => by simp at h) (fun _ => cond_i (fun h => by simp at h) (fun _ => ?_))
  refine cond_d (fun h => by rw [q1l] at h; simp only [List.length_cons] at h; omega) (fun _ => ?_)
  refine Left_i h1 ok1.len ok1.none fun s4 w2 v2 k2 f2 => ?_
  have h2 := h1.keep k2
  have slt := h1.lt
  have up : ∀ {wx wy : World}, Keep W wx → Mod (fun k => k = s) wx wy → Keep W wy := fun kx m => kx.fresh m fun k e => by rw [show k = s from e]; omega
  refine Report_i h2 ok1 (c := []) (Rd.nil _ _ _) (fun b hb => by cases hb) (fun k hk => by have := k2.size; omega) fun z2 ms2 w3 hz2 h3 ok3 q3 l3 m3 => ?_
  obtain ⟨g1, g2, g3, g4, g5, g6, g7⟩ := stay_facts ok ha hz hz2
  have K3 := up ((k0.tr k1).tr k2) m3
  have v3 := v2.mod m3 fun b hb e => by have := f2 b hb; have e' : b.block = s := e; omega
  have z3 := m3.size
  have s2 := k2.size
  refine Done_i h3 (cond_i (fun hov => ?_) (fun hov => ?_))
  · have hov' : z2.1.over = true := hov
    have e2 := g5 (by rw [← g4]; exact hov')
    have q3l := q3.len
    rw [e2] at q3l
    refine cond_i (fun _ => ?_) (fun h => by rw [q3l] at h; simp at h)
    refine Report_i h3 ok3 (c := []) (Rd.nil _ _ _) (fun b hb => by cases hb) (fun k hk => by omega) fun z4 ms4 w4 hz4 h4 ok4 q4 _ m4 => ?_
    have e4 : z4 = (z2.1, []) := by unfold RepR at hz4; rw [if_pos hov'] at hz4; exact hz4
    rw [e4] at q4 h4 ok4
    have q4l := q4.len
    refine cond_i (fun _ => ?_) (fun h => by rw [q4l] at h; simp at h)
    have v4 := v3.mod m4 fun b hb e => by have := f2 b hb; have e' : b.block = s := e; omega
    have wl := ok1.len
    refine Changed_i h4 ok4 (v4.rd lenI) (by omega) (v4.rd lenI) (c := []) (Rd.nil _ _ _) (fun k hk => by have := m4.size; omega) fun z5 ms5 w5 hz5 h5 ok5 q5 _ m5 => ?_
    have e5 : z5 = (z2.1, []) := by unfold ChgR at hz5; rw [if_pos hov'] at hz5; exact hz5
    rw [e5] at q5
    have q5l := q5.len
    refine cond_i (fun _ => ?_) (fun h => by rw [q5l] at h; simp at h)
    exact awake28_i fun w' k' => hQ w' ((up (up K3 m4) m5).tr k')
  have hov' : z2.1.over = false := hov
  have ho : z.1.over = false := by rw [← g4]; exact hov'
  have oA3 : ∀ {wx : World}, Keep W wx → True := fun _ => trivial
  -- the graph's value, at every later world
  have fin : ∀ w4, SesAt (fun k => k ≤ s) w0 w4 s E G z2.1 → Vec w4 tInt 1 eI s4 z.1.way → Keep W w4 → ∀ J2 : (Unit) → World → Prop, (∀ (t3 : Unit) (w15 : World), (
      F_session_Session_Left (some ⟨s, 0, none⟩) w15 fun (s8 : Sl) (b5 : Bool) w16 => F_session_Session_At (some ⟨s, 0, none⟩) w16 fun (x4 : Int) w17 => cond (x4 == a) (cond (b5 == z.1.has) (F_alike_Ints s8 s4 w17 fun (b6 : Bool) w18 => cond b6 (F_law28_awake w18 fun (b7 : Bool) w19 => Q b7 w19) (Q false w18)) (Q false w17)) (Q false w17)) → J2 t3 w15) → J2 () w4 := by
    intro w4 h4 v4 K4 J2 hJ2
    apply hJ2
    refine Left_i h4 ok3.len ok3.none fun s8 w5 v5 k5 f5 => At_i (h4.keep k5) ?_
    rw [g1, g2]
    refine cond_i (fun _ => cond_i (fun _ => ?_) (fun h => by simp at h)) (fun h => by simp at h)
    have wl := ok3.len
    rw [g3] at v5 wl
    refine Ints_i (v5.rd lenI) ((v4.mod k5 fun _ _ => id).rd lenI) (by omega) fun r w6 k6 hr => cond_i (fun _ => ?_) (fun h => by rw [hr.2 rfl] at h; cases h)
    exact awake28_i fun w' k' => hQ w' (((K4.tr k5).tr k6).tr k')
  intro J1 hJ1
  have j1 : ∀ w4, Keep w3 w4 → J1 () w4 := by
    intro w4 k34
    apply hJ1
    have h4 := h3.keep k34
    have K4 := K3.tr k34
    have v4 := v3.mod k34 fun _ _ => id
    have m14 : Mod (fun k => k = s) w0 w4 := (((k1.wk).tr k2.wk).tr m3).tr k34.wk
    have hA4 : Own w4 A tAGraph (gcs g) := oA.mod m14 (by have := oA.lt; omega)
    have hg4 : GvIs w4 g G := hg.keep h4.k0
    intro J2 hJ2
    refine ldN_i (l := [.slice, .slice, .slice]) g (own_g (g := g) hA4) (REdge_i hg4 ok fun w5 k5 => ?_)
    have h5 := h4.keep k5
    have K5 := K4.tr k5
    have v5 := v4.mod k5 fun _ _ => id
    refine cond_i (fun hno => ?_) (fun _ => fin w5 h5 v5 K5 J2 hJ2)
    have hodd : ¬ G.isE odd := fun h => by rw [decide_eq_true h] at hno; cases hno
    have s5 := K5.size
    refine Report_i h5 ok3 (c := []) (Rd.nil _ _ _) (fun b hb => by cases hb) (fun k hk => by have := h5.lt; omega) fun z6 ms6 w6 hz6 h6 ok6 q6 _ m6 => ?_
    have e6 : z6 = (z2.1, [mWrong odd]) := by unfold RepR at hz6; rw [if_neg (by rw [hov']; simp), if_pos hodd] at hz6; exact hz6
    rw [e6] at q6 h6
    refine alloc_i fun w7 o7 k7 z7 => ?_
    refine alike28_i (q6.keep k7) (MsgsIs.one (P := fun _ => True) (x := (mWrong odd, ⟨none, 0, 0⟩)) o7 (MsgX.none rfl) trivial) (by simp) fun w8 k8 => ?_
    refine cond_i (fun h => by simp at h) (fun _ => ?_)
    have v6 := v5.mod m6 fun b hb e => by have := f2 b hb; have e' : b.block = s := e; omega
    exact fin w8 ((h6.keep k7).keep k8) ((v6.mod k7 fun _ _ => id).mod k8 fun _ _ => id) (((up K5 m6).tr k7).tr k8) J2 hJ2
  refine cond_i (fun hh => ?_) (fun hh => ?_)
  · obtain ⟨m, x, e1, e2⟩ := g6 ho hh
    have q13 : MsgsIs w3 (fun k => s < k) ms (mOpened :: z.2) := (q1.keep k2).mod m3 fun k hk e => by have e' : k = s := e; omega
    rw [e1] at q13
    have q1l' := q13.len
    rw [e2] at q3
    simp only [List.length_cons, List.length_nil] at q1l'
    have ew : IntKind.wrap .i64 (((ms.l : Nat) : Int) - (1 : Int)) = 2 := by rw [q1l']; rfl
    rw [ew]
    refine ⟨⟨by omega, by rw [q1l']; decide⟩, ?_⟩
    have hp := q13.part (i := 2) (by simp)
    refine alike28_i q3 hp (by simp) fun w4 k4 => cond_i (fun h => by simp at h) (fun _ => j1 w4 k4)
  · have e2 := g7 ho (by simpa using hh)
    rw [e2] at q3
    refine alloc_i fun w4 o4 k4 z4 => ?_
    refine alike28_i (q3.keep k4) (MsgsIs.one (P := fun _ => True) (x := (mNoRoute, ⟨none, 0, 0⟩)) o4 (MsgX.none rfl) trivial) (by simp) fun w5 k5 => cond_i (fun h => by simp at h) (fun _ => j1 w5 (k4.tr k5))
end Go.Proofs.YtjjgcimlmjnaeaaGreat

/-
  Arguments: bools.
-/
namespace Go.Proofs.YtjjgcimlmjnaeaaGreat
open Go Go.Den Go.ChangeShapes Go.WideShapes Go.ChangeAt Go.RowKit
end Go.Proofs.YtjjgcimlmjnaeaaGreat
