/-
  Chapter 28's laws: SessionStays, SessionMasks.
-/
import Derived.Test.YtjjgcimlmjnaeaaGreatQ9
import Derived.Test.YtjjgcimlmjnaeaaGreatA5
namespace Go.Proofs.YtjjgcimlmjnaeaaGreat
open Go Go.Den

theorem start28_i {l : Sl} {xs : List Int} {at_ node : Int} {W : World} {Qf : World → Prop} {K : Addr → Option Addr → Int → Int → World → Prop} (hl : Rd W l 1 eI xs)
    (hK : ∀ g G E A w', EngIs w' E G → GvIs w' g G → OkG G → Own w' A tAGraph (gcs g) → Keep W w' → W.heap.size ≤ A → G.isE (at_ % G.m) → G.isN (node % G.n) → K ⟨A, 0, none⟩ (some ⟨E.e, 0, none⟩) (at_ % G.m) (node % G.n) w') :
    F_law28_made l W fun (t1 : GT) (p1 : Option Addr) w2 => allocD w2 #[Value.slice none 0 0, Value.slice none 0 0, Value.slice none 0 0] tAGraph fun a1 w3 => storeD Tryz.prog tAGraph a1 (Value.agg #[(Value.slice t1.1.b t1.1.l t1.1.c), (Value.slice t1.2.1.b t1.2.1.l t1.2.1.c), (Value.slice t1.2.2.1.b t1.2.2.1.l t1.2.2.1.c)]) w3 fun w4 =>
      cond (Option.isNone p1) (Qf w4) (ld1 .slice w4.drew (a1.add 1) fun (s1 : Sl) => ld1 .slice w4.drew (a1.add 0) fun (s2 : Sl) => F_alike_Round at_ ((s1.l : Nat) : Int) w4.drew fun (x1 : Int) w5 =>
        w5.cell? (a1.add 0) = some (Value.slice s2.b s2.l s2.c) ∧ F_alike_Round node ((s2.l : Nat) : Int) w5 fun (x2 : Int) w6 => K a1 p1 x1 x2 w6) := by
  refine made28_i hl fun g G E w2 hE hg ok hn k2 => ?_
  refine agg_new (vs := gcs g) size_AGraph rfl (gone1 g) fun w4 o4 k4 z4 => ?_
  have hm := ok.m1
  have hn1 := ok.n1
  have gl : g.2.1.l = G.m := hg.ed.len
  have gn : g.1.l = G.n := hg.nd.len
  refine cond_i (fun h => by simp at h) (fun _ => ?_)
  have d4 : Keep w4 w4.drew := Mod.drew (Mod.refl _ w4)
  have o4d := o4.mod d4 id
  refine ld1_i (k := .slice) g.2.1 (own3 o4d).2.1 (ld1_i (k := .slice) g.1 (own3 o4d).1 ?_)
  rw [gl, gn]
  refine Round_i (by omega) (by omega) ⟨by rw [← gn]; exact (own3 o4d).1, Round_i (by omega) (by omega) ?_⟩
  exact hK g G E _ w4.drew ((hE.keep k4).keep d4) ((hg.keep k4).keep d4) ok o4d ((k2.tr k4).tr d4) k2.size ⟨Int.emod_nonneg _ (by omega), Int.emod_lt_of_pos _ (by omega)⟩ ⟨Int.emod_nonneg _ (by omega), Int.emod_lt_of_pos _ (by omega)⟩
theorem MsgsIs.part {w : World} {P : Nat → Prop} {s : Sl} {l : List MsgP} (h : MsgsIs w P s l) {i : Nat} (hi : i ≤ l.length) : MsgsIs w P ⟨sliceAddr s.b s.c i 9, s.l - i, s.c - i⟩ (l.drop i) := by
  have hlen := h.len
  obtain ⟨xs, h1, h2, h3, h4⟩ := h
  have hp := h1.part (i := i) (j := s.l) (c := s.c) (by omega) (Nat.le_refl _) h1.cap (Nat.le_refl _)
  have hx : xs.length = s.l := h1.len.symm
  rw [List.take_of_length_le (by rw [List.length_drop]; omega)] at hp
  refine ⟨xs.drop i, hp, by rw [List.map_drop, h2], fun b hb => ?_, fun x hx => h4 x (List.mem_of_mem_drop hx)⟩
  obtain ⟨a0, ha0, e⟩ := slice_blk hb
  rw [e]; exact h3 a0 ha0
end Go.Proofs.YtjjgcimlmjnaeaaGreat

/-
  Chapter 28's laws: SessionMasks.
-/
namespace Go.Proofs.YtjjgcimlmjnaeaaGreat
open Go Go.Den

end Go.Proofs.YtjjgcimlmjnaeaaGreat

/-
  Chapter 28's laws: SessionFalls.
-/
namespace Go.Proofs.YtjjgcimlmjnaeaaGreat
open Go Go.Den

theorem ds_cell {w : World} {s : Sl} {G : Gr} {c : List Bool} {v e : Int} {ds : List Int} (hv : Vec w tInt 1 eI s ds) (hd : G.far c v ds) (he : G.isE e) : s.l = G.m ∧ ∃ a, s.b = some a ∧ w.cell? (a.add (e.toNat * 1)) = some (.int .i64 (dsv ds e)) := by
  refine ⟨by rw [hv.len, hd.1], ?_⟩
  exact rd_cell (k := .int .i64) (e := fun x => x) (hv.rd lenI) (far_get hd he)
set_option maxRecDepth 100000 in
theorem SessionFalls_i {l off : Sl} {xs ys : List Int} {at_ node : Int} {W : World} {Q : Bool → World → Prop} (hl : Rd W l 1 eI xs) (hof : Rd W off 1 eI ys) (hQ : ∀ w', Keep W w' → Q true w') : F_law28_SessionFalls l at_ node off W Q := by
  unfold F_law28_SessionFalls
  have hol := hof.len
  refine cond_d (fun _ => awake28_i hQ) (fun _ => cond_d (fun _ => awake28_i hQ) (fun hs20 => ?_))
  refine start28_i hl fun g G E A w0 hE hg ok oA k0 zA ha hv => ?_
  have hm := ok.m1
  refine SNew_i hE (c := []) (Rd.nil _ _ _) (fun hb => absurd ⟨ha, hv⟩ hb) fun _ _ z ms w1 hz h1 ok1 q1 l1 k1 => ?_
  have q1l := q1.len
  have gl : g.2.1.l = G.m := hg.ed.len
  generalize hs : w0.heap.size = s at *
  generalize hae : at_ % (G.m : Int) = a at *
  generalize hve : node % (G.n : Int) = v at *
  have slt := h1.lt
  refine cond_i (fun h => by simp at h) (fun _ => cond_i (fun h => by simp at h) (fun _ => ?_))
  simp only [List.length_cons] at q1l
  refine cond_d (fun h => by omega) (fun _ => ?_)
  have ogA : ∀ {wx : World} {p : Ses}, SesAt (fun k => k ≤ s) w0 wx s E G p → Own wx A tAGraph (gcs g) := fun h => oA.mod h.k0 id
  have hgv : ∀ {wx : World} {p : Ses}, SesAt (fun k => k ≤ s) w0 wx s E G p → GvIs wx g G := fun h => hg.keep h.k0
  refine ldN_i (l := [.slice, .slice, .slice]) g (own_g (g := g) (ogA h1)) ?_
  refine RTo_i (hgv h1) ok hv (c := []) (Rd.nil _ _ _) fun s4 ds w9 hd v9 k9 f9 b9 => ?_
  have fs4 : ∀ b, s4.b = some b → ¬ b.block = s := fun b hb e => by have := f9 b hb; omega
  have F0 : FallI G v ds z.1 := FallI.ask ok hv hd ha rfl rfl hz
  refine loop_i (fun c t w10 => ∃ (n : Nat) (p : Ses), n ≤ 200 ∧ c = 200 - n ∧ t = ((n : Int), ()) ∧ SesAt (fun k => k ≤ s) w0 w10 s E G p ∧ OkS G p ∧ FallI G v ds p ∧ Vec w10 tInt 1 eI s4 ds ∧ (n ≤ ys.length ∨ n + p.way.length ≤ ys.length + 51)) 200 ⟨0, z.1, by omega, rfl, rfl, h1.keep k9, ok1, F0, v9, .inl (Nat.zero_le _)⟩ ?_
  rintro c t w10 ⟨n, p, hn, rfl, rfl, h10, okp, hF, v10, hmes⟩ X hX
  have h10lt := h10.lt
  have len51 := okp.len
  dsimp only
  refine cond_d (fun hlt => ?_) (fun hge => by omega)
  intro J1 hJ1
  refine Left_i h10 okp.len okp.none fun s5 w12 v12 k12 f12 => ?_
  have h12 := h10.keep k12
  refine At_i h12 ?_
  refine ldN_i (l := [.slice, .slice, .slice]) g (own_g (g := g) (ogA h12)) (REdge_i (hgv h12) ok fun w14 k14 => ?_)
  have h14 := h12.keep k14
  have v14 := (v10.mod k12 fun _ _ => id).mod k14 fun _ _ => id
  have v5 := v12.mod k14 fun _ _ => id
  rw [decide_eq_true hF.pos]
  refine cond_i (fun h => by simp at h) (fun _ => ?_)
  have hp0 := hF.pos.1
  have hp1 := hF.pos.2
  obtain ⟨dl, d1, hd1, cd1⟩ := ds_cell v14 hd hF.pos
  have hnode := hF.node
  refine ⟨⟨by omega, by omega⟩, onSome_i hd1 (ld1_i (k := .int .i64) (dsv ds p.pos) cd1 ?_)⟩
  have hasE : p.has = decide (dsv ds p.pos ≥ 0) := by
    rcases hF.st with ⟨_, h, h0⟩ | ⟨_, ⟨h, h0, _⟩ | ⟨h, h0⟩⟩
    · rw [h, decide_eq_true (by omega)]
    · rw [h, decide_eq_true (by omega)]
    · rw [h, decide_eq_false (by omega)]
  refine cond_i (fun h => by rw [← hasE] at h; simp at h) (fun _ => Done_i h14 (cond_i (fun ho => ?_) (fun ho => ?_)))
  · have ho' : p.over = true := ho
    have h0 : dsv ds p.pos = 0 := by
      rcases hF.st with ⟨_, _, h0⟩ | ⟨h, _⟩
      · exact h0
      · rw [ho'] at h; cases h
    refine ⟨⟨by omega, by omega⟩, onSome_i hd1 (ld1_i (k := .int .i64) (dsv ds p.pos) cd1 (cond_i (fun _ => ?_) (fun h => by rw [h0] at h; simp at h)))⟩
    exact awake28_i fun w' k' => hQ w' ((k0.tr h14.k0).tr k')
  have ho' : p.over = false := ho
  refine cond_i (fun hh => cond_i (fun _ => awake28_i fun w' k' => hQ w' ((k0.tr h14.k0).tr k')) (fun h => by rw [h] at hh; cases hh)) (fun hh => ?_)
  have hh' : p.has = true := by simpa using hh
  obtain ⟨hpos0, hLW⟩ : 0 < dsv ds p.pos ∧ G.LWay [] ds p.pos p.way := by
    rcases hF.st with ⟨h, _⟩ | ⟨_, ⟨_, h4, h5⟩ | ⟨h, _⟩⟩
    · rw [ho'] at h; cases h
    · exact ⟨h4, h5⟩
    · rw [hh'] at h; cases h
  have v5l := v5.len
  have hne : p.way ≠ [] := fun e => by
    rw [e] at hLW
    cases hLW with
    | nil h => omega
  obtain ⟨x, rest, hway⟩ : ∃ x rest, p.way = x :: rest := by
    cases hw : p.way with
    | nil => exact absurd hw hne
    | cons x rest => exact ⟨x, rest, rfl⟩
  have hway1 : 1 ≤ p.way.length := by rw [hway]; simp
  refine cond_i (fun h => by simp at h; omega) (fun _ => ?_)
  have wcell : ∀ {wx : World}, Vec wx tInt 1 eI s5 p.way → ∃ b, s5.b = some b ∧ wx.cell? (b.add (0 * 1)) = some (.int .i64 x) := fun vx => rd_cell (k := .int .i64) (e := fun x => x) (vx.rd lenI) (by rw [hway]; rfl)
  obtain ⟨b5, hb5, cb5⟩ := wcell v5
  refine ⟨⟨by omega, by omega⟩, onSome_i hb5 (ld1_i (k := .int .i64) x cb5 ?_)⟩
  have f5 : ∀ b, s5.b = some b → ¬ b.block = s := fun b hb e => by have := f12 b hb; omega
  intro J2 hJ2
  have j2 : ∀ y w19, G.isE y → Keep w14 w19 → (ys.length ≤ n → y = x) → J2 (y, ()) w19 := by
    intro y w19 hy k19 hyx
    apply hJ2
    have h19 := h14.keep k19
    refine Report_i h19 okp (c := []) (Rd.nil _ _ _) (fun b hb => by cases hb) (fun k hk => by have := h19.lt; omega) fun z2 ms2 w20 hz2 h20 ok20 q20 _ m20 => ?_
    have hS := hF.step ok hv hd ho' hh' hy hz2
    obtain ⟨ini, m, em, e8, e6, e7⟩ := hS.last
    have q20l := q20.len
    have lz : z2.2.length = ini.length + 1 := by rw [em]; simp
    have hini : ini.length ≤ 1 := by omega
    have vd20 := (v14.mod k19 fun _ _ => id).mod m20 fs4
    have v520 := (v5.mod k19 fun _ _ => id).mod m20 f5
    refine cond_i (fun h => by simp at h; omega) (fun _ => At_i h20 ?_)
    rw [hS.pos]
    refine cond_i (fun h => by simp at h) (fun _ => ?_)
    have ew : IntKind.wrap .i64 (((ms2.l : Nat) : Int) - (1 : Int)) = ((ini.length : Nat) : Int) := by rw [w64 (by omega) (by omega)]; omega
    rw [ew, Int.toNat_natCast]
    obtain ⟨a9, sl9, ha9, _, hh9, _⟩ := q20.get (i := ini.length) (p := m) (by rw [em, List.getElem?_append_right (Nat.le_refl _)]; simp)
    refine ⟨⟨by omega, by omega⟩, onSome_i ha9 (ldN_i (l := kMX) (mTup (m, sl9)) hh9 ?_)⟩
    refine agg_new (vs := eMX (m, sl9)) size_Msg rfl (oneMX _) fun w23 o23 k23 z23 => ?_
    have h23 := h20.keep k23
    have y0 := hy.1
    have y1 := hy.2
    have yc : ∀ {wx : World}, Keep w23 wx → ∃ b, s4.b = some b ∧ wx.cell? (b.add (y.toNat * 1)) = some (.int .i64 (dsv ds y)) := fun kx => (ds_cell ((vd20.mod k23 fun _ _ => id).mod kx fun _ _ => id) hd hy).2
    have pc : ∀ {wx : World}, Keep w23 wx → ∃ b, s4.b = some b ∧ wx.cell? (b.add (p.pos.toNat * 1)) = some (.int .i64 (dsv ds p.pos)) := fun kx => (ds_cell ((vd20.mod k23 fun _ _ => id).mod kx fun _ _ => id) hd hF.pos).2
    have xc : ∀ {wx : World}, Keep w23 wx → ∃ b, s5.b = some b ∧ wx.cell? (b.add (0 * 1)) = some (.int .i64 x) := fun kx => wcell ((v520.mod k23 fun _ _ => id).mod kx fun _ _ => id)
    have q23 := q20.keep k23
    -- the next round
    have done : ∀ w25, Keep w23 w25 → J1 () w25 := by
      intro w25 k25
      apply hJ1
      rw [wi_ n (by omega)]
      refine hX _ _ _ (by omega) ⟨n + 1, z2.1, by omega, rfl, rfl, h23.keep k25, ok20, hS.inv, (vd20.mod k23 fun _ _ => id).mod k25 fun _ _ => id, ?_⟩
      by_cases hny : ys.length ≤ n
      · have e := hyx hny
        subst e
        have hw3 := (hS.on (by rw [hway]; rfl)).2.2
        rw [hway, List.tail_cons] at hw3
        rw [hway] at hmes len51
        rw [hw3]
        simp only [List.length_cons] at hmes len51
        exact .inr (by omega)
      · exact .inl (by omega)
    intro J3 hJ3
    have j3 : ∀ w24, Keep w23 w24 → J3 () w24 := by
      intro w24 k24
      apply hJ3
      intro J4 hJ4
      have j4 : ∀ w25, Keep w23 w25 → J4 () w25 := by
        intro w25 k25
        apply hJ4
        have d25 := k25.tr (Mod.drew (Mod.refl _ w25))
        obtain ⟨b, hb, cb⟩ := xc d25
        refine ⟨⟨by omega, by omega⟩, onSome_i hb (ld1_i (k := .int .i64) x cb (cond_i (fun hyx' => cond_i (fun hyp => ?_) (fun _ => done _ d25)) (fun _ => done _ d25)))⟩
        have hne1 : p.way.head? ≠ some y := fun e => by
          rw [hway] at e
          have : x = y := by simpa using e
          rw [this] at hyx'; simp at hyx'
        obtain ⟨m1, i1, e1, hk⟩ := hS.off hne1 (by simpa using hyp)
        have l1 : 1 ≤ z2.2.length := by omega
        obtain ⟨a1, sl1, ha1, _, _, hc1⟩ := (q23.keep d25).get (i := 0) (p := m1) (by rw [e1]; rfl)
        refine cond_d (fun h => by omega) (fun _ => ⟨⟨by omega, by omega⟩, onSome_i ha1 (ld1_i (k := .int .i64) m1.kind (hc1 0 _ rfl) ?_)⟩)
        rcases hk with ⟨hk5, hkw⟩ | hk6
        · rw [hk5]
          refine cond_i (fun h => by simp at h) (fun _ => ⟨⟨by omega, by omega⟩, onSome_i ha1 (ld1_i (k := .int .i64) (5 : Int) (by have := hc1 0 _ rfl; rw [hk5] at this; exact this) (cond_i (fun _ => ?_) (fun h => by simp at h)))⟩)
          obtain ⟨b2, hb2, cb2⟩ := yc d25
          refine ⟨⟨by omega, by omega⟩, onSome_i ha1 (ld1_i (k := .int .i64) m1.weight (hc1 4 _ rfl) ⟨⟨by omega, by omega⟩, onSome_i hb2 (ld1_i (k := .int .i64) (dsv ds y) cb2 (cond_i (fun h => by rw [hkw] at h; simp at h) (fun _ => done _ d25)))⟩)⟩
        · rw [hk6]
          have c6 : w25.drew.cell? ((a1.add (0 * 9)).add 0) = some (.int .i64 6) := by have := hc1 0 _ rfl; rw [hk6] at this; exact this
          refine cond_i (fun _ => ⟨⟨by omega, by omega⟩, onSome_i ha1 (ld1_i (k := .int .i64) (6 : Int) c6 (cond_i (fun h => by simp at h) (fun _ => ⟨⟨by omega, by omega⟩, onSome_i ha1 (ld1_i (k := .int .i64) (6 : Int) c6 (cond_i (fun h => by simp at h) (fun _ => done _ d25)))⟩)))⟩) (fun h => by simp at h)
      have d24 := k24.tr (Mod.drew (Mod.refl _ w24))
      obtain ⟨b, hb, cb⟩ := xc d24
      refine ⟨⟨by omega, by omega⟩, onSome_i hb (ld1_i (k := .int .i64) x cb (cond_i (fun hyx' => ?_) (fun _ => j4 _ d24)))⟩
      have e : y = x := by simpa using hyx'
      obtain ⟨o1, o2, _⟩ := hS.on (by rw [hway, e]; rfl)
      obtain ⟨b2, hb2, cb2⟩ := yc d24
      obtain ⟨b3, hb3, cb3⟩ := pc d24
      have h24 := h23.keep d24
      obtain ⟨pe, hpe, _, _, _, cw⟩ := (hgv h24).edge hy
      refine cond_i (fun h => by rw [q20l, o1] at h; simp at h) (fun _ => ⟨⟨by omega, by omega⟩, onSome_i hb2 (ld1_i (k := .int .i64) (dsv ds y) cb2 ⟨⟨by omega, by omega⟩, onSome_i hb3 (ld1_i (k := .int .i64) (dsv ds p.pos) cb3 (ld1_i (k := .slice) g.2.1 (own3 (ogA h24)).2.1 ⟨⟨by omega, by omega⟩, onSome_i hpe (ld1_i (k := .int .i64) (G.wt y) cw ?_)⟩))⟩)⟩)
      have bp := b9 _ _ (far_get hd hF.pos)
      have wy := ok.w1 hy
      simp only [BW] at bp
      rw [w64 (n := dsv ds p.pos - G.wt y) (by omega) (by omega)]
      refine cond_i (fun h => by rw [o2] at h; simp at h) (fun _ => j4 _ d24)
    obtain ⟨b2, hb2, cb2⟩ := yc (Mod.refl _ _)
    have kc : w23.cell? ((⟨w20.heap.size, 0, none⟩ : Addr).add 0) = some (.int .i64 m.kind) := own_at o23 rfl
    refine ⟨⟨by omega, by omega⟩, onSome_i hb2 (ld1_i (k := .int .i64) (dsv ds y) cb2 (cond_i (fun h0 => ?_) (fun h0 => ?_)))⟩
    · refine ld1_i (k := .int .i64) m.kind kc (cond_i (fun h => ?_) (fun _ => j3 _ (Mod.refl _ _)))
      rw [e8 (by simpa using h0)] at h; simp at h
    · have hn0 : dsv ds y ≠ 0 := by simpa using h0
      refine ⟨⟨by omega, by omega⟩, onSome_i hb2 (ld1_i (k := .int .i64) (dsv ds y) cb2 (cond_d (fun hl0 => ?_) (fun hg0 => ?_)))⟩
      · refine ld1_i (k := .int .i64) m.kind kc (cond_i (fun h => ?_) (fun _ => j3 _ (Mod.refl _ _)))
        rw [e6 hl0] at h; simp at h
      · have d23 : Keep w23 w23.drew := Mod.drew (Mod.refl _ _)
        obtain ⟨e71, e72⟩ := e7 (by omega)
        obtain ⟨b3, hb3, cb3⟩ := yc d23
        refine ld1_i (k := .int .i64) m.kind (d23.cell kc id) (cond_i (fun h => by rw [e71] at h; simp at h) (fun _ => ?_))
        have lc : w23.drew.cell? (((⟨w20.heap.size, 0, none⟩ : Addr).add 5).add 3) = some (.int .i64 m.hint.left) := by
          rw [add_add]; exact own_at (o23.mod d23 id) rfl
        refine ld1_i (k := .int .i64) m.hint.left lc ⟨⟨by omega, by omega⟩, onSome_i hb3 (ld1_i (k := .int .i64) (dsv ds y) cb3 (cond_i (fun h => by rw [e72] at h; simp at h) (fun _ => j3 _ d23)))⟩
  refine cond_d (fun hlt2 => ?_) (fun hge2 => ?_)
  · have hn' : n < ys.length := by omega
    have d14 : Keep w14 w14.drew := Mod.drew (Mod.refl _ w14)
    have hget := List.getElem?_eq_getElem hn'
    generalize ys[n] = u at *
    have h14d := h14.keep d14
    obtain ⟨b, hb, cb⟩ := rd_cell (k := .int .i64) (e := fun x => x) (hof.mod (k0.tr h14d.k0) eI_ne fun _ _ => id) hget
    rw [Int.toNat_natCast]
    refine ⟨⟨by omega, by omega⟩, onSome_i hb (ld1_i (k := .int .i64) u cb (ld1_i (k := .slice) g.2.1 (own3 (ogA h14d)).2.1 ?_))⟩
    rw [gl]
    refine Round_i (by omega) (by omega) (j2 _ _ ⟨Int.emod_nonneg _ (by omega), Int.emod_lt_of_pos _ (by omega)⟩ d14 fun h => by omega)
  · exact j2 x w14 (okp.wE x (by rw [hway]; simp)) (Mod.refl _ _) fun _ => rfl
end Go.Proofs.YtjjgcimlmjnaeaaGreat

/-
  Arguments: bools.
-/
namespace Go.Proofs.YtjjgcimlmjnaeaaGreat
open Go Go.Den Go.ChangeShapes Go.WideShapes Go.ChangeAt Go.RowKit
end Go.Proofs.YtjjgcimlmjnaeaaGreat
