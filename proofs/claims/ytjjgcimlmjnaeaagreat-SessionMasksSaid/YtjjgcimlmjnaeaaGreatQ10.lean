/-
  Chapter 28's laws: SessionStays, SessionMasks.
-/
import Derived.Test.YtjjgcimlmjnaeaaGreatQ9
import Derived.Test.YtjjgcimlmjnaeaaGreatA5
namespace Go.Proofs.YtjjgcimlmjnaeaaGreat
open Go Go.Den

theorem start28_i {l : Sl} {xs : List Int} {at_ node : Int} {W : World} {Qf : World → Prop} {K : Addr → Option Addr → Int → Int → World → Prop} (hl : Rd W l 1 eI xs)
    (hK : ∀ g G E A w', EngIs w' E G → GvIs w' g G → OkG G → Own w' A tAGraph (gcs g) → Keep W w' → W.heap.size ≤ A → G.isE (at_ % G.m) → G.isN (node % G.n) → K ⟨A, 0, none⟩ (some ⟨E.e, 0, none⟩) (at_ % G.m) (node % G.n) w') :
    F_law28_made l W fun (t1 : GT) (p1 : Option Addr) w2 => allocD w2 #[Value.slice none 0 0, Value.slice none 0 0, Value.slice none 0 0] tAGraph fun a1 w3 => storeD Tryz.prog tAGraph a1 (Value.agg #[(Value.slice t1.1.b t1.1.l t1.1.c), (Value.slice t1.2.1.b t1.2.1.l t1.2.1.c), (Value.slice t1.2.2.1.b t1.2.2.1.l t1.2.2.1.c)]) w3 fun w4 =>
      cond (Option.isNone p1) (Qf w4) (ld1 .slice w4.drew (a1.add 1) fun (s1 : Sl) => ld1 .slice w4.drew (a1.add 0) fun (s2 : Sl) => F_alike_Round at_ ((s1.l : Nat) : Int) w4.drew fun (x1 : Int) w5 =>
        w5.cell? (a1.add 0) = some (Value.slice s2.b s2.l s2.c) ∧ F_alike_Round node ((s2.l : Nat) : Int) w5 fun (x2 : Int) w6 => K a1 p1 x1 x2 w6) := by
  refine made28_i hl fun g G E w2 hE hg ok hn k2 => ?_
  refine agg_new (vs := gcs g) size_AGraph rfl (gone1 g) fun w4 o4 k4 z4 => ?_
  have hm := ok.m1
  have hn1 := ok.n1
  have gl : g.2.1.l = G.m := hg.ed.len
  have gn : g.1.l = G.n := hg.nd.len
  refine cond_i (fun h => by simp at h) (fun _ => ?_)
  have d4 : Keep w4 w4.drew := Mod.drew (Mod.refl _ w4)
  have o4d := o4.mod d4 id
  refine ld1_i (k := .slice) g.2.1 (own3 o4d).2.1 (ld1_i (k := .slice) g.1 (own3 o4d).1 ?_)
  rw [gl, gn]
  refine Round_i (by omega) (by omega) ⟨by rw [← gn]; exact (own3 o4d).1, Round_i (by omega) (by omega) ?_⟩
  exact hK g G E _ w4.drew ((hE.keep k4).keep d4) ((hg.keep k4).keep d4) ok o4d ((k2.tr k4).tr d4) k2.size ⟨Int.emod_nonneg _ (by omega), Int.emod_lt_of_pos _ (by omega)⟩ ⟨Int.emod_nonneg _ (by omega), Int.emod_lt_of_pos _ (by omega)⟩
theorem MsgsIs.part {w : World} {P : Nat → Prop} {s : Sl} {l : List MsgP} (h : MsgsIs w P s l) {i : Nat} (hi : i ≤ l.length) : MsgsIs w P ⟨sliceAddr s.b s.c i 9, s.l - i, s.c - i⟩ (l.drop i) := by
  have hlen := h.len
  obtain ⟨xs, h1, h2, h3, h4⟩ := h
  have hp := h1.part (i := i) (j := s.l) (c := s.c) (by omega) (Nat.le_refl _) h1.cap (Nat.le_refl _)
  have hx : xs.length = s.l := h1.len.symm
  rw [List.take_of_length_le (by rw [List.length_drop]; omega)] at hp
  refine ⟨xs.drop i, hp, by rw [List.map_drop, h2], fun b hb => ?_, fun x hx => h4 x (List.mem_of_mem_drop hx)⟩
  obtain ⟨a0, ha0, e⟩ := slice_blk hb
  rw [e]; exact h3 a0 ha0
end Go.Proofs.YtjjgcimlmjnaeaaGreat

/-
  Chapter 28's laws: SessionMasks.
-/
namespace Go.Proofs.YtjjgcimlmjnaeaaGreat
open Go Go.Den

theorem pushI_i {w : World} {B : Nat} {o : Sl} {xs : List Int} {x : Int} {K : Sl → World → Prop} (v : Vec w tInt 1 eI o xs) (hl : xs.length < 100000) (fB : ∀ b, o.b = some b → B ≤ b.block) (hB : B ≤ w.heap.size)
    (hK : ∀ r w', Vec w' tInt 1 eI r (xs ++ [x]) → (∀ b, r.b = some b → B ≤ b.block) → Mod (fun k => B ≤ k) w w' → K r w') : allocD w #[Value.int .i64 x] tInt fun a w4 => appendD Tryz.prog tsInt tsInt o (Value.slice (some a) 1 1) w4 K := by
  refine alloc_i fun w4 o4 k4 z4 => ?_
  have vx : Vec w4 tInt 1 eI ⟨some ⟨w.heap.size, 0, none⟩, 1, 1⟩ [x] := Vec.new lenI [x] o4 (by simp [maxLen])
  refine append_i elem_sInt lenI oneI (v.mod k4 fun _ _ => id) (vx.rd lenI) (by simp only [List.length_cons, List.length_nil]; omega) (by simp only [List.length_cons, List.length_nil]; omega) fun r w5 v5 m5 f5 _ => ?_
  refine hK r w5 v5 (fun b hb => ?_) (k4.wk.tr (m5.mono fun k _ ⟨b, hb, e⟩ => by rw [e]; exact fB b hb))
  rcases f5 with h1 | ⟨a, ha, hlt'⟩
  · exact fB b (by rw [← h1]; exact hb)
  · rw [hb] at ha; cases ha; omega
theorem filt_len {c : List Bool} {i : Nat} : ((ints i).filter fun e => shutB c e).length ≤ i := by
  have := List.length_filter_le (fun e => shutB c e) (ints i)
  rw [ints_len] at this; exact this
theorem filt_succ {c : List Bool} {i : Nat} : (ints (i + 1)).filter (fun e => shutB c e) = (ints i).filter (fun e => shutB c e) ++ if shutB c (i : Int) = true then [(i : Int)] else [] := by
  rw [ints_succ, List.filter_append]
  congr 1
  by_cases ht : shutB c (i : Int) = true <;> simp [ht]
/-- The places of true, listed. -/
theorem listB_i {s : Sl} {c : List Bool} {w : World} {Q : (Sl × Int × Unit) → World → Prop} (hr : Rd w s 1 eB c) (hl : c.length ≤ 10000) (hQ : ∀ r i w', Vec w' tInt 1 eI r ((ints c.length).filter fun e => shutB c e) → Keep w w' → (∀ b, r.b = some b → w.heap.size ≤ b.block) → Q (r, i, ()) w') :
    ∀ X1 : (Sl × Int × Unit) → World → Prop, (∀ (t5 : Sl × Int × Unit) (w13 : World), (
      cond (decide (t5.2.1 < ((s.l : Nat) : Int))) ((0 ≤ t5.2.1 ∧ t5.2.1 < ((s.l : Nat) : Int)) ∧ onSome s.b fun a3 => ld1 .bool w13 (a3.add (Int.toNat t5.2.1 * 1)) fun (b5 : Bool) =>
        cond b5 (allocD w13 #[Value.int .i64 t5.2.1] tInt fun a4 w14 => appendD Tryz.prog tsInt tsInt t5.1 (Value.slice (some a4) 1 1) w14 fun (s7 : Sl) w15 => X1 (s7, (IntKind.wrap .i64 (t5.2.1 + (1 : Int))), ()) w15)
        (X1 (t5.1, (IntKind.wrap .i64 (t5.2.1 + (1 : Int))), ()) w13)) (Q t5 w13)) → X1 t5 w13) → X1 (⟨none, 0, 0⟩, (0 : Int), ()) w := by
  have hll := hr.len
  refine loop_i (fun n t w2 => ∃ (i : Nat) (o : Sl), i ≤ c.length ∧ n = c.length - i ∧ t = (o, (i : Int), ()) ∧ Keep w w2 ∧ Vec w2 tInt 1 eI o ((ints i).filter fun e => shutB c e) ∧ (∀ b, o.b = some b → w.heap.size ≤ b.block)) c.length
    ⟨0, ⟨none, 0, 0⟩, Nat.zero_le _, rfl, rfl, Mod.refl _ _, Vec.nil _ _ _ _, fun b hb => by cases hb⟩ ?_
  rintro n t w2 ⟨i, o, hi, rfl, rfl, k2, v2, f2⟩ X hX
  dsimp only
  refine cond_d (fun hlt => ?_) (fun hge => ?_)
  · have hi' : i < c.length := by omega
    have hget := shutB_get (c := c) (e := (i : Int)) (by omega) (by omega)
    rw [Int.toNat_natCast] at hget ⊢
    obtain ⟨a, ha, hc⟩ := rd_cell (k := .bool) (e := fun x => x) (hr.mod k2 eB_ne fun _ _ => id) hget
    have hfl := filt_len (c := c) (i := i)
    have hsucc := filt_succ (c := c) (i := i)
    rw [wi_ i (by omega)]
    refine ⟨⟨by omega, hlt⟩, onSome_i ha (ld1_i (k := .bool) (shutB c (i : Int)) hc (cond_i (fun ht => ?_) (fun ht => ?_)))⟩
    · have ht' : shutB c (i : Int) = true := ht
      rw [if_pos ht'] at hsucc
      refine pushI_i (B := w.heap.size) v2 (by omega) f2 k2.size fun r w5 v5 f5 m5 => ?_
      exact hX _ _ _ (by omega) ⟨i + 1, r, hi', rfl, rfl, k2.fresh m5 fun k e => e, by rw [hsucc]; exact v5, f5⟩
    · have ht' : shutB c (i : Int) = false := ht
      rw [if_neg (by rw [ht']; simp), List.append_nil] at hsucc
      exact hX _ _ _ (by omega) ⟨i + 1, o, hi', rfl, rfl, k2, by rw [hsucc]; exact v2, f2⟩
  · have ei : i = c.length := by omega
    subst ei
    exact hQ o _ w2 v2 k2 f2
theorem SessionMasks_i {l shut : Sl} {xs ys : List Int} {at_ node : Int} {W : World} {Q : Bool → World → Prop} (hl : Rd W l 1 eI xs) (hsh : Rd W shut 1 eI ys) (hQ : ∀ w', Keep W w' → Q true w') : F_law28_SessionMasks l at_ node shut W Q := by
  unfold F_law28_SessionMasks
  have hsl := hsh.len
  refine cond_d (fun _ => awake28_i hQ) (fun _ => cond_d (fun _ => awake28_i hQ) (fun hs30 => ?_))
  refine start28_i hl fun g G E A wa hE hg ok oA ka zA ha hv => ?_
  have hm := ok.m1
  refine ldN_i (l := [.slice, .slice, .slice]) g (own_g (g := g) oA) ?_
  refine Shut_i hg ok (hsh.mod ka eI_ne fun _ _ => id) (by omega) fun s3 c w0 hcl vc kb fb => ?_
  have k0 := ka.tr kb
  have hE0 := hE.keep kb
  have hg0 := hg.keep kb
  have oA0 := oA.mod kb id
  refine SNew_i hE0 (c := c) (vc.rd lenB) (fun hb => absurd ⟨ha, hv⟩ hb) fun _ _ z ms w1 hz h1 ok1 q1 l1 k1 => ?_
  have q1l := q1.len
  have W0 := k0.size
  have z1 := k1.size
  generalize hs : w0.heap.size = s at *
  generalize hae : at_ % (G.m : Int) = a at *
  generalize hve : node % (G.n : Int) = v at *
  refine cond_i (fun h => by simp at h) (fun _ => cond_i (fun h => by simp at h) (fun _ => ?_))
  simp only [List.length_cons] at q1l
  refine cond_d (fun h => by omega) (fun _ => ?_)
  obtain ⟨a0, sl0, hb0, _, _, hc0⟩ := q1.get (i := 0) rfl
  refine ⟨⟨by omega, by omega⟩, onSome_i hb0 (ld1_i (k := .int .i64) (4 : Int) (hc0 0 _ rfl) (cond_i (fun h => by simp at h) (fun _ => ?_)))⟩
  have slt := h1.lt
  have up : ∀ {wx wy : World}, Keep W wx → Mod (fun k => k = s) wx wy → Keep W wy := fun kx m => kx.fresh m fun k e => by rw [show k = s from e]; omega
  have oA1 := oA0.mod k1 id
  have vc1 := vc.mod k1 fun _ _ => id
  have hg1 : GvIs w1 g G := hg0.keep k1
  refine ldN_i (l := [.slice, .slice, .slice]) g (own_g (g := g) oA1) ?_
  -- all that is behind the first way
  have rest : ∀ w10 s5 b3 l5, Keep w1 w10 → Vec w10 tInt 1 eI s5 l5 → l5.length ≤ 51 → z.1.has = b3 → z.1.way = l5 → (b3 = true → ∃ m wt, z.2 = [mRoute l5 wt, m]) → (b3 = false → z.2 = [mNoRoute] ∧ z.1.over = false) →
      F_session_Session_Left (some ⟨s, 0, none⟩) w10 fun (s6 : Sl) (b4 : Bool) w11 => ∀ J1 : (Unit) → World → Prop, (∀ (t4 : Unit) (w12 : World), (
      ∀ X1 : (Sl × Int × Unit) → World → Prop, (∀ (t5 : Sl × Int × Unit) (w13 : World), (cond (decide (t5.2.1 < ((s3.l : Nat) : Int))) ((0 ≤ t5.2.1 ∧ t5.2.1 < ((s3.l : Nat) : Int)) ∧ onSome s3.b fun a3 => ld1 .bool w13 (a3.add (Int.toNat t5.2.1 * 1)) fun (b5 : Bool) =>
        cond b5 (allocD w13 #[Value.int .i64 t5.2.1] tInt fun a4 w14 => appendD Tryz.prog tsInt tsInt t5.1 (Value.slice (some a4) 1 1) w14 fun (s7 : Sl) w15 => X1 (s7, (IntKind.wrap .i64 (t5.2.1 + (1 : Int))), ()) w15) (X1 (t5.1, (IntKind.wrap .i64 (t5.2.1 + (1 : Int))), ()) w13))
      (F_session_Session_Changed (some ⟨s, 0, none⟩) ⟨none, 0, 0⟩ t5.1 ⟨none, 0, 0⟩ w13 fun (s8 : Sl) w16 => F_session_Session_Left (some ⟨s, 0, none⟩) w16 fun (s9 : Sl) (b6 : Bool) w17 =>
        cond b4 (cond (((s8.l : Nat) : Int) == (0 : Int)) (F_alike_Ints s9 s6 w17 fun (b7 : Bool) w18 => cond b7 (F_law28_awake w18 fun (b8 : Bool) w19 => Q b8 w19) (Q false w18)) (Q false w17))
        (ldN [.slice, .slice, .slice] w17 ⟨A, 0, none⟩ fun (t6 : Sl × Sl × Sl × Unit) => F_ref4_Way (t6.1, t6.2.1, t6.2.2.1, ()) a v ⟨none, 0, 0⟩ w17 fun (s10 : Sl) (b9 : Bool) w20 =>
          ∀ J2 : (Bool × Unit) → World → Prop, (∀ (t7 : Bool × Unit) (w21 : World), (cond (b6 == t7.1) (cond ((decide (((s8.l : Nat) : Int) > (0 : Int))) == t7.1) (cond (!t7.1) (F_law28_awake w21 fun (b10 : Bool) w22 => Q b10 w22)
            (F_alike_Ints s9 s10 w21 fun (b11 : Bool) w23 => cond b11 (F_law28_awake w23 fun (b12 : Bool) w24 => Q b12 w24) (Q false w23))) (Q false w21)) (Q false w21)) → J2 t7 w21) →
          cond b9 (J2 ((decide (((t5.1.l : Nat) : Int) > (0 : Int))), ()) w20) (J2 (false, ()) w20)))) → X1 t5 w13) → X1 (⟨none, 0, 0⟩, (0 : Int), ()) w12) → J1 t4 w12) →
      cond (!(b4 == b3)) (Q false w11) (F_alike_Ints s6 s5 w11 fun (b13 : Bool) w25 => cond (!b13) (Q false w25) (cond b3
        ((0 ≤ (1 : Int) ∧ (1 : Int) < ((ms.l : Nat) : Int)) ∧ onSome ms.b fun a5 => ld1 (.int .i64) w25 ((a5.add (Int.toNat (1 : Int) * 9)).add 0) fun (x5 : Int) => cond (x5 != (5 : Int)) (Q false w25)
          ((0 ≤ (1 : Int) ∧ (1 : Int) < ((ms.l : Nat) : Int)) ∧ onSome ms.b fun a6 => ld1 .slice w25 ((a6.add (Int.toNat (1 : Int) * 9)).add 3) fun (s11 : Sl) => F_alike_Ints s11 s5 w25 fun (b14 : Bool) w26 => cond (!b14) (Q false w26)
            (cond (!b3) ((0 ≤ (1 : Int) ∧ (1 : Int) < ((ms.l : Nat) : Int)) ∧ onSome ms.b fun a7 => ld1 (.int .i64) w26 ((a7.add (Int.toNat (1 : Int) * 9)).add 0) fun (x6 : Int) => cond (x6 != (6 : Int)) (Q false w26) (J1 (()) w26)) (J1 (()) w26))))
        (cond (!b3) ((0 ≤ (1 : Int) ∧ (1 : Int) < ((ms.l : Nat) : Int)) ∧ onSome ms.b fun a8 => ld1 (.int .i64) w25 ((a8.add (Int.toNat (1 : Int) * 9)).add 0) fun (x7 : Int) => cond (x7 != (6 : Int)) (Q false w25) (J1 (()) w25)) (J1 (()) w25)))) := by
    intro w10 s5 b3 l5 k10 v5 hl5 hb3 hway hyes hno
    have h10 := h1.keep k10
    refine Left_i h10 ok1.len ok1.none fun s6 w11 v6 k11 f6 => ?_
    have K11 := k10.tr k11
    intro J1 hJ1
    rw [hway] at v6
    have j1 : ∀ w12, Keep w11 w12 → J1 () w12 := by
      intro w12 k12
      apply hJ1
      have K12 := K11.tr k12
      have vc12 := vc1.mod K12 fun _ _ => id
      refine listB_i (vc12.rd lenB) (by omega) fun all _ w13 vall k13 fall => ?_
      dsimp only
      have K13 := K12.tr k13
      have h13 := h1.keep K13
      have hfl := filt_len (c := c) (i := c.length)
      have vallr := vall.rd lenI
      have alll := vallr.len
      have z13 := K13.size
      have hlt1 : w1.heap.size ≤ w13.heap.size := z13
      refine Changed_i h13 ok1 (sh := []) (Rd.nil _ _ _) (by simp) vallr (c := []) (Rd.nil _ _ _) (fun k hk => by omega) fun z2 ms2 w16 hz2 h16 ok16 q16 l16 m16 => ?_
      have q16l := q16.len
      refine Left_i h16 ok16.len ok16.none fun s9 w17 v9 k17 f9 => ?_
      have KW17 : Keep W w17 := (up ((k0.tr k1).tr K13) m16).tr k17
      refine cond_i (fun hb4 => ?_) (fun hb4 => ?_)
      · have hh : z.1.has = true := hb4
        have e2 : z2 = (z.1, []) := by
          unfold ChgR at hz2
          by_cases hov : z.1.over = true
          · rw [if_pos hov] at hz2; exact hz2
          · rw [if_neg hov, if_pos hh, if_neg (by simp)] at hz2; exact hz2
        rw [e2] at q16l v9
        refine cond_i (fun _ => ?_) (fun h => by rw [q16l] at h; simp at h)
        rw [show (z.1, ([] : List MsgP)).1.way = z.1.way from rfl, hway] at v9
        have v6b := (((v6.mod (k12.tr k13) fun _ _ => id).mod m16 fun b hb e => by have := f6 b hb; have e' : b.block = s := e; have := k10.size; omega).mod k17 fun _ _ => id)
        refine Ints_i (v9.rd lenI) (v6b.rd lenI) (by omega) fun r w18 k18 hr => cond_i (fun _ => ?_) (fun h => by rw [hr.2 rfl] at h; cases h)
        exact awake28_i fun w' k' => hQ w' ((KW17.tr k18).tr k')
      · have hh : z.1.has = false := hb4
        have hb3' : b3 = false := by rw [← hb3]; exact hh
        obtain ⟨_, hov⟩ := hno hb3'
        have m117 : Mod (fun k => k = s) w1 w17 := (K13.wk.tr m16).tr k17.wk
        have oA17 : Own w17 A tAGraph (gcs g) := oA1.mod m117 (by have := oA0.lt; omega)
        have h17 := h16.keep k17
        have hg17 : GvIs w17 g G := hg0.keep h17.k0
        have hpos : z.1.pos = a ∧ z.1.node = v := by
          obtain ⟨l', w', f', r', _, rfl⟩ := hz
          have := askW_pos G (ses0 a v) l' w' f'
          exact ⟨this.1, this.2.1⟩
        refine ldN_i (l := [.slice, .slice, .slice]) g (own_g (g := g) oA17) ?_
        have wl16 := ok16.len
        have zero : ∀ w20, Keep w17 w20 → z2.1.has = false → z2.2 = [] → ∀ J2 : (Bool × Unit) → World → Prop, (∀ (t7 : Bool × Unit) (w21 : World), (cond (z2.1.has == t7.1) (cond ((decide (((ms2.l : Nat) : Int) > (0 : Int))) == t7.1) (cond (!t7.1) (F_law28_awake w21 fun (b10 : Bool) w22 => Q b10 w22)
            (F_alike_Ints s9 ⟨none, 0, 0⟩ w21 fun (b11 : Bool) w23 => cond b11 (F_law28_awake w23 fun (b12 : Bool) w24 => Q b12 w24) (Q false w23))) (Q false w21)) (Q false w21)) → J2 t7 w21) → J2 (false, ()) w20 := by
          intro w20 k20 e1 e2 J2 hJ2
          apply hJ2
          rw [e1, q16l, e2]
          refine cond_i (fun _ => cond_i (fun _ => cond_i (fun _ => ?_) (fun h => by simp at h)) (fun h => by simp at h)) (fun h => by simp at h)
          exact awake28_i fun w' k' => hQ w' ((KW17.tr k20).tr k')
        have zero' : ∀ w20 s10, Keep w17 w20 → z2.1.has = false → z2.2 = [] → ∀ J2 : (Bool × Unit) → World → Prop, (∀ (t7 : Bool × Unit) (w21 : World), (cond (z2.1.has == t7.1) (cond ((decide (((ms2.l : Nat) : Int) > (0 : Int))) == t7.1) (cond (!t7.1) (F_law28_awake w21 fun (b10 : Bool) w22 => Q b10 w22)
            (F_alike_Ints s9 s10 w21 fun (b11 : Bool) w23 => cond b11 (F_law28_awake w23 fun (b12 : Bool) w24 => Q b12 w24) (Q false w23))) (Q false w21)) (Q false w21)) → J2 t7 w21) → J2 (false, ()) w20 := by
          intro w20 s10 k20 e1 e2 J2 hJ2
          apply hJ2
          rw [e1, q16l, e2]
          refine cond_i (fun _ => cond_i (fun _ => cond_i (fun _ => ?_) (fun h => by simp at h)) (fun h => by simp at h)) (fun h => by simp at h)
          exact awake28_i fun w' k' => hQ w' ((KW17.tr k20).tr k')
        have z2cases : (((ints c.length).filter fun e => shutB c e) = [] ∧ z2 = (z.1, [])) ∨ (((ints c.length).filter fun e => shutB c e) ≠ [] ∧ ∃ z', AskR G [] z.1 z' ∧ z2 = (z'.1, if z'.1.has = true then z'.2 else [])) := by
          unfold ChgR at hz2
          rw [if_neg (by rw [hov]; simp), if_neg (by rw [hh]; simp)] at hz2
          split at hz2
          · rename_i e; exact .inl ⟨e, hz2⟩
          · rename_i e; exact .inr ⟨e, hz2⟩
        refine RWay_i hg17 ok (c := []) (Rd.nil _ _ _) (fun w20 k20 hnone => ?_) fun d1 l10 s10 w20 _ _ hd1 hl10 v10 k20 f10 => ?_
        · intro J2 hJ2
          have e : z2.1.has = false ∧ z2.2 = [] := by
            rcases z2cases with ⟨_, e⟩ | ⟨_, z', hz', e⟩
            · rw [e]; exact ⟨hh, rfl⟩
            · have := hz'.no ok (by rw [hpos.2]; exact hv) fun d => by rw [hpos.1, hpos.2]; exact hnone d hv
              rw [e, this]; exact ⟨rfl, rfl⟩
          exact cond_i (fun h => by simp at h) (fun _ => zero w20 k20 e.1 e.2 J2 hJ2)
        · intro J2 hJ2
          refine cond_i (fun _ => ?_) (fun h => by simp at h)
          rcases z2cases with ⟨e0, e⟩ | ⟨e0, z', hz', e⟩
          · have : decide (((all.l : Nat) : Int) > (0 : Int)) = false := decide_eq_false (by rw [alll, e0]; simp)
            rw [this]
            exact zero' w20 s10 k20 (by rw [e]; exact hh) (by rw [e]) J2 hJ2
          · have : decide (((all.l : Nat) : Int) > (0 : Int)) = true := decide_eq_true (by rw [alll]; have := List.length_pos_iff.2 e0; omega)
            rw [this]
            apply hJ2
            have hl10' : G.LWay [] d1 z.1.pos l10 := by rw [hpos.1]; exact hl10
            obtain ⟨g1, g2, m, g3⟩ := hz'.yes ok (by rw [hpos.1]; exact ha) (by rw [hpos.2]; exact hv) (by rw [hpos.2]; exact hd1) hl10'
            have e1 : z2.1.has = true := by rw [e]; exact g1
            have e2 : z2.1.way = l10 := by rw [e]; exact g2
            have e3 : z2.2.length = 2 := by rw [e]; simp [g1, g3]
            rw [e1]
            have : decide (((ms2.l : Nat) : Int) > (0 : Int)) = true := decide_eq_true (by rw [q16l, e3]; decide)
            rw [this]
            refine cond_i (fun _ => cond_i (fun _ => cond_i (fun h => by simp at h) (fun _ => ?_)) (fun h => by simp at h)) (fun h => by simp at h)
            rw [e2] at v9 wl16
            refine Ints_i ((v9.mod k20 fun _ _ => id).rd lenI) (v10.rd lenI) (by omega) fun r w21 k21 hr => cond_i (fun _ => ?_) (fun h => by rw [hr.2 rfl] at h; cases h)
            exact awake28_i fun w' k' => hQ w' (((KW17.tr k20).tr k21).tr k')
    rw [hb3]
    refine cond_i (fun h => by simp at h) (fun _ => ?_)
    refine Ints_i (v6.rd lenI) ((v5.mod k11 fun _ _ => id).rd lenI) (by omega) fun r w25 k25 hr => cond_i (fun h => by rw [hr.2 rfl] at h; cases h) (fun _ => ?_)
    have q25 := q1.keep (K11.tr k25)
    refine cond_i (fun hb => ?_) (fun hb => ?_)
    · obtain ⟨m, wt, e⟩ := hyes hb
      rw [e] at q25
      obtain ⟨a1, sl1, hb1, x1, _, hc1⟩ := q25.get (i := 1) rfl
      refine ⟨⟨by omega, by omega⟩, onSome_i hb1 (ld1_i (k := .int .i64) (5 : Int) (hc1 0 _ rfl) (cond_i (fun h => by simp at h) (fun _ => ⟨⟨by omega, by omega⟩, onSome_i hb1 (ld1_i (k := .slice) sl1 (hc1 3 _ rfl) ?_)⟩)))⟩
      refine Ints_i x1.rd (((v5.mod k11 fun _ _ => id).mod k25 fun _ _ => id).rd lenI) (by have := x1.len; omega) fun r w26 k26 hr => cond_i (fun h => by rw [hr.2 rfl] at h; cases h) (fun _ => ?_)
      rw [hb]
      exact cond_i (fun h => by simp at h) (fun _ => j1 w26 (k25.tr k26))
    · obtain ⟨e, _⟩ := hno hb
      rw [e] at q25
      obtain ⟨a1, sl1, hb1, x1, _, hc1⟩ := q25.get (i := 1) rfl
      rw [hb]
      refine cond_i (fun _ => ⟨⟨by omega, by omega⟩, onSome_i hb1 (ld1_i (k := .int .i64) (6 : Int) (hc1 0 _ rfl) (cond_i (fun h => by simp at h) (fun _ => j1 w25 k25)))⟩) (fun h => by simp at h)
  refine RWay_i hg1 ok (vc1.rd lenB) (fun w10 k10 hnone => ?_) fun d1 l5 s5 w10 _ _ hd1 hl5 v5 k10 f5 => ?_
  · have e := hz.no ok hv fun d => hnone d hv
    refine rest w10 _ false [] k10 (Vec.nil _ _ _ _) (by simp) (by rw [e]) (by rw [e]) (fun h => by cases h) fun _ => by rw [e]; exact ⟨rfl, rfl⟩
  · obtain ⟨g1, g2, m, g3⟩ := hz.yes ok ha hv hd1 hl5
    have := hl5.len ok
    refine rest w10 s5 true l5 k10 v5 (by omega) g1 g2 (fun _ => ⟨m, _, g3⟩) fun h => by cases h
end Go.Proofs.YtjjgcimlmjnaeaaGreat

/-
  Arguments: bools.
-/
namespace Go.Proofs.YtjjgcimlmjnaeaaGreat
open Go Go.Den Go.ChangeShapes Go.WideShapes Go.ChangeAt Go.RowKit
end Go.Proofs.YtjjgcimlmjnaeaaGreat
