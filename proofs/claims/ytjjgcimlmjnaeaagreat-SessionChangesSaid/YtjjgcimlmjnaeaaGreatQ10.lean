/-
  Chapter 28's laws: SessionStays, SessionMasks.
-/
import Derived.Test.YtjjgcimlmjnaeaaGreatQ9
import Derived.Test.YtjjgcimlmjnaeaaGreatA5
namespace Go.Proofs.YtjjgcimlmjnaeaaGreat
open Go Go.Den

theorem start28_i {l : Sl} {xs : List Int} {at_ node : Int} {W : World} {Qf : World → Prop} {K : Addr → Option Addr → Int → Int → World → Prop} (hl : Rd W l 1 eI xs)
    (hK : ∀ g G E A w', EngIs w' E G → GvIs w' g G → OkG G → Own w' A tAGraph (gcs g) → Keep W w' → W.heap.size ≤ A → G.isE (at_ % G.m) → G.isN (node % G.n) → K ⟨A, 0, none⟩ (some ⟨E.e, 0, none⟩) (at_ % G.m) (node % G.n) w') :
    F_law28_made l W fun (t1 : GT) (p1 : Option Addr) w2 => allocD w2 #[Value.slice none 0 0, Value.slice none 0 0, Value.slice none 0 0] tAGraph fun a1 w3 => storeD Tryz.prog tAGraph a1 (Value.agg #[(Value.slice t1.1.b t1.1.l t1.1.c), (Value.slice t1.2.1.b t1.2.1.l t1.2.1.c), (Value.slice t1.2.2.1.b t1.2.2.1.l t1.2.2.1.c)]) w3 fun w4 =>
      cond (Option.isNone p1) (Qf w4) (ld1 .slice w4.drew (a1.add 1) fun (s1 : Sl) => ld1 .slice w4.drew (a1.add 0) fun (s2 : Sl) => F_alike_Round at_ ((s1.l : Nat) : Int) w4.drew fun (x1 : Int) w5 =>
        w5.cell? (a1.add 0) = some (Value.slice s2.b s2.l s2.c) ∧ F_alike_Round node ((s2.l : Nat) : Int) w5 fun (x2 : Int) w6 => K a1 p1 x1 x2 w6) := by
  refine made28_i hl fun g G E w2 hE hg ok hn k2 => ?_
  refine agg_new (vs := gcs g) size_AGraph rfl (gone1 g) fun w4 o4 k4 z4 => ?_
  have hm := ok.m1
  have hn1 := ok.n1
  have gl : g.2.1.l = G.m := hg.ed.len
  have gn : g.1.l = G.n := hg.nd.len
  refine cond_i (fun h => by simp at h) (fun _ => ?_)
  have d4 : Keep w4 w4.drew := Mod.drew (Mod.refl _ w4)
  have o4d := o4.mod d4 id
  refine ld1_i (k := .slice) g.2.1 (own3 o4d).2.1 (ld1_i (k := .slice) g.1 (own3 o4d).1 ?_)
  rw [gl, gn]
  refine Round_i (by omega) (by omega) ⟨by rw [← gn]; exact (own3 o4d).1, Round_i (by omega) (by omega) ?_⟩
  exact hK g G E _ w4.drew ((hE.keep k4).keep d4) ((hg.keep k4).keep d4) ok o4d ((k2.tr k4).tr d4) k2.size ⟨Int.emod_nonneg _ (by omega), Int.emod_lt_of_pos _ (by omega)⟩ ⟨Int.emod_nonneg _ (by omega), Int.emod_lt_of_pos _ (by omega)⟩
theorem MsgsIs.part {w : World} {P : Nat → Prop} {s : Sl} {l : List MsgP} (h : MsgsIs w P s l) {i : Nat} (hi : i ≤ l.length) : MsgsIs w P ⟨sliceAddr s.b s.c i 9, s.l - i, s.c - i⟩ (l.drop i) := by
  have hlen := h.len
  obtain ⟨xs, h1, h2, h3, h4⟩ := h
  have hp := h1.part (i := i) (j := s.l) (c := s.c) (by omega) (Nat.le_refl _) h1.cap (Nat.le_refl _)
  have hx : xs.length = s.l := h1.len.symm
  rw [List.take_of_length_le (by rw [List.length_drop]; omega)] at hp
  refine ⟨xs.drop i, hp, by rw [List.map_drop, h2], fun b hb => ?_, fun x hx => h4 x (List.mem_of_mem_drop hx)⟩
  obtain ⟨a0, ha0, e⟩ := slice_blk hb
  rw [e]; exact h3 a0 ha0
end Go.Proofs.YtjjgcimlmjnaeaaGreat

/-
  Chapter 28's laws: SessionMasks.
-/
namespace Go.Proofs.YtjjgcimlmjnaeaaGreat
open Go Go.Den

end Go.Proofs.YtjjgcimlmjnaeaaGreat

/-
  Chapter 28's laws: SessionFalls.
-/
namespace Go.Proofs.YtjjgcimlmjnaeaaGreat
open Go Go.Den

end Go.Proofs.YtjjgcimlmjnaeaaGreat

/-
  Chapter 28's laws: SessionChanges.
-/
namespace Go.Proofs.YtjjgcimlmjnaeaaGreat
open Go Go.Den

set_option maxRecDepth 100000 in
theorem SessionChanges_i {l shut : Sl} {xs ys : List Int} {at_ node : Int} {W : World} {Q : Bool → World → Prop} (hl : Rd W l 1 eI xs) (hshu : Rd W shut 1 eI ys) (hQ : ∀ w', Keep W w' → Q true w') : F_law28_SessionChanges l at_ node shut W Q := by
  unfold F_law28_SessionChanges
  have hol := hshu.len
  refine cond_d (fun _ => awake28_i hQ) (fun _ => cond_d (fun _ => awake28_i hQ) (fun hs30 => ?_))
  refine start28_i hl fun g G E A w0 hE hg ok oA k0 zA ha hv => ?_
  have hm := ok.m1
  refine SNew_i hE (c := []) (Rd.nil _ _ _) (fun hb => absurd ⟨ha, hv⟩ hb) fun _ _ z ms w1 hz h1 ok1 q1 l1 k1 => ?_
  have gl : g.2.1.l = G.m := hg.ed.len
  generalize hs : w0.heap.size = s at *
  generalize hae : at_ % (G.m : Int) = a at *
  generalize hve : node % (G.n : Int) = v at *
  have slt := h1.lt
  refine cond_i (fun h => by simp at h) (fun _ => cond_i (fun h => by simp at h) (fun _ => ?_))
  have hzp := hz.pos
  refine ld1_i (k := .slice) g.2.1 (own3 (oA.mod h1.k0 id)).2.1 ?_
  rw [gl]
  refine make_i elem_sBool (enc := eB) false rfl lenB (by omega) (Int.le_refl _) (by omega) (by omega) fun w9 v9 k9 => ?_
  simp only [Int.toNat_natCast] at v9 ⊢
  have hcb : w1.heap.size ≠ s := by omega
  generalize hcbe : w1.heap.size = cb at *
  have h9 : SesAt (fun k => k ≤ s ∨ k = cb) w0 w9 s E G z.1 := (h1.more (fun k hk => hk.elim .inl (fun e => .inr (by omega))) (.inl (Nat.le_refl _))).keep k9
  have W0s : w0.heap.size = s := hs
  refine loop_i (fun cc t w10 => ∃ (i : Nat) (c : List Bool) (p : Ses), i ≤ ys.length ∧ cc = ys.length - i ∧ t = ((i : Int), ()) ∧ SesAt (fun k => k ≤ s ∨ k = cb) w0 w10 s E G p ∧ OkS G p ∧ p.pos = a ∧ p.node = v ∧ c.length = G.m ∧ Vec w10 tBool 1 eB ⟨some ⟨cb, 0, none⟩, G.m, G.m⟩ c) ys.length
    ⟨0, _, z.1, Nat.zero_le _, rfl, rfl, h9, ok1, hzp.1, hzp.2, by simp, v9⟩ ?_
  clear h9 v9 k9 hz ok1 q1 l1 hzp
  rintro cc t w10 ⟨i, c, p, hi, rfl, rfl, h10, okp, hpa, hpv, hcl, v10⟩ X hX
  have ogA : ∀ {wx : World} {p : Ses}, SesAt (fun k => k ≤ s ∨ k = cb) w0 wx s E G p → Own wx A tAGraph (gcs g) := fun h => oA.mod h.k0 id
  have hgv : ∀ {wx : World} {p : Ses}, SesAt (fun k => k ≤ s ∨ k = cb) w0 wx s E G p → GvIs wx g G := fun h => hg.keep h.k0
  have KW : ∀ {wx : World} {p : Ses}, SesAt (fun k => k ≤ s ∨ k = cb) w0 wx s E G p → Keep W wx := fun h => k0.tr h.k0
  have len51 := okp.len
  have cblt : cb < w10.heap.size := v10.lt rfl
  have h10lt := h10.lt
  dsimp only
  refine cond_d (fun hlt => ?_) (fun hge => awake28_i fun w' k' => hQ w' ((KW h10).tr k'))
  intro J1 hJ1
  have hi' : i < ys.length := by omega
  have hget := List.getElem?_eq_getElem hi'
  generalize ys[i] = u at *
  have d10 : Keep w10 w10.drew := Mod.drew (Mod.refl _ w10)
  have h10d := h10.keep d10
  obtain ⟨bu, hbu, cbu⟩ := rd_cell (k := .int .i64) (e := fun x => x) (hshu.mod (KW h10d) eI_ne fun _ _ => id) hget
  rw [Int.toNat_natCast]
  refine ⟨⟨by omega, by omega⟩, onSome_i hbu (ld1_i (k := .int .i64) u cbu (ld1_i (k := .slice) g.2.1 (own3 (ogA h10d)).2.1 ?_))⟩
  rw [gl]
  refine Round_i (by omega) (by omega) ?_
  have hk0 : 0 ≤ u % (G.m : Int) := Int.emod_nonneg _ (by omega)
  have hk1 : u % (G.m : Int) < G.m := Int.emod_lt_of_pos _ (by omega)
  generalize u % (G.m : Int) = k at *
  refine Left_i h10d okp.len okp.none fun s7 w13 v7 k13 f7 => ?_
  have h13 := h10d.keep k13
  refine Done_i h13 ?_
  have f7' : ∀ b, s7.b = some b → ¬ (b.block = s ∨ b.block = cb) := fun b hb e => by have := f7 b hb; have e1 : w10.drew.heap.size = w10.heap.size := rfl; omega
  have s7l := v7.len
  have v13 := (v10.mod d10 fun _ _ => id).mod k13 fun _ _ => id
  -- is it on the way?
  refine loop_i (fun cc t w15 => ∃ (j : Nat), j ≤ p.way.length ∧ cc = p.way.length - j ∧ t = (decide (k ∈ p.way.take j), (j : Int), ()) ∧ Keep w13 w15) p.way.length ⟨0, Nat.zero_le _, rfl, by simp, Mod.refl _ _⟩ ?_
  rintro cc t w15 ⟨j, hj, rfl, rfl, k15⟩ Y hY
  dsimp only
  have v7' := v7.mod k15 fun _ _ => id
  refine cond_d (fun hlt2 => ?_) (fun hge2 => ?_)
  · have hj' : j < p.way.length := by omega
    have hget := List.getElem?_eq_getElem hj'
    have htk := List.take_succ_eq_append_getElem hj'
    generalize p.way[j] = x at *
    obtain ⟨b, hb, cb'⟩ := rd_cell (k := .int .i64) (e := fun x => x) (v7'.rd lenI) hget
    rw [wi_ j (by omega), Int.toNat_natCast]
    refine cond_i (fun ht => hY _ _ _ (by omega) ⟨j + 1, hj', rfl, ?_, k15⟩) (fun hf => ⟨⟨by omega, by omega⟩, onSome_i hb (ld1_i (k := .int .i64) x cb' (hY _ _ _ (by omega) ⟨j + 1, hj', rfl, ?_, k15⟩))⟩)
    · have ht' : k ∈ p.way.take j := by simpa using ht
      rw [htk, decide_eq_true (List.mem_append_left _ ht')]
    · have hf' : ¬ k ∈ p.way.take j := by simpa using hf
      have e : (k ∈ p.way.take (j + 1)) ↔ x = k := by
        rw [htk, List.mem_append]
        refine ⟨fun h => h.elim (fun h => absurd h hf') (fun h => (by simpa using h : k = x).symm), fun h => .inr (by simp [h])⟩
      by_cases exk : x = k
      · rw [decide_eq_true (e.2 exk), exk]; simp
      · rw [decide_eq_false (fun h => exk (e.1 h))]; simp [exk]
  have ej : j = p.way.length := by omega
  subst ej
  rw [List.take_length]
  clear hY
  have h15 := h13.keep k15
  have v15 := v13.mod k15 fun _ _ => id
  have h15lt := h15.lt
  have cb15 : cb < w15.heap.size := v15.lt rfl
  intro J2 hJ2
  have j2 : ∀ (on : Bool) sm z2 c' (sh op : List Int) w16, Mod (fun q => q = s ∨ q = cb) w15 w16 → SesAt (fun q => q ≤ s ∨ q = cb) w0 w16 s E G z2.1 → OkS G z2.1 → MsgsIs w16 (fun q => w15.heap.size ≤ q) sm z2.2 → Vec w16 tBool 1 eB ⟨some ⟨cb, 0, none⟩, G.m, G.m⟩ c' → c'.length = G.m → ChgR G c' p sh op z2 →
      (on = true ↔ ∃ x ∈ p.way, x ∈ sh) → (op ≠ [] ↔ shutB c' k = false) → J2 (on, sm, ()) w16 := by
    intro on sm z2 c' sh op w16 m16 h16 ok16 q16 vc hcl' hz2 hon hop
    apply hJ2
    have v716 := v7'.mod m16 f7'
    have q16l := q16.len
    have zp := hz2.pos
    refine ldN_i (l := [.slice, .slice, .slice]) g (own_g (g := g) (ogA h16)) ?_
    -- behind the distance
    have key : ∀ w17 d, Keep w16 w17 → (p.over = false → (p.has = true → ∃ x ∈ p.way, x ∈ sh) → d < 0 → z2.1.has = false ∧ z2.2 = if p.has = true then [mNoRoute] else []) →
        (p.over = false → (p.has = true → ∃ x ∈ p.way, x ∈ sh) → (p.has = true ∨ op ≠ []) → 0 ≤ d → z2.1.has = true ∧ (∃ m, z2.2 = [mRoute z2.1.way d, m]) ∧ ∀ x ∈ z2.1.way, G.isE x ∧ shutB c' x = false) →
        F_session_Session_Left (some ⟨s, 0, none⟩) w17 fun (s8 : Sl) (b5 : Bool) w18 => cond p.over (cond (((sm.l : Nat) : Int) != (0 : Int)) (Q false w18) (J1 (()) w18))
          (∀ J3 : (Bool × Unit) → World → Prop, (∀ (t7 : Bool × Unit) (w19 : World), (cond t7.1 (cond (((sm.l : Nat) : Int) != (0 : Int)) (Q false w19) (cond (!b5) (Q false w19) (F_alike_Ints s8 s7 w19 fun (b6 : Bool) w20 => cond (!b6) (Q false w20) (J1 (()) w20))))
            (cond (decide (d < (0 : Int)))
              (cond b5 (Q false w19) (cond p.has (cond (((sm.l : Nat) : Int) != (1 : Int)) (Q false w19) ((0 ≤ (0 : Int) ∧ (0 : Int) < ((sm.l : Nat) : Int)) ∧ onSome sm.b fun a4 => ld1 (.int .i64) w19 ((a4.add (Int.toNat (0 : Int) * 9)).add 0) fun (x8 : Int) => cond (x8 != (6 : Int)) (Q false w19)
                  (cond (!p.has) (cond (((sm.l : Nat) : Int) != (0 : Int)) (Q false w19) (J1 (()) w19)) (J1 (()) w19))))
                (cond (!p.has) (cond (((sm.l : Nat) : Int) != (0 : Int)) (Q false w19) (J1 (()) w19)) (J1 (()) w19))))
              (∀ J4 : (Bool × Unit) → World → Prop, (∀ (t8 : Bool × Unit) (w21 : World), (cond t8.1 (cond (decide (((sm.l : Nat) : Int) < (2 : Int))) (Q false w21) ((0 ≤ (0 : Int) ∧ (0 : Int) < ((sm.l : Nat) : Int)) ∧ onSome sm.b fun a5 => ld1 (.int .i64) w21 ((a5.add (Int.toNat (0 : Int) * 9)).add 0) fun (x9 : Int) => cond (x9 != (5 : Int)) (Q false w21)
                  ((0 ≤ (0 : Int) ∧ (0 : Int) < ((sm.l : Nat) : Int)) ∧ onSome sm.b fun a6 => ld1 (.int .i64) w21 ((a6.add (Int.toNat (0 : Int) * 9)).add 4) fun (x10 : Int) => cond (x10 != d) (Q false w21) (cond (!b5) (Q false w21)
                  (∀ X3 : (Int × Unit) → World → Prop, (∀ (t9 : Int × Unit) (w22 : World), (cond (decide (t9.1 < ((s8.l : Nat) : Int))) (ldN [.slice, .slice, .slice] w22.drew ⟨A, 0, none⟩ fun (t10 : Sl × Sl × Sl × Unit) => (0 ≤ t9.1 ∧ t9.1 < ((s8.l : Nat) : Int)) ∧ onSome s8.b fun a7 => ld1 (.int .i64) w22.drew (a7.add (Int.toNat t9.1 * 1)) fun (x11 : Int) =>
                    F_ref4_Edge (t10.1, t10.2.1, t10.2.2.1, ()) x11 w22.drew fun (b7 : Bool) w23 => cond (!b7) (Q false w23) ((0 ≤ t9.1 ∧ t9.1 < ((s8.l : Nat) : Int)) ∧ onSome s8.b fun a8 => ld1 (.int .i64) w23 (a8.add (Int.toNat t9.1 * 1)) fun (x12 : Int) =>
                    (0 ≤ x12 ∧ x12 < ((G.m : Nat) : Int)) ∧ onSome (some (⟨cb, 0, none⟩ : Addr)) fun a9 => ld1 .bool w23 (a9.add (Int.toNat x12 * 1)) fun (b8 : Bool) => cond b8 (Q false w23) (X3 ((IntKind.wrap .i64 (t9.1 + (1 : Int))), ()) w23)))
                    (J1 (()) w22)) → X3 t9 w22) → X3 ((0 : Int), ()) w21))))) (J1 (()) w21)) → J4 t8 w21) →
                cond p.has (J4 (true, ()) w19) ((0 ≤ k ∧ k < ((G.m : Nat) : Int)) ∧ onSome (some (⟨cb, 0, none⟩ : Addr)) fun a10 => ld1 .bool w19 (a10.add (Int.toNat k * 1)) fun (b9 : Bool) => J4 ((!b9), ()) w19)))) → J3 t7 w19) →
          cond p.has (J3 ((!on), ()) w18) (J3 (false, ()) w18)) := by
      intro w17 d k17 hA hB
      have h17 := h16.keep k17
      refine Left_i h17 ok16.len ok16.none fun s8 w18 v8 k18 f8 => ?_
      have h18 := h17.keep k18
      have K18 := k17.tr k18
      have done : ∀ w25, Keep w18 w25 → J1 () w25 := by
        intro w25 k25
        apply hJ1
        rw [wi_ i (by omega)]
        exact hX _ _ _ (by omega) ⟨i + 1, c', z2.1, by omega, rfl, rfl, h18.keep k25, ok16, zp.1.trans hpa, zp.2.trans hpv, hcl', (vc.mod K18 fun _ _ => id).mod k25 fun _ _ => id⟩
      refine cond_i (fun ho => ?_) (fun ho => ?_)
      · have ho' : p.over = true := ho
        have e : z2 = (p, []) := by unfold ChgR at hz2; rw [if_pos ho'] at hz2; exact hz2
        rw [e] at q16l
        exact cond_i (fun h => by rw [q16l] at h; simp at h) (fun _ => done _ (Mod.refl _ _))
      have ho' : p.over = false := ho
      have q18 := q16.keep K18
      intro J3 hJ3
      -- what stays
      have jt : p.has = true → on = false → J3 (true, ()) w18 := by
        intro hh hon'
        apply hJ3
        have nm : ¬ ∃ x ∈ p.way, x ∈ sh := fun h => by rw [hon.2 h] at hon'; cases hon'
        have e : z2 = (p, []) := by unfold ChgR at hz2; rw [if_neg (by rw [ho']; simp), if_pos hh, if_neg nm] at hz2; exact hz2
        rw [e] at q16l v8 ⊢
        refine cond_i (fun _ => cond_i (fun h => by rw [q16l] at h; simp at h) (fun _ => cond_i (fun h => by rw [hh] at h; cases h) (fun _ => ?_))) (fun h => by simp at h)
        refine Ints_i (v8.rd lenI) ((v716.mod K18 fun _ _ => id).rd lenI) (by show p.way.length < 1000000; omega) fun r w20 k20 hr => cond_i (fun h => by rw [hr.2 rfl] at h; cases h) (fun _ => done _ k20)
      have jf : (p.has = true → ∃ x ∈ p.way, x ∈ sh) → J3 (false, ()) w18 := by
        intro hmet
        apply hJ3
        refine cond_i (fun h => by simp at h) (fun _ => ?_)
        refine cond_d (fun hd0 => ?_) (fun hd0 => ?_)
        · obtain ⟨e1, e2⟩ := hA ho' hmet hd0
          refine cond_i (fun h => by rw [e1] at h; cases h) (fun _ => cond_i (fun hh => ?_) (fun hh => ?_))
          · have hh' : p.has = true := hh
            rw [if_pos hh'] at e2
            rw [e2] at q16l q18
            simp only [List.length_cons, List.length_nil] at q16l
            obtain ⟨a1, sl1, ha1, _, _, hc1⟩ := q18.get (i := 0) rfl
            refine cond_i (fun h => by rw [q16l] at h; simp at h) (fun _ => ⟨⟨by omega, by omega⟩, onSome_i ha1 (ld1_i (k := .int .i64) (6 : Int) (hc1 0 _ rfl) (cond_i (fun h => by simp at h) (fun _ => cond_i (fun h => by rw [hh'] at h; cases h) (fun _ => done _ (Mod.refl _ _)))))⟩)
          · have hh' : p.has = false := hh
            rw [if_neg (by rw [hh']; simp)] at e2
            rw [e2] at q16l
            exact cond_i (fun _ => cond_i (fun h => by rw [q16l] at h; simp at h) (fun _ => done _ (Mod.refl _ _))) (fun h => by rw [hh'] at h; cases h)
        · intro J4 hJ4
          have j4f : J4 (false, ()) w18 := by
            apply hJ4
            exact cond_i (fun h => by simp at h) (fun _ => done _ (Mod.refl _ _))
          have j4t : (p.has = true ∨ op ≠ []) → J4 (true, ()) w18 := by
            intro hor
            apply hJ4
            obtain ⟨e1, ⟨m, e2⟩, e3⟩ := hB ho' hmet hor (by omega)
            rw [e2] at q16l q18
            simp only [List.length_cons, List.length_nil] at q16l
            obtain ⟨a1, sl1, ha1, _, _, hc1⟩ := q18.get (i := 0) rfl
            refine cond_i (fun _ => cond_d (fun h => by omega) (fun _ => ⟨⟨by omega, by omega⟩, onSome_i ha1 (ld1_i (k := .int .i64) (5 : Int) (hc1 0 _ rfl) (cond_i (fun h => by simp at h) (fun _ => ⟨⟨by omega, by omega⟩, onSome_i ha1 (ld1_i (k := .int .i64) d (hc1 4 _ rfl) (cond_i (fun h => by simp at h) (fun _ => cond_i (fun h => by rw [e1] at h; cases h) (fun _ => ?_))))⟩)))⟩)) (fun h => by simp at h)
            have v8l := v8.len
            have w51 := ok16.len
            refine loop_i (fun cc t w22 => ∃ (j : Nat), j ≤ z2.1.way.length ∧ cc = z2.1.way.length - j ∧ t = ((j : Int), ()) ∧ Keep w18 w22) z2.1.way.length ⟨0, Nat.zero_le _, rfl, rfl, Mod.refl _ _⟩ ?_
            rintro cc t w22 ⟨j, hj, rfl, rfl, k22⟩ Z hZ
            dsimp only
            refine cond_d (fun hlt3 => ?_) (fun hge3 => done _ k22)
            have hj' : j < z2.1.way.length := by omega
            have hget := List.getElem?_eq_getElem hj'
            have hmem := List.getElem_mem hj'
            generalize z2.1.way[j] = x at *
            have d22 := k22.tr (Mod.drew (Mod.refl _ w22))
            have h22 := h18.keep d22
            obtain ⟨b, hb, cbx⟩ := rd_cell (k := .int .i64) (e := fun x => x) ((v8.mod d22 fun _ _ => id).rd lenI) hget
            refine ldN_i (l := [.slice, .slice, .slice]) g (own_g (g := g) (ogA h22)) ?_
            rw [Int.toNat_natCast]
            refine ⟨⟨by omega, by omega⟩, onSome_i hb (ld1_i (k := .int .i64) x cbx (REdge_i (hgv h22) ok fun w23 k23 => ?_))⟩
            have hxE := (e3 x hmem).1
            rw [decide_eq_true hxE]
            have cc2 : c'[x.toNat]? = some (shutB c' x) := shutB_get hxE.1 (by have := hxE.2; omega)
            obtain ⟨bc, hbc, cbc⟩ := rd_cell (k := .bool) (e := fun x => x) ((((vc.mod K18 fun _ _ => id).mod d22 fun _ _ => id).mod k23 fun _ _ => id).rd lenB) cc2
            refine cond_i (fun h => by simp at h) (fun _ => ⟨⟨by omega, by omega⟩, onSome_i hb (ld1_i (k := .int .i64) x (k23.cell cbx id) ⟨⟨hxE.1, hxE.2⟩, onSome_i hbc (ld1_i (k := .bool) (shutB c' x) cbc (cond_i (fun h => ?_) (fun _ => ?_)))⟩)⟩)
            · have h' : shutB c' x = true := h
              rw [(e3 x hmem).2] at h'; cases h'
            · rw [wi_ j (by omega)]
              exact hZ _ _ _ (by omega) ⟨j + 1, hj', rfl, rfl, d22.tr k23⟩
          refine cond_i (fun hh => j4t (.inl hh)) (fun _ => ?_)
          have cc2 : c'[k.toNat]? = some (shutB c' k) := shutB_get hk0 (by omega)
          obtain ⟨bc, hbc, cbc⟩ := rd_cell (k := .bool) (e := fun x => x) ((vc.mod K18 fun _ _ => id).rd lenB) cc2
          refine ⟨⟨hk0, hk1⟩, onSome_i hbc (ld1_i (k := .bool) (shutB c' k) cbc ?_)⟩
          cases hsb : shutB c' k with
          | true => exact j4f
          | false => exact j4t (.inr (hop.2 hsb))
      refine cond_i (fun hh => ?_) (fun hh => jf fun h => by rw [hh] at h; cases h)
      cases on with
      | false => exact jt hh rfl
      | true => exact jf fun _ => hon.1 rfl
    refine RBetween_i (hgv h16) ok (vc.rd lenB) (fun w17 k17 hno => key w17 (-1) k17 (fun ho hmet _ => ?_) (fun _ _ _ h => by omega)) fun d1 w17 _ _ hd1 k17 => key w17 _ k17 (fun ho hmet hlt => ?_) (fun ho hmet hor hge => ?_)
    · exact hz2.no ok (by rw [hpv]; exact hv) (fun d => by rw [hpa, hpv]; exact hno d hv) ho hmet
    · have t := hz2.told ok (by rw [hpa]; exact ha) (by rw [hpv]; exact hv) (by rw [hpv]; exact hd1) ho
      exact t.2.2.2.1 hmet (by rw [hpa]; exact hlt)
    · have t := hz2.told ok (by rw [hpa]; exact ha) (by rw [hpv]; exact hv) (by rw [hpv]; exact hd1) ho
      have t2 := t.2.2.2.2 hmet hor (by rw [hpa]; exact hge)
      rw [hpa] at t2; exact t2
  have cck : c[k.toNat]? = some (shutB c k) := shutB_get hk0 (by omega)
  obtain ⟨bc, hbc, cbc⟩ := rd_cell (k := .bool) (e := fun x => x) (v15.rd lenB) cck
  have klt : k.toNat < c.length := by omega
  refine ⟨⟨hk0, hk1⟩, onSome_i hbc (ld1_i (k := .bool) (shutB c k) cbc ?_)⟩
  -- it is turned over
  have flip : ∀ (nb : Bool) (K : World → Prop), (∀ w16, Vec w16 tBool 1 eB ⟨some ⟨cb, 0, none⟩, G.m, G.m⟩ (c.set k.toNat nb) → Mod (fun q => q = cb) w15 w16 → K w16) → onSome (some (⟨cb, 0, none⟩ : Addr)) fun a12 => storeD Tryz.prog tBool (a12.add (Int.toNat k * 1)) (Value.bool nb) w15 K := fun nb K hK => by
    refine onSome_i rfl (v15.store lenB rfl (i := k.toNat) klt nb (v := .bool nb) rfl size_Bool (oneB _) fun w16 v16 m16 _ => hK w16 v16 m16)
  have set_sh : ∀ nb, shutB (c.set k.toNat nb) k = nb := fun nb => by
    unfold shutB
    rw [List.getD_eq_getElem?_getD, List.getElem?_set]
    simp [klt]
  refine cond_i (fun hck => ⟨⟨hk0, hk1⟩, flip false _ fun w16 v16 m16 => ?_⟩) (fun hck => ⟨⟨hk0, hk1⟩, flip true _ fun w16 v16 m16 => ?_⟩)
  · refine alloc_i fun w17 o17 k17 z17 => ?_
    have h17 := (h15.mod m16 fun q hq => ⟨by omega, .inl (.inr hq), by omega⟩).keep k17
    have vk : Vec w17 tInt 1 eI ⟨some ⟨w16.heap.size, 0, none⟩, 1, 1⟩ [k] := Vec.new lenI [k] o17 (by simp [maxLen])
    have v17 := v16.mod k17 fun _ _ => id
    have z16 := m16.size
    refine Changed_i h17 okp (sh := []) (Rd.nil _ _ _) (by simp) (vk.rd lenI) (v17.rd lenB) (fun q hq => by omega) fun z2 sm w18 hz2 h18 ok18 q18 _ m18 => ?_
    refine j2 false sm z2 _ [] [k] w18 (((m16.mono fun q _ h => .inr h).tr k17.wk).tr (m18.mono fun q _ h => .inl h)) h18 ok18 (q18.wk fun q hq _ => by omega) (v17.mod m18 fun b hb e => by cases hb; exact hcb e) (by rw [List.length_set]; exact hcl) hz2 (by simp) ?_
    rw [set_sh]; simp
  · refine alloc_i fun w17 o17 k17 z17 => ?_
    have h17 := (h15.mod m16 fun q hq => ⟨by omega, .inl (.inr hq), by omega⟩).keep k17
    have vk : Vec w17 tInt 1 eI ⟨some ⟨w16.heap.size, 0, none⟩, 1, 1⟩ [k] := Vec.new lenI [k] o17 (by simp [maxLen])
    have v17 := v16.mod k17 fun _ _ => id
    have z16 := m16.size
    refine Changed_i h17 okp (op := []) (vk.rd lenI) (by simp) (Rd.nil _ _ _) (v17.rd lenB) (fun q hq => by omega) fun z2 sm w18 hz2 h18 ok18 q18 _ m18 => ?_
    refine j2 _ sm z2 _ [k] [] w18 (((m16.mono fun q _ h => .inr h).tr k17.wk).tr (m18.mono fun q _ h => .inl h)) h18 ok18 (q18.wk fun q hq _ => by omega) (v17.mod m18 fun b hb e => by cases hb; exact hcb e) (by rw [List.length_set]; exact hcl) hz2 ?_ ?_
    · simp only [decide_eq_true_eq, List.mem_singleton]
      exact ⟨fun h => ⟨k, h, rfl⟩, fun ⟨x, hx, e⟩ => e ▸ hx⟩
    · rw [set_sh]; simp
end Go.Proofs.YtjjgcimlmjnaeaaGreat

/-
  Arguments: bools.
-/
namespace Go.Proofs.YtjjgcimlmjnaeaaGreat
open Go Go.Den Go.ChangeShapes Go.WideShapes Go.ChangeAt Go.RowKit
end Go.Proofs.YtjjgcimlmjnaeaaGreat
