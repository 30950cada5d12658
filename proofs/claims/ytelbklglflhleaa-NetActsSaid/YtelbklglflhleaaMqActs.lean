/-
  NetActs: what it computes.
-/
import Derived.Test.YtelbklglflhleaaMqL13
namespace Go.Proofs.Ytelbklglflhleaa
open Go Go.Den

structure ActS where
  kind : Int
  a : Arc
  v : Int
abbrev eAct (x : ActS) : List Value := [.int .i64 x.kind, .int .i64 x.a.f, .int .i64 x.a.t, .int .i64 x.a.w, .int .i64 x.a.m, .int .i64 x.v]

/-- Behind each act: all is alike. -/
theorem alike_i {W w : World} {N : NetS} {g : Nat} {s : Sl} {n : Nat} {l : List Arc} {b2 : Nat} {x : ActS} {Q : Bool → World → Prop} {X : World → Prop} (h : Two W w N g s n l) (ob : Own w b2 34 (eAct x)) (hX : ∀ w', Two W w' N g s n l → X w') :
    onSome (some (⟨g, 0, none⟩ : Addr)) fun a6 =>
    ld1 .slice w (a6.add 1) fun (s2 : Sl) =>
    F_net_Net_All (some ⟨N.g, 0, none⟩) w fun (s3 : Sl) w14 =>
    w14.cell? (a6.add 1) = some (Value.slice s2.b s2.l s2.c) ∧
    F_ref4_ArcsSame s3 s2 w14 fun (b6 : Bool) w15 =>
    cond (!b6)
    (Q false w15)
    (ld1 (.int .i64) w15 ((⟨b2, 0, none⟩ : Addr).add 5) fun (x7 : Int) =>
    ld1 (.int .i64) w15 ((⟨b2, 0, none⟩ : Addr).add 5) fun (x8 : Int) =>
    F_net_Net_Out (some ⟨N.g, 0, none⟩) x7 w15 fun (s4 : Sl) w16 =>
    w16.cell? ((⟨b2, 0, none⟩ : Addr).add 5) = some (Value.int .i64 x8) ∧
    F_ref4_Net_Out (some ⟨g, 0, none⟩) x8 w16 fun (s5 : Sl) w17 =>
    F_ref4_ArcsSame s4 s5 w17 fun (b7 : Bool) w18 =>
    cond (!b7)
    (Q false w18)
    (ld1 (.int .i64) w18 ((⟨b2, 0, none⟩ : Addr).add 5) fun (x9 : Int) =>
    ld1 (.int .i64) w18 ((⟨b2, 0, none⟩ : Addr).add 5) fun (x10 : Int) =>
    F_net_Net_In (some ⟨N.g, 0, none⟩) x9 w18 fun (s6 : Sl) w19 =>
    w19.cell? ((⟨b2, 0, none⟩ : Addr).add 5) = some (Value.int .i64 x10) ∧
    F_ref4_Net_In (some ⟨g, 0, none⟩) x10 w19 fun (s7 : Sl) w20 =>
    F_ref4_ArcsSame s6 s7 w20 fun (b8 : Bool) w21 =>
    cond (!b8)
    (Q false w21)
    (onSome (some (⟨g, 0, none⟩ : Addr)) fun a7 =>
    ld1 (.int .i64) w21 (a7.add 0) fun (x11 : Int) =>
    F_net_Net_Len (some ⟨N.g, 0, none⟩) w21 fun (x12 : Int) w22 =>
    w22.cell? (a7.add 0) = some (Value.int .i64 x11) ∧
    cond (x12 != x11)
    (Q false w22)
    (X w22)))) := by
  have hl := h.small
  have lv : ∀ {w' : World}, Own w' b2 34 (eAct x) → w'.cell? ((⟨b2, 0, none⟩ : Addr).add 5) = some (.int .i64 x.v) := fun ho => by rw [addr_lit, ho.cell]; rfl
  refine onSome_i rfl (ld1_i (k := .slice) s h.ref.c1 ?_)
  refine All_i h.net hl fun s3 w14 v3 k3 _ => ?_
  have h3 := h.keep k3
  refine ⟨h3.ref.c1, ?_⟩
  refine ArcsSame_i (v3.rd lenA) (h3.ref.vec.rd lenA) hl fun r w15 k4 hr => ?_
  have h4 := h3.keep k4
  have o4 := (ob.mod k3 id).mod k4 id
  refine cond_i (fun hb => by rw [hr.2 rfl] at hb; cases hb) (fun _ => ?_)
  refine ld1_i (k := .int .i64) x.v (lv o4) (ld1_i (k := .int .i64) x.v (lv o4) ?_)
  refine Out_i h4.net fun s4 w16 v4 k5 _ => ?_
  have h5 := h4.keep k5
  have o5 := o4.mod k5 id
  refine ⟨lv o5, ?_⟩
  refine rOut_i h5.ref hl fun s5 w17 v5 k6 _ => ?_
  have h6 := h5.keep k6
  have hol : (outL l x.v).length < 1099511627776 := by have := h.net.ok.out_len x.v; have := h.net.sz; omega
  refine ArcsSame_i ((v4.mod k6 (fun _ _ => id)).rd lenA) (v5.rd lenA) hol fun r w18 k7 hr => ?_
  have h7 := h6.keep k7
  have o7 := (o5.mod k6 id).mod k7 id
  refine cond_i (fun hb => by rw [hr.2 rfl] at hb; cases hb) (fun _ => ?_)
  refine ld1_i (k := .int .i64) x.v (lv o7) (ld1_i (k := .int .i64) x.v (lv o7) ?_)
  refine In_i h7.net fun s6 w19 v6 k8 _ => ?_
  have h8 := h7.keep k8
  have o8 := o7.mod k8 id
  refine ⟨lv o8, ?_⟩
  refine rIn_i h8.ref hl fun s7 w20 v7 k9 _ => ?_
  have h9 := h8.keep k9
  have hil : (inL l x.v).length < 1099511627776 := by have := h.net.ok.in_len x.v; have := h.net.sz; omega
  refine ArcsSame_i ((v6.mod k9 (fun _ _ => id)).rd lenA) (v7.rd lenA) hil fun r w21 k10 hr => ?_
  have h10 := h9.keep k10
  refine cond_i (fun hb => by rw [hr.2 rfl] at hb; cases hb) (fun _ => ?_)
  refine onSome_i rfl (ld1_i (k := .int .i64) (n : Int) h10.ref.c0 (Len_i h10.net ⟨h10.ref.c0, ?_⟩))
  exact cond_i (fun hb => by simp at hb) (fun _ => hX w21 h10)

theorem NetActs_i {n : Int} {l acts : Sl} {xs : List Arc} {as_ : List ActS} {W : World} {Q : Bool → World → Prop} (hl : Rd W l 4 eArc xs) (ha : Rd W acts 6 eAct as_) (hQ : ∀ w', Keep W w' → Q true w') : F_law13_NetActs n l acts W Q := by
  unfold F_law13_NetActs
  have hll := hl.len
  have hal := ha.len
  refine cond_d (fun h => awake13_i hQ) (fun h1 => ?_)
  refine cond_d (fun h => awake13_i hQ) (fun h2 => ?_)
  have hcap : ∀ m i, (putAll m [] (xs.take i)).length < 1099511627776 := by
    intro m i
    have key : ∀ (ys p : List Arc), (putAll m p ys).length ≤ p.length + ys.length := by
      intro ys
      induction ys with
      | nil => intro p; simp [putAll]
      | cons y ys ih =>
        intro p
        have h3 := ih (putL m p y).1
        have h4 : (putL m p y).1.length ≤ p.length + 1 := by
          have hins : (insL p y).length ≤ p.length + 1 := by
            unfold insL
            rw [List.length_append, List.length_cons]
            have hd : ∀ q : List Arc, (q.filter fun x => lexlt x y).length + (q.filter fun x => lexlt y x).length ≤ q.length := by
              intro q
              induction q with
              | nil => simp
              | cons z q ihq =>
                simp only [List.filter_cons]
                have hno : ¬ (lexlt z y = true ∧ lexlt y z = true) := by rw [lexlt_iff, lexlt_iff]; omega
                cases hz : lexlt z y <;> cases hz' : lexlt y z <;> simp_all <;> omega
            have := hd p
            omega
          unfold putL
          split
          · split
            · split
              · simp
              · exact hins
            · exact hins
          · simp
        show (putAll m (putL m p y).1 ys).length ≤ _
        simp only [List.length_cons]; omega
    have := key (xs.take i) []
    simp at this
    omega
  refine New_i hl (by omega) (fun w3 k3 hno => ?_) (fun w3 N h0 h512 hall hN k3 hfr => ?_)
  · refine NewNet_i (hl.mod k3 eArc_ne (fun _ _ => id)) (by omega) hcap (fun w4 k4 _ => ?_) (fun w4 g s' h0 h5 hall _ _ _ => absurd ⟨h0, h5, hall⟩ hno)
    refine cond_i (fun _ => ?_) (fun h => by simp at h)
    refine cond_i (fun _ => ?_) (fun h => by simp at h)
    refine cond_i (fun _ => ?_) (fun h => by simp at h)
    exact awake13_i fun w' k => hQ w' ((k3.tr k4).tr k)
  · refine NewNet_i (hl.mod k3 eArc_ne (fun _ _ => id)) (by omega) hcap (fun w4 k4 hno => absurd ⟨h0, h512, hall⟩ hno) (fun w4 g s' _ _ _ hR k4 hfr4 => ?_)
    refine cond_i (fun h => by simp at h) (fun _ => ?_)
    refine cond_i (fun h => by simp at h) (fun _ => ?_)
    refine cond_i (fun h => by simp at h) (fun _ => ?_)
    obtain ⟨m, rfl⟩ : ∃ m : Nat, n = (m : Int) := ⟨n.toNat, by omega⟩
    simp only [Int.toNat_natCast] at hN hR
    have start : Two W w4 N g s' m (putAll m [] xs) := ⟨hN.keep k4, hR, fun k hk hk' => by have := hN.at_.lt hk; have := hfr4 k hk'; omega, k3.tr k4, hfr, fun k hk => Nat.le_trans k3.size (hfr4 k hk)⟩
    have hg0 : N.g = N.g := rfl
    refine loop_i (fun c t w6 => ∃ (i : Nat) (N2 : NetS) (s2 : Sl) (L : List Arc), i ≤ as_.length ∧ c = as_.length - i ∧ t = ((i : Int), ()) ∧ Two W w6 N2 g s2 m L ∧ N2.g = N.g) as_.length
      ⟨0, N, s', _, Nat.zero_le _, rfl, rfl, start, rfl⟩ ?_
    rintro c t w6 ⟨i, N2, s2, L, hi, rfl, rfl, h6, hg⟩ X hX
    dsimp only
    rw [← hg]
    refine cond_d (fun hlt => ?_) (fun hge => ?_)
    · have hi' : i < as_.length := by omega
      refine ⟨⟨by omega, by omega⟩, ?_⟩
      obtain ⟨p, hp, hh⟩ := (ha.mod h6.since (by simp) (fun _ _ => id)).get i as_[i] (List.getElem?_eq_getElem hi')
      generalize as_[i] = x at hh
      refine onSome_i hp (ldN_i (l := [.int .i64, .int .i64, .int .i64, .int .i64, .int .i64, .int .i64]) (x.kind, x.a.f, x.a.t, x.a.w, x.a.m, x.v, ()) hh ?_)
      simp only [allocD]
      have k7 := Keep.alloc w6 (.cells #[Value.int .i64 0, Value.int .i64 0, Value.int .i64 0, Value.int .i64 0, Value.int .i64 0, Value.int .i64 0] 34)
      have o7 := Own.alloc' w6 #[Value.int .i64 0, Value.int .i64 0, Value.int .i64 0, Value.int .i64 0, Value.int .i64 0, Value.int .i64 0] 34
      have h7 := h6.keep k7
      have sz7 : (w6.alloc (.cells #[Value.int .i64 0, Value.int .i64 0, Value.int .i64 0, Value.int .i64 0, Value.int .i64 0, Value.int .i64 0] 34)).heap.size = w6.heap.size + 1 := by simp
      generalize w6.alloc (.cells #[Value.int .i64 0, Value.int .i64 0, Value.int .i64 0, Value.int .i64 0, Value.int .i64 0, Value.int .i64 0] 34) = w7 at *
      refine storeD_i o7 (by kernel_rfl) (by simp [Value.cells]) (by simp [Value.cells, Value.oneCell']) fun w8 o8 m8 z8 => ?_
      have o8' : Own w8 w6.heap.size 34 (eAct x) := o8
      clear o8
      have h8 : Two W w8 N2 g s2 m L := h6.keep (Mod.fresh k7 m8 fun k hk => by omega)
      generalize hb : w6.heap.size = b2 at *
      have hNb : ∀ k, N2.has k → k ≠ b2 := fun k hk => by have := h6.net.at_.lt hk; omega
      have hgb : ∀ k, rhas g s2 k → k ≠ b2 := fun k hk => by have := h6.ref.lt hk; omega
      have bW : W.heap.size ≤ b2 := by have := h6.since.size; omega
      have cell : ∀ {w' : World}, Own w' b2 34 (eAct x) → w'.cell? ((⟨b2, 0, none⟩ : Addr).add 0) = some (.int .i64 x.kind) ∧ w'.cell? (((⟨b2, 0, none⟩ : Addr).add 1).add 0) = some (.int .i64 x.a.f) ∧ w'.cell? (((⟨b2, 0, none⟩ : Addr).add 1).add 1) = some (.int .i64 x.a.t) ∧
          w'.cell? ((⟨b2, 0, none⟩ : Addr).add 5) = some (.int .i64 x.v) ∧ HoldsAt w' ((⟨b2, 0, none⟩ : Addr).add 1) 0 (eArc x.a) := fun ho => by
        refine ⟨?_, ?_, ?_, ?_, ?_⟩
        · rw [addr_lit, ho.cell]; rfl
        · rw [addr_lit, addr_lit, ho.cell]; rfl
        · rw [addr_lit, addr_lit, ho.cell]; rfl
        · rw [addr_lit, ho.cell]; rfl
        · rw [addr_lit]; exact ho.holds fun j v hj => by
            match j, hj with
            | 0, hj => exact hj
            | 1, hj => exact hj
            | 2, hj => exact hj
            | 3, hj => exact hj
      intro J hJ
      -- what follows each act
      have after : ∀ {w9 : World} {N3 : NetS} {s3 : Sl} {L' : List Arc}, Two W w9 N3 g s3 m L' → N3.g = N2.g → Own w9 b2 34 (eAct x) → J () w9 := by
        intro w9 N3 s3 L' h9 hg9 o9
        apply hJ
        have hl9 := h9.small
        obtain ⟨_, cf, ct, _, _⟩ := cell o9
        refine ld1_i (k := .int .i64) x.a.f cf (ld1_i (k := .int .i64) x.a.t ct ?_)
        rw [← hg9]
        have goX : ∀ w', Two W w' N3 g s3 m L' → X (IntKind.wrap .i64 ((i : Int) + 1), ()) w' := fun w' h' => by
          rw [w64 (by omega) (by omega)]
          exact hX (as_.length - (i + 1)) _ _ (by omega) ⟨i + 1, N3, s3, L', hi', rfl, rfl, h', by rw [hg9, hg]⟩
        have mid : ∀ {w10 : World} (y : Arc), Keep w9 w10 → ∀ K : World → Prop, (∀ w12, Keep w9 w12 → Own w12 w10.heap.size 32 (eArc y) → K w12) →
            storeD Try.prog 32 ⟨w10.heap.size, 0, none⟩ (arcV y) (w10.alloc (.cells #[Value.int .i64 0, Value.int .i64 0, Value.int .i64 0, Value.int .i64 0] 32)) K := fun {w10} y k10 K hK => by
          have k11 := Keep.alloc w10 (.cells #[Value.int .i64 0, Value.int .i64 0, Value.int .i64 0, Value.int .i64 0] 32)
          have o11 : Own (w10.alloc (.cells #[Value.int .i64 0, Value.int .i64 0, Value.int .i64 0, Value.int .i64 0] 32)) w10.heap.size 32 (eArc ⟨0, 0, 0, 0⟩) := Own.alloc' w10 _ 32
          exact zero_store o11 rfl fun w12 o12 m12 => hK w12 (k10.tr (Mod.fresh k11 m12 fun k hk => by omega)) o12
        refine Arc_i h9.net (fun y w10 hy k10 => ?_) (fun w10 hy k10 => ?_)
        · refine mid y k10 _ fun w12 k12 oy => ?_
          have o12 := o9.mod k12 id
          obtain ⟨_, cf, ct, _, _⟩ := cell o12
          refine ld1_i (k := .int .i64) x.a.f cf (ld1_i (k := .int .i64) x.a.t ct ?_)
          refine rFind_i (h9.keep k12).ref hl9 fun q fd w13 k13 low hfd => ?_
          obtain ⟨hyl, hyf, hyt⟩ := findL_some hy
          have hfd' : fd = true := hfd.2 ⟨y, hyl, hyf, hyt⟩
          subst hfd'
          have d13 : Keep w13 w13.drew := Mod.drew (Mod.refl _ w13)
          have k14 := (k12.tr k13).tr d13
          have h14 := h9.keep k14
          have o14 := o9.mod k14 id
          have hyi := low.found h9.net.ok.srt hyl hyf hyt
          have hq : q < L'.length := (List.getElem?_eq_some_iff.1 hyi).1
          have hs3 := h14.ref.vec.len
          refine cond_i (fun h => by simp at h) (fun _ => ?_)
          refine cond_i (fun _ => ?_) (fun h => by simp at h)
          refine ldN_i (tupA y) (own_all ((oy.mod k13 id).mod d13 id)) ?_
          refine onSome_i rfl (ld1_i (k := .slice) s3 h14.ref.c1 ⟨⟨by omega, by omega⟩, ?_⟩)
          obtain ⟨p', hp', hh'⟩ := rd_tup (h14.ref.vec.rd lenA) hyi
          refine onSome_i hp' (ldN_i (tupA y) hh' ?_)
          refine cond_i (fun h => by simp at h) (fun _ => ?_)
          exact alike_i h14 o14 goX
        · refine mid ⟨0, 0, 0, 0⟩ k10 _ fun w12 k12 oy => ?_
          have o12 := o9.mod k12 id
          obtain ⟨_, cf, ct, _, _⟩ := cell o12
          refine ld1_i (k := .int .i64) x.a.f cf (ld1_i (k := .int .i64) x.a.t ct ?_)
          refine rFind_i (h9.keep k12).ref hl9 fun q fd w13 k13 low hfd => ?_
          have hfd' : fd = false := by
            cases hf : fd with
            | false => rfl
            | true => obtain ⟨y, h1, h2, h3⟩ := hfd.1 hf; exact absurd ⟨h2, h3⟩ (findL_none hy y h1)
          subst hfd'
          have d13 : Keep w13 w13.drew := Mod.drew (Mod.refl _ w13)
          have k14 := (k12.tr k13).tr d13
          refine cond_i (fun h => by simp at h) (fun _ => ?_)
          refine cond_i (fun h => by simp at h) (fun _ => ?_)
          exact alike_i (h9.keep k14) (o9.mod k14 id) goX
      obtain ⟨ck, _, _, cv, _⟩ := cell o8'
      refine ld1_i (k := .int .i64) x.kind ck ?_
      refine cond_i (fun _ => ?_) (fun _ => ?_)
      · have d8 : Keep w8 w8.drew := Mod.drew (Mod.refl _ w8)
        have o8d := o8'.mod d8 id
        have h8d := h8.keep d8
        refine ldN_i (tupA x.a) (cell o8d).2.2.2.2 (ldN_i (tupA x.a) (cell o8d).2.2.2.2 ?_)
        refine Put_i h8d.net fun w9 N9 h9 g9 m9 f9 => ?_
        have t9 := h8d.netTurned h9 m9 f9
        have o9 := o8d.mod m9 fun hk => hNb b2 hk rfl
        refine ⟨(cell o9).2.2.2.2, ?_⟩
        refine rPut_i t9.2.1 h8d.small fun w10 s10 h10 m10 f10 => ?_
        have t10 := Two.refTurned t9.1 t9.2.2.1 t9.2.2.2.1 t9.2.2.2.2 h8d.fr h10 m10 f10
        have o10 := o9.mod m10 fun e => hgb g (.inl rfl) e.symm
        refine cond_i (fun h => by simp at h) (fun _ => after t10 g9 o10)
      · refine cond_i (fun _ => ?_) (fun _ => after h8 rfl o8')
        refine ld1_i (k := .int .i64) x.v cv ?_
        refine Cut_i h8.net fun w9 N9 h9 g9 m9 f9 => ?_
        have t9 := h8.netTurned h9 m9 f9
        have o9 := o8'.mod m9 fun hk => hNb b2 hk rfl
        refine ld1_i (k := .int .i64) x.v (cell o9).2.2.2.1 ?_
        refine rCut_i t9.2.1 h8.small fun w10 s10 h10 m10 f10 => ?_
        have t10 := Two.refTurned t9.1 t9.2.2.1 t9.2.2.2.1 t9.2.2.2.2 h8.fr h10 m10 fun b hb => .inr (f10 b hb)
        have o10 := o9.mod m10 fun e => hgb g (.inl rfl) e.symm
        exact after t10 g9 o10
    · have hl6 := h6.small
      refine Copy_i h6.net hl6 fun w7 C hC k7 fC => ?_
      refine cond_i (fun _ => ?_) (fun h => by simp at h)
      have d7 : Keep w7 w7.drew := Mod.drew (Mod.refl _ w7)
      have h7 := (h6.keep k7).keep d7
      have hC7 := hC.keep d7
      refine onSome_i rfl (ld1_i (k := .slice) s2 h7.ref.c1 ?_)
      refine All_i hC7 hl6 fun s3 w8 v8 k8 _ => ?_
      have h8 := h7.keep k8
      refine ⟨h8.ref.c1, ?_⟩
      refine ArcsSame_i (v8.rd lenA) (h8.ref.vec.rd lenA) hl6 fun r w9 k9 hr => ?_
      have h9 := h8.keep k9
      refine cond_i (fun _ => ?_) (fun hb => by rw [hr.2 rfl] at hb; cases hb)
      refine onSome_i rfl (ld1_i (k := .int .i64) (m : Int) h9.ref.c0 (Len_i ((hC7.keep k8).keep k9) ⟨h9.ref.c0, ?_⟩))
      refine cond_i (fun _ => ?_) (fun h => by simp at h)
      exact awake13_i fun w' k => hQ w' (h9.since.tr k)
end Go.Proofs.Ytelbklglflhleaa
