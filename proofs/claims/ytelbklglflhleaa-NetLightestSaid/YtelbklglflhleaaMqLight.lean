/-
  What 'NetLightest' computes is true.
-/
import Derived.Test.YtelbklglflhleaaMqMade
import Derived.Test.YtelbklglflhleaaMqNet3
import Derived.Test.YtelbklglflhleaaMqL13
import Derived.Test.YtelbklglflhleaaIdsM
namespace Go.Proofs.Ytelbklglflhleaa
open Go Go.Den

/-! ### The plain law -/

theorem findL_ins {l : List Arc} (h : LSrt l) (a : Arc) (f t : Int) : findL (insL l a) f t = if f = a.f ∧ t = a.t then some a else findL l f t := by
  have hs := h.ins a
  by_cases e : f = a.f ∧ t = a.t
  · rw [if_pos e, e.1, e.2]
    exact findL_eq hs (mem_insL.2 (.inl rfl))
  · rw [if_neg e]
    cases hx : findL l f t with
    | none =>
      have hn := findL_none hx
      cases hy : findL (insL l a) f t with
      | none => rfl
      | some y =>
        obtain ⟨hm, h1, h2⟩ := findL_some hy
        rcases mem_insL.1 hm with rfl | ⟨hm, _⟩
        · exact absurd ⟨h1.symm, h2.symm⟩ e
        · exact absurd ⟨h1, h2⟩ (hn y hm)
    | some x =>
      obtain ⟨hm, h1, h2⟩ := findL_some hx
      have hm' : x ∈ insL l a := mem_insL.2 (.inr ⟨hm, fun e' => e ⟨h1.symm.trans e'.1, h2.symm.trans e'.2⟩⟩)
      have := findL_eq hs hm'
      rwa [h1, h2] at this
/-- The least weight between each two. -/
def bestOf (l : List Arc) (p : Int × Int) : Option Int := (findL l p.1 p.2).map (·.w)
theorem best_put {m : Nat} {l : List Arc} (h : OkL m l) {a : Arc} (ha : mayA m a) (p : Int × Int) :
    bestOf (putL m l a).1 p = if (match bestOf l (a.f, a.t) with | some w => decide (w ≤ a.w) | none => false) = true then bestOf l p else (if p = (a.f, a.t) then some a.w else bestOf l p) := by
  obtain ⟨f, t⟩ := p
  unfold putL bestOf
  rw [if_pos ha]
  have ins : ∀ q : Int × Int, (findL (insL l a) q.1 q.2).map (·.w) = if q = (a.f, a.t) then some a.w else (findL l q.1 q.2).map (·.w) := fun q => by
    rw [findL_ins h.srt]
    by_cases e : q = (a.f, a.t)
    · subst e; simp
    · rw [if_neg e, if_neg (fun e' => e (Prod.ext e'.1 e'.2))]
  cases hx : findL l a.f a.t with
  | none => simp only [Option.map_none, Bool.false_eq_true, if_false]; exact ins (f, t)
  | some x =>
    simp only [Option.map_some, decide_eq_true_eq]
    split
    · rfl
    · exact ins (f, t)
theorem best_keys {l : List Arc} (h : LSrt l) {ks : List (Int × Int)} (hn : ks.Nodup) (hk : ∀ x, x ∈ ks ↔ (bestOf l x).isSome = true) : ks.length = l.length := by
  have h1 : (l.map fun a => (a.f, a.t)).Nodup := by
    refine List.pairwise_map.2 (List.Pairwise.imp (fun {x y} hxy e => ?_) h)
    rw [lexlt_iff] at hxy
    simp only [Prod.mk.injEq] at e
    omega
  have h2 : ∀ x, x ∈ ks ↔ x ∈ l.map fun a => (a.f, a.t) := fun x => by
    rw [hk, bestOf, Option.isSome_map, List.mem_map]
    constructor
    · intro hs
      obtain ⟨y, hy⟩ := Option.isSome_iff_exists.1 hs
      obtain ⟨hm, e1, e2⟩ := findL_some hy
      exact ⟨y, hm, Prod.ext e1 e2⟩
    · rintro ⟨y, hm, rfl⟩
      rw [findL_eq h hm]; rfl
  have := ((List.perm_ext_iff_of_nodup hn h1).2 h2).length_eq
  rw [this, List.length_map]
theorem len_by {key : Arc → Int} : ∀ {l : List Arc} {m : Nat}, (∀ a ∈ l, 0 ≤ key a ∧ key a < m) → ((List.range m).map fun v : Nat => (l.filter fun x => decide (key x = (v : Int))).length).sum = l.length
  | [], m, _ => by
    have : ∀ n : Nat, ((List.range n).map fun _ : Nat => (0 : Nat)).sum = 0 := fun n => by induction n with
      | zero => rfl
      | succ n ih => rw [List.range_succ, List.map_append, List.sum_append, ih]; rfl
    simpa using this m
  | a :: l, m, h => by
    have ih := len_by (key := key) (l := l) (m := m) fun x hx => h x (by simp [hx])
    have ha := h a (by simp)
    have one : ∀ n : Nat, ((List.range n).map fun v : Nat => ((a :: l).filter fun x => decide (key x = (v : Int))).length).sum = ((List.range n).map fun v : Nat => (l.filter fun x => decide (key x = (v : Int))).length).sum + if key a < n then 1 else 0 := fun n => by
      induction n with
      | zero => simp; omega
      | succ n ihn =>
        rw [List.range_succ, List.map_append, List.map_append, List.sum_append, List.sum_append, ihn]
        simp only [List.map_cons, List.map_nil, List.sum_cons, List.sum_nil, Nat.add_zero, List.filter_cons]
        by_cases e : key a = n
        · have e1 : (if key a < (n : Int) then (1 : Nat) else 0) = 0 := if_neg (by omega)
          have e2 : (if key a < ((n + 1 : Nat) : Int) then (1 : Nat) else 0) = 1 := if_pos (by omega)
          have e3 : decide (key a = (n : Int)) = true := by simpa using e
          rw [e1, e2, e3]; simp only [if_true, List.length_cons]; omega
        · have e3 : decide (key a = (n : Int)) = false := by simpa using e
          by_cases e4 : key a < n
          · have e1 : (if key a < (n : Int) then (1 : Nat) else 0) = 1 := if_pos e4
            have e2 : (if key a < ((n + 1 : Nat) : Int) then (1 : Nat) else 0) = 1 := if_pos (by omega)
            rw [e1, e2, e3]; simp only [Bool.false_eq_true, if_false]; omega
          · have e1 : (if key a < (n : Int) then (1 : Nat) else 0) = 0 := if_neg e4
            have e2 : (if key a < ((n + 1 : Nat) : Int) then (1 : Nat) else 0) = 0 := if_neg (by omega)
            rw [e1, e2, e3]; simp only [Bool.false_eq_true, if_false]; omega
    rw [one m, ih, if_pos ha.2]; simp

/-! ### The walk -/

theorem NetLightest_i {n : Int} {l : Sl} {rows : List R3} {W : World} {Q : Bool → World → Prop} (hl : Rd W l 3 eR3 rows) (hQ : ∀ w', Keep W w' → Q true w') : F_law13_NetLightest n l W Q := by
  unfold F_law13_NetLightest
  have hll := hl.len
  refine cond_d (fun h => awake13_i hQ) (fun h1 => ?_)
  refine cond_d (fun h => awake13_i hQ) (fun h2 => ?_)
  refine cond_d (fun h => awake13_i hQ) (fun h3 => ?_)
  refine made_i (by omega) (by omega) hl (by omega) fun w4 N g sR hN hR hap k4 fN fR => ?_
  have hsm : (netOf n rows).length < 1099511627776 := by have := hN.ok.len hN.sz; omega
  refine cond_i (fun h => by simp at h) (fun _ => ?_)
  refine mapNew_i (ek := fun p : Int × Int => .agg #[.int .i64 p.1, .int .i64 p.2]) (kn := .c (.int .i64)) fun hm k5 => ?_
  generalize w4.alloc (.map #[] 0) = w5 at *
  have hmb : W.heap.size ≤ w4.heap.size := k4.size
  generalize hr : w4.heap.size = r at *
  have hN5 := hN.keep k5
  refine arcs_i (by omega) hl (by omega) (k4.tr k5) fun s1 w6 v1 k6 f1 => ?_
  have hN6 := hN5.keep k6
  have hm6 := hm.mod k6 id
  have K6 : Keep W w6 := (k4.tr k5).tr k6
  have hNr : ∀ k, N.has k → ¬ k = r := fun k hk e => by have := hN.at_.lt hk; omega
  have hr6 : r < w5.heap.size := hm.lt
  have f1r : ∀ a, s1.b = some a → ¬ a.block = r := fun a ha e => by have := f1 a ha; omega
  have hxl := arcsOf_len n rows
  have hxm : ∀ a ∈ arcsOf n rows, mayA n.toNat a := fun a ha => (arcsOf_may (by omega) a ha).1
  have hnet : netOf n rows = putAll n.toNat [] (arcsOf n rows) := rfl
  generalize hL : netOf n rows = L at *
  generalize arcsOf n rows = xs at *
  have s1l := v1.len
  obtain ⟨m, rfl⟩ : ∃ m : Nat, n = (m : Int) := ⟨n.toNat, by omega⟩
  simp only [Int.toNat_natCast] at *
  clear hR hap fR
  refine loop_i (fun c t w7 => ∃ (i q : Nat), i ≤ xs.length ∧ c = xs.length - i ∧ t = ((i : Int), ()) ∧ MapF w7 r (fun p : Int × Int => .agg #[.int .i64 p.1, .int .i64 p.2]) (.c (.int .i64)) (bestOf (putAll m [] (xs.take i))) q ∧ Mod (fun k => k = r) w6 w7) xs.length
    ⟨0, 0, Nat.zero_le _, rfl, rfl, hm6.congr (fun x => rfl) rfl, Mod.refl _ _⟩ ?_
  rintro c t w7 ⟨i, q, hi, rfl, rfl, hm7, m7⟩ X hX
  dsimp only
  refine cond_d (fun hlt => ?_) (fun hge => ?_)
  · have hi' : i < xs.length := by omega
    refine ⟨⟨by omega, by omega⟩, ?_⟩
    obtain ⟨a', ha', hh⟩ := rd_tup ((v1.mod m7 (fun b hb e => f1r b hb e)).rd lenA) (List.getElem?_eq_getElem hi')
    have hma := hxm _ (List.getElem_mem hi')
    have tk : putAll m [] (xs.take (i + 1)) = (putL m (putAll m [] (xs.take i)) xs[i]).1 := by rw [List.take_succ_eq_append_getElem hi', putAll_snoc]
    have hok : OkL m (putAll m [] (xs.take i)) := putAll_ok _ (OkL.nil m)
    generalize xs[i] = a at *
    generalize putAll m [] (xs.take i) = P at *
    refine onSome_i ha' (ldN_i (tupA a) hh ?_)
    simp only [allocD]
    have k3 := Keep.alloc w7 (.cells #[Value.int .i64 0, Value.int .i64 0, Value.int .i64 0, Value.int .i64 0] 32)
    have o3 : Own (w7.alloc (.cells #[Value.int .i64 0, Value.int .i64 0, Value.int .i64 0, Value.int .i64 0] 32)) w7.heap.size 32 (eArc ⟨0, 0, 0, 0⟩) := Own.alloc' w7 _ 32
    refine zero_store (x := a) o3 rfl fun w9 o9 m9 => ?_
    have k9 : Keep w7 w9 := Mod.fresh k3 m9 fun k hk => by omega
    have hm9 := hm7.mod k9 id
    have m79 : Mod (fun k => k = r) w6 w9 := m7.tr k9.wk
    have c0 : w9.cell? ((⟨w7.heap.size, 0, none⟩ : Addr).add 0) = some (.int .i64 a.f) := by rw [addr_lit, o9.cell]; rfl
    have c1 : w9.cell? ((⟨w7.heap.size, 0, none⟩ : Addr).add 1) = some (.int .i64 a.t) := by rw [addr_lit, o9.cell]; rfl
    have c2 : w9.cell? ((⟨w7.heap.size, 0, none⟩ : Addr).add 2) = some (.int .i64 a.w) := by rw [addr_lit, o9.cell]; rfl
    refine ld1_i (k := .int .i64) a.f c0 (ld1_i (k := .int .i64) a.t c1 ?_)
    have upd : (match bestOf P (a.f, a.t) with | some w => decide (w ≤ a.w) | none => false) = false → mapUpdateD Try.prog tmArr2Int (.map (some r)) (.agg #[.int .i64 a.f, .int .i64 a.t]) (.int .i64 a.w) w9 fun w11 => X (IntKind.wrap .i64 ((i : Int) + 1), ()) w11 := fun hb => by
      refine update_i (kn := .c (.int .i64)) und_mArr2Int keyArr2 hm9 (a.f, a.t) a.w fun w11 hm11 m11 _ => ?_
      rw [w64 (by omega) (by omega)]
      refine hX (xs.length - (i + 1)) _ _ (by omega) ⟨i + 1, _, hi', rfl, rfl, hm11.congr (fun x => ?_) rfl, m79.tr m11⟩
      rw [tk, best_put hok hma, hb, if_neg (by simp)]; rfl
    refine lookup2_i (kn := .c (.int .i64)) und_mArr2Int keyArr2 (z := (0 : Int)) zero_int hm9 (a.f, a.t) ?_
    cases hb : bestOf P (a.f, a.t) with
    | none =>
      rw [hb] at upd
      refine cond_i (fun _ => ?_) (fun h => by cases h)
      exact ld1_i (k := .int .i64) a.f c0 (ld1_i (k := .int .i64) a.t c1 (ld1_i (k := .int .i64) a.w c2 (upd rfl)))
    | some w0 =>
      rw [hb] at upd
      refine cond_i (fun h => by cases h) (fun _ => ld1_i (k := .int .i64) a.w c2 ?_)
      show cond (decide (a.w < w0)) _ _
      refine cond_d (fun hw => ?_) (fun hw => ?_)
      · exact ld1_i (k := .int .i64) a.f c0 (ld1_i (k := .int .i64) a.t c1 (ld1_i (k := .int .i64) a.w c2 (upd (by simp only [decide_eq_false_iff_not]; omega))))
      · rw [w64 (by omega) (by omega)]
        refine hX (xs.length - (i + 1)) _ _ (by omega) ⟨i + 1, q, hi', rfl, rfl, hm9.congr (fun x => ?_) rfl, m79⟩
        rw [tk, best_put hok hma, hb]; simp only [decide_eq_true_eq]; rw [if_pos (by omega)]
  · have e : i = xs.length := by omega
    subst e
    rw [List.take_length, ← hnet] at hm7
    have hN7 := hN6.mod m7 hNr
    have K7 : Keep W w7 := Mod.fresh K6 m7 fun k e => by rw [e]; exact hmb
    refine All_i hN7 hsm fun s2 w13 v2 k13 f2 => ?_
    have hN13 := hN7.keep k13
    have s2l := v2.len
    have hsml := hN.ok.len hN.sz
    -- those that go from each, and to each
    have sumle : ∀ (key : Arc → Int) (j : Nat), ((List.range j).map fun v : Nat => (L.filter fun x => decide (key x = (v : Int))).length).sum ≤ j * 262144 := fun key j => by
      induction j with
      | zero => simp
      | succ j ih =>
        rw [List.range_succ, List.map_append, List.sum_append]
        have := List.length_filter_le (fun x => decide (key x = (j : Int))) L
        simp only [List.map_cons, List.map_nil, List.sum_cons, List.sum_nil]; omega
    refine loop_i (fun c t w14 => ∃ (j : Nat), j ≤ m ∧ c = m - j ∧ t = ((((List.range j).map fun v : Nat => (inL L (v : Int)).length).sum : Int), (((List.range j).map fun v : Nat => (outL L (v : Int)).length).sum : Int), (j : Int), ()) ∧ Keep w13 w14) m
      ⟨0, Nat.zero_le _, rfl, rfl, Mod.refl _ _⟩ ?_
    rintro c t w14 ⟨j, hj, rfl, rfl, k14⟩ Y hY
    dsimp only
    refine cond_d (fun hlt => ?_) (fun hge => ?_)
    · refine In_i (hN13.keep k14) fun s3 w15 v3 k15 _ => ?_
      refine Out_i ((hN13.keep k14).keep k15) fun s4 w16 v4 k16 _ => ?_
      have l3 := v3.len
      have l4 := v4.len
      have b3 := sumle Arc.t (j + 1)
      have b4 := sumle Arc.f (j + 1)
      rw [List.range_succ, List.map_append, List.sum_append] at b3 b4
      simp only [List.map_cons, List.map_nil, List.sum_cons, List.sum_nil, Nat.add_zero] at b3 b4
      have e3 : ((List.range (j + 1)).map fun v : Nat => (inL L (v : Int)).length).sum = ((List.range j).map fun v : Nat => (inL L (v : Int)).length).sum + s3.l := by
        rw [List.range_succ, List.map_append, List.sum_append, l3]; simp
      have e4 : ((List.range (j + 1)).map fun v : Nat => (outL L (v : Int)).length).sum = ((List.range j).map fun v : Nat => (outL L (v : Int)).length).sum + s4.l := by
        rw [List.range_succ, List.map_append, List.sum_append, l4]; simp
      have b3' : ((List.range j).map fun v : Nat => (inL L (v : Int)).length).sum + (inL L (j : Int)).length ≤ (j + 1) * 262144 := b3
      have b4' : ((List.range j).map fun v : Nat => (outL L (v : Int)).length).sum + (outL L (j : Int)).length ≤ (j + 1) * 262144 := b4
      rw [← l3] at b3'
      rw [← l4] at b4'
      rw [w64 (by omega) (by omega), w64 (by omega) (by omega), w64 (by omega) (by omega)]
      refine hY (m - (j + 1)) _ _ (by omega) ⟨j + 1, by omega, rfl, ?_, (k14.tr k15).tr k16⟩
      rw [e3, e4]
      simp
    · have e : j = m := by omega
      subst e
      have sIn : ((List.range j).map fun v : Nat => (inL L (v : Int)).length).sum = L.length := len_by fun a ha => by have := hN.ok.may a ha; exact ⟨this.2.2.1, this.2.2.2.1⟩
      have sOut : ((List.range j).map fun v : Nat => (outL L (v : Int)).length).sum = L.length := len_by fun a ha => by have := hN.ok.may a ha; exact ⟨this.1, this.2.1⟩
      have hm14 := (hm7.mod k13 id).mod k14 id
      have v214 := v2.mod k14 (fun _ _ => id)
      refine loop_i (fun c t w17 => ∃ (i : Nat), i ≤ L.length ∧ c = L.length - i ∧ t = ((i : Int), ()) ∧ Keep w14 w17) L.length
        ⟨0, Nat.zero_le _, rfl, rfl, Mod.refl _ _⟩ ?_
      rintro c t w17 ⟨i, hi, rfl, rfl, k17⟩ Z hZ
      dsimp only
      have v217 := v214.mod k17 (fun _ _ => id)
      have hm17 := hm14.mod k17 id
      refine cond_d (fun hlt => ?_) (fun hge => ?_)
      · have hi' : i < L.length := by omega
        refine ⟨⟨by omega, by omega⟩, ?_⟩
        obtain ⟨p, hp, hh⟩ := rd_tup (v217.rd lenA) (List.getElem?_eq_getElem hi')
        have hget : L[i]? = some L[i] := List.getElem?_eq_getElem hi'
        have hfind := findL_eq hN.ok.srt (List.getElem_mem hi')
        generalize L[i] = a at *
        refine onSome_i hp (ldN_i (tupA a) hh ?_)
        simp only [allocD]
        have k3 := Keep.alloc w17 (.cells #[Value.int .i64 0, Value.int .i64 0, Value.int .i64 0, Value.int .i64 0] 32)
        have o3 : Own (w17.alloc (.cells #[Value.int .i64 0, Value.int .i64 0, Value.int .i64 0, Value.int .i64 0] 32)) w17.heap.size 32 (eArc ⟨0, 0, 0, 0⟩) := Own.alloc' w17 _ 32
        refine zero_store (x := a) o3 rfl fun w19 o19 m19 => ?_
        have d19 : Keep w19 w19.drew := Mod.drew (Mod.refl _ w19)
        have k19 : Keep w17 w19.drew := (Mod.fresh k3 m19 fun k hk => by omega).tr d19
        have o19d := o19.mod d19 id
        have c0 : w19.drew.cell? ((⟨w17.heap.size, 0, none⟩ : Addr).add 0) = some (.int .i64 a.f) := by rw [addr_lit, o19d.cell]; rfl
        have c1 : w19.drew.cell? ((⟨w17.heap.size, 0, none⟩ : Addr).add 1) = some (.int .i64 a.t) := by rw [addr_lit, o19d.cell]; rfl
        have c2 : w19.drew.cell? ((⟨w17.heap.size, 0, none⟩ : Addr).add 2) = some (.int .i64 a.w) := by rw [addr_lit, o19d.cell]; rfl
        refine ld1_i (k := .int .i64) a.f c0 (ld1_i (k := .int .i64) a.t c1 (ld1_i (k := .int .i64) a.w c2 ?_))
        refine lookup1_i (kn := .c (.int .i64)) und_mArr2Int keyArr2 (z := (0 : Int)) zero_int (hm17.mod k19 id) (a.f, a.t) ?_
        have hb : bestOf L (a.f, a.t) = some a.w := by unfold bestOf; rw [hfind]; rfl
        rw [hb]
        refine ⟨c2, ?_⟩
        refine cond_i (fun h => absurd h (by show ¬ ((a.w != a.w) = true); simp)) (fun _ => ?_)
        have next : Z (IntKind.wrap .i64 ((i : Int) + 1), ()) w19.drew := by
          rw [w64 (by omega) (by omega)]
          exact hZ (L.length - (i + 1)) _ _ (by omega) ⟨i + 1, hi', rfl, rfl, k17.tr k19⟩
        refine cond_d (fun hpos => ?_) (fun _ => next)
        rw [w64 (n := (i : Int) - 1) (by omega) (by omega)]
        have hi1 : i - 1 < L.length := by omega
        obtain ⟨p', hp', hh'⟩ := rd_tup ((v217.mod k19 (fun _ _ => id)).rd lenA) (List.getElem?_eq_getElem hi1)
        have hlt2 := hN.ok.srt.get (p := i - 1) (q := i) (by omega) (List.getElem?_eq_getElem hi1) hget
        generalize L[i - 1] = y at *
        rw [show ((i : Int) - 1).toNat = i - 1 by omega]
        have bnd : 0 ≤ (i : Int) - 1 ∧ (i : Int) - 1 < (s2.l : Int) := ⟨by omega, by omega⟩
        have y0 : w19.drew.cell? ((p'.add ((i - 1) * 4)).add 0) = some (.int .i64 y.f) := hh'.1
        have y1 : w19.drew.cell? ((p'.add ((i - 1) * 4)).add 1) = some (.int .i64 y.t) := hh'.2.1
        refine ⟨bnd, onSome_i hp' (ld1_i (k := .int .i64) y.f y0 (ld1_i (k := .int .i64) a.f c0 ?_))⟩
        refine cond_d (fun h => by omega) (fun _ => ?_)
        refine ⟨bnd, onSome_i hp' (ld1_i (k := .int .i64) y.f y0 (ld1_i (k := .int .i64) a.f c0 ?_))⟩
        refine cond_i (fun he => ?_) (fun _ => next)
        have he' : y.f = a.f := by simpa using he
        refine ⟨bnd, onSome_i hp' (ld1_i (k := .int .i64) y.t y1 (ld1_i (k := .int .i64) a.t c1 ?_))⟩
        exact cond_d (fun h => by omega) (fun _ => next)
      · obtain ⟨ks, kn, kl, kk⟩ := hm17.keys
        have hq : q = L.length := by rw [← kl]; exact best_keys hN.ok.srt kn kk
        refine mapLen_i und_mArr2Int hm17 ?_
        refine cond_i (fun _ => ?_) (fun h => by rw [hq, s2l] at h; simp at h)
        refine cond_i (fun _ => ?_) (fun h => by rw [sIn, s2l] at h; simp at h)
        refine cond_i (fun _ => ?_) (fun h => by rw [sOut, s2l] at h; simp at h)
        exact awake13_i fun w' k => hQ w' ((((K7.tr k13).tr k14).tr k17).tr k)
end Go.Proofs.Ytelbklglflhleaa
