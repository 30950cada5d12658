import Derived.Test.YtjjgcimlmjnaeaaGreatQ7
import Derived.Test.YtjjgcimlmjnaeaaGreatFTow
import Derived.Test.YtjjgcimlmjnaeaaGreatA4
import Derived.Test.YtjjgcimlmjnaeaaGreatQ4
import Derived.Test.YtjjgcimlmjnaeaaGreatQ3
import Derived.Test.YtjjgcimlmjnaeaaGreatQ6
namespace Go.Proofs.YtjjgcimlmjnaeaaGreat
open Go Go.Den
abbrev ses0 (a v : Int) : Ses := ⟨a, v, [], false, false⟩
theorem SNew_bad {e : Option Addr} {at_ node : Int} {closed : Sl} {w : World} {Q : Option Addr → Sl → Int → World → Prop} (hb : e = none ∨ at_ < 0) (hQ : Q none ⟨none, 0, 0⟩ 1 w) : F_session_New e at_ node closed w Q := by
 unfold F_session_New
 rcases hb with rfl | hb
 ·exact cond_i (fun _ => hQ) (fun h => by simp at h)
 ·exact cond_i (fun _ => hQ) (fun _ => cond_d (fun _ => hQ) (fun h => absurd hb h))
theorem SNew_i {E : EngS} {G : Gr} {at_ node : Int} {closed : Sl} {c : List Bool} {W : World} {Q : Option Addr → Sl → Int → World → Prop} (h : EngIs W E G) (hc : Rd W closed 1 eB c)
  (hbad : ¬ (G.isE at_ ∧ G.isN node) → Q none ⟨none, 0, 0⟩ 1 W)
  (hQ : G.isE at_ → G.isN node → ∀ z ms w', AskR G c (ses0 at_ node) z → SesAt (fun k => k ≤ W.heap.size) W w' W.heap.size E G z.1 → OkS G z.1 → MsgsIs w' (fun k => W.heap.size < k) ms (mOpened :: z.2) → z.2.length ≤ 2 ∧ 1 ≤ z.2.length → Keep W w' → Q (some ⟨W.heap.size, 0, none⟩) ms 0 w') :
  F_session_New (some ⟨E.e, 0, none⟩) at_ node closed W Q := by
 unfold F_session_New
 refine cond_i (fun h => by simp at h) (fun _ => cond_d (fun h0 => hbad fun hh => by have := hh.1.1; omega) (fun h0 => ?_))
 refine onSome_i rfl (ld1_i (k := .ptr) (some ⟨E.t.t, 0, none⟩) h.cells.1 (onSome_i rfl (ld1_i (k := .ptr) (some ⟨E.t.H.g, 0, none⟩) h.tur.cells.1 (Edges_i h.tur.gra ?_))))
 refine cond_d (fun h1 => hbad fun hh => by have := hh.1.2; omega) (fun h1 => cond_d (fun h2 => hbad fun hh => by have := hh.2.1; omega) (fun h2 => ?_))
 refine onSome_i rfl (ld1_i (k := .ptr) (some ⟨E.t.t, 0, none⟩) h.cells.1 (onSome_i rfl (ld1_i (k := .ptr) (some ⟨E.t.H.g, 0, none⟩) h.tur.cells.1 (Nodes_i h.tur.gra ?_))))
 refine cond_d (fun h3 => hbad fun hh => by have := hh.2.2; omega) (fun h3 => ?_)
 have hE : G.isE at_ := ⟨by omega, by omega⟩
 have hN : G.isN node := ⟨by omega, by omega⟩
 refine alloc_i fun w1 o1 k1 z1 => alloc_i fun w2 o2 k2 z2 => ?_
 have o1' : Own w1 W.heap.size tSess (eSe E.e (ses0 at_ node) ⟨none, 0, 0⟩) := o1
 have K2 := k1.tr k2
 have h2 : SesAt (fun k => k ≤ w1.heap.size) W w2 W.heap.size E G (ses0 at_ node) := ⟨h, K2, Nat.le_refl _, ⟨⟨none, 0, 0⟩, o1'.mod k2 id, Rd.nil _ _ _, fun b hb => by cases hb⟩, by omega⟩
 refine asks_i h2 hE hN (hc.mod K2 eB_ne fun _ _ => id) (fun k hk => by omega) fun z ms w3 hz h3 ok3 q3 l3 m3 => ?_
 have z3 := m3.size
 have g1 : w1.heap.size ≠ W.heap.size := by omega
 refine msgs_app (x := (mOpened, ⟨none, 0, 0⟩)) (P := fun k => W.heap.size < k) (o2.mod m3 g1) (MsgX.none rfl) (by omega) (fun k hk => by omega) (q3.wk fun k hk _ => ⟨by omega, by omega⟩) (by omega) fun r w4 q4 m4 => ?_
 exact hQ hE hN z r w4 hz ((h3.mod m4 fun k hk => ⟨by omega, .inl (by omega), by omega⟩).more (fun k hk => .inl (by omega)) (Nat.le_refl _)) ok3 q4 l3 ((K2.fresh m3 fun k e => by rw [show k = W.heap.size from e]; exact Nat.le_refl _).fresh m4 fun k e => by rw [show k = w1.heap.size from e]; omega)
theorem slice_blk {b : Option Addr} {c l n : Nat} {a : Addr} (h : sliceAddr b c l n = some a) : ∃ a0, b = some a0 ∧ a.block = a0.block := by
 unfold sliceAddr at h
 split at h
 ·exact ⟨a, h, rfl⟩
 ·cases b with
  | none => cases h
  | some x => cases h; exact ⟨x, rfl, by simp⟩
section
variable {F : Nat → Prop} {W0 w : World} {s : Nat} {E : EngS} {G : Gr} {p : Ses}
theorem Report_none {pos : Int} {closed : Sl} {Q : Sl → World → Prop} (hQ : Q ⟨none, 0, 0⟩ w) : F_sS_Report none pos closed w Q := by
 unfold F_sS_Report F_sS_Done
 exact cond_i (fun _ => cond_i (fun _ => hQ) (fun h => by simp at h)) (fun h => by simp at h)
theorem Report_i {pos : Int} {closed : Sl} {c : List Bool} {Q : Sl → World → Prop} (h : SesAt F W0 w s E G p) (okS : OkS G p) (hc : Rd w closed 1 eB c) (hcs : ∀ b, closed.b = some b → b.block ≠ s) (hF : ∀ k, F k → k < w.heap.size)
  (hQ : ∀ z ms w', RepR G c p pos z → SesAt F W0 w' s E G z.1 → OkS G z.1 → MsgsIs w' (fun k => w.heap.size ≤ k) ms z.2 → z.2.length ≤ 2 → Mod (fun k => k = s) w w' → Q ms w') :
  F_sS_Report (some ⟨s, 0, none⟩) pos closed w Q := by
 unfold F_sS_Report
 have ok := h.eng.tur.gra.ok
 have lit : ∀ k : Nat, ((⟨s, 0, none⟩ : Addr).add k) = ⟨s, k, none⟩ := fun k => by rw [addr_lit, Nat.zero_add]
 have slt := h.lt
 refine Done_i h (cond_i (fun hov => ?_) (fun hov => ?_))
 ·exact hQ (p, []) _ w (by unfold RepR; rw [if_pos hov]) h okS MsgsIs.nil (by simp) (Mod.refl _ _)
 have nov : ¬ p.over = true := by rw [hov]; simp
 have he := h.e
 refine onSome_i rfl (ld1_i (k := .ptr) (some ⟨E.e, 0, none⟩) h.cell.1 (onSome_i rfl (ld1_i (k := .ptr) (some ⟨E.t.t, 0, none⟩) he.cells.1 (onSome_i rfl (ld1_i (k := .ptr) (some ⟨E.t.H.g, 0, none⟩) he.tur.cells.1 ?_)))))
 refine Edge_i he.tur.gra (fun hE w2 k2 => ?_) (fun hE w2 k2 => ?_)
 ·refine agg_new (vs := [.int .i64 (G.fr pos), .int .i64 (G.to pos), .int .i64 (G.wt pos)]) size_Edge rfl (by simp [Value.oneCell']) fun w4 o4 k4 z4 => ?_
  refine cond_i (fun h => by simp at h) (fun _ => ?_)
  have K4 := k2.tr k4
  have h4 := h.keep K4
  intro J1 hJ1
  have j1 : ¬ (p.has = true ∧ pos = p.pos) → ¬ (p.has = true ∧ p.way.head? = some pos) → ∀ w6, Keep w w6 → J1 () w6 := by
   intro n1 n2 w6 k6
   apply hJ1
   obtain ⟨sl, o, hr, hb⟩ := (h.keep k6).own
   refine onSome_i rfl ?_
   rw [lit 1]
   refine storeD1_i (o := 1) (v := .int .i64 pos) o size_Int (by simp) rfl rfl fun w7 o7 m7 z7 => ?_
   have h7 : SesAt F W0 w7 s E G { p with pos := pos } := (h.keep k6).put m7 o7 (hr.mod m7 eI_ne fun b hb' e => (hb b hb').1 (by rw [show b.block = s from e]; exact h.fs)) fun b hb' => ⟨(hb b hb').1, by rw [z7]; exact (hb b hb').2⟩
   have s6 := k6.size
   refine asks_i h7 hE okS.node ((hc.mod k6 eB_ne fun _ _ => id).mod m7 eB_ne fun b hb' e => hcs b hb' e) (fun k hk => by have := hF k hk; omega) fun z ms w8 hz h8 ok8 q8 l8 m8 => ?_
   refine hQ z ms w8 ?_ h8 ok8 (q8.wk fun k hk _ => by omega) l8.1 ((k6.wk.tr m7).tr m8)
   unfold RepR
   rw [if_neg nov, if_neg (by simpa using hE), if_neg n1, if_neg n2]
   exact hz
  intro J2 hJ2
  have j2 : ∀ b : Bool, (b = true ↔ (p.has = true ∧ pos = p.pos)) → J2 (b, ()) w4 := by
   intro b hb
   apply hJ2
   refine cond_i (fun hbt => ?_) (fun hbf => ?_)
   ·have hh := hb.1 hbt
    refine shint_i h4 okS hh.1 fun ms w10 h10 q10 l10 m10 => ?_
    refine hQ _ ms w10 ?_ h10 okS.hintS (q10.wk fun k hk _ => by have := K4.size; omega) (by omega) (K4.wk.tr m10)
    unfold RepR
    rw [if_neg nov, if_neg (by simpa using hE), if_pos hh]
   ·have n1 : ¬ (p.has = true ∧ pos = p.pos) := fun hh => by have hbf' : b = false := hbf; rw [hb.2 hh] at hbf'; cases hbf'
    obtain ⟨_, _, _, c4, _, sl, o, c3, hr, hbk⟩ := h4.cell
    refine onSome_i rfl (ld1_i (k := .bool) p.has c4 (cond_i (fun hh => ?_) (fun hh => j1 n1 (fun g => by rw [hh] at g; cases g.1) w4 K4)))
    have sll := hr.len
    refine onSome_i rfl (ld1_i (k := .slice) sl c3 (cond_d (fun hlt => ?_) (fun hge => j1 n1 (fun g => ?_) w4 K4)))
    ·cases hway : p.way with
     | nil => rw [hway] at sll; simp at sll; omega
     | cons x rest =>
      rw [hway] at hr sll
      obtain ⟨a, ha, hx⟩ := rd_cell (k := .int .i64) (e := fun x => x) hr (show (x :: rest)[0]? = some x from rfl)
      refine onSome_i rfl (ld1_i (k := .slice) sl c3 ⟨⟨by omega, by omega⟩, onSome_i ha (ld1_i (k := .int .i64) x hx ?_)⟩)
      refine cond_i (fun hpx => ?_) (fun hpx => j1 n1 (fun g => ?_) w4 K4)
      ·have hpx' : pos = x := by simpa using hpx
       have d4 : Keep w4 w4.drew := Mod.drew (Mod.refl _ w4)
       have h4d := h4.keep d4
       have od := o.mod d4 id
       refine onSome_i rfl (ld1_i (k := .slice) sl (own_at od rfl) ⟨⟨by omega, by omega⟩, onSome_i rfl ?_⟩)
       rw [lit 1]
       refine storeD1_i (o := 1) (v := .int .i64 pos) od size_Int (by simp) rfl rfl fun w5 o5 m5 z5 => ?_
       refine onSome_i rfl ?_
       rw [lit 3]
       let sl' : Sl := ⟨sliceAddr sl.b sl.c 1 1, sl.l - 1, sl.c - 1⟩
       refine storeD1_i (o := 3) (v := sv sl') o5 size_sInt (by simp) rfl rfl fun w6 o6 m6 z6 => ?_
       have ns : ∀ b, sl.b = some b → ¬ b.block = s := fun b hb' e => (hbk b hb').1 (by rw [e]; exact h.fs)
       have hr6 := ((hr.mod d4 eI_ne fun _ _ => id).mod m5 eI_ne ns).mod m6 eI_ne ns
       have hp6 := hr6.part (i := 1) (j := sl.l) (c := sl.c) (by omega) (Nat.le_refl _) hr.cap (Nat.le_refl _)
       have hrest : ((x :: rest).drop 1).take (sl.l - 1) = rest := by
        rw [List.drop_one, List.tail_cons, List.take_of_length_le]
        simp only [List.length_cons] at sll; omega
       rw [hrest] at hp6
       have h6 : SesAt F W0 w6 s E G { p with pos := pos, way := rest } := h4d.put (m5.tr m6) o6 hp6 fun b hb' => by
        obtain ⟨a0, ha0, e⟩ := slice_blk hb'
        rw [e]
        have z4d : w4.drew.heap.size = w4.heap.size := rfl
        exact ⟨(hbk a0 ha0).1, by have := (hbk a0 ha0).2; omega⟩
       have hm : p.has = true ∧ p.way.head? = some pos := ⟨hh, by rw [hway, hpx']; rfl⟩
       have ok6 := okS.move hE hm
       rw [hway, List.tail_cons] at ok6
       refine shint_i h6 ok6 hh fun ms w7 h7 q7 l7 m7 => ?_
       have M6 : Mod (fun k => k = s) w w6 := (((K4.tr d4).wk).tr m5).tr m6
       refine hQ _ ms w7 ?_ h7 ok6.hintS (q7.wk fun k hk _ => by have := M6.size; omega) (by omega) (M6.tr m7)
       unfold RepR
       rw [if_neg nov, if_neg (by simpa using hE), if_neg n1, if_pos hm, hway, List.tail_cons]
      ·rw [hway] at g
       have : x = pos := by simpa using g.2
       rw [this] at hpx; simp at hpx
    ·rw [List.head?_eq_none_iff.2 (List.eq_nil_of_length_eq_zero (by omega))] at g
     cases g.2
  refine onSome_i rfl (ld1_i (k := .bool) p.has h4.cell.2.2.2.1 (cond_i (fun hh => onSome_i rfl (ld1_i (k := .int .i64) p.pos h4.cell.2.1 (j2 _ ?_))) (fun hh => j2 _ ?_)))
  ·have hh' : p.has = true := hh
   simp [hh']
  ·have hh' : p.has = false := hh
   simp [hh']
 ·refine agg_new (vs := [.int .i64 0, .int .i64 0, .int .i64 0]) size_Edge rfl (by simp [Value.oneCell']) fun w4 o4 k4 z4 => ?_
  refine cond_i (fun _ => ?_) (fun h => by simp at h)
  refine alloc_i fun w5 o5 k5 z5 => ?_
  have K4 := k2.tr k4
  refine hQ (p, [mWrong pos]) _ w5 ?_ (h.keep (K4.tr k5)) okS (MsgsIs.one (x := (mWrong pos, ⟨none, 0, 0⟩)) o5 (MsgX.none rfl) K4.size) (by simp) (K4.tr k5).wk
  unfold RepR
  rw [if_neg nov, if_pos hE]
end
end Go.Proofs.YtjjgcimlmjnaeaaGreat

namespace Go.Proofs.YtjjgcimlmjnaeaaGreat
open Go Go.Den
theorem IndexV_i {sl : Sl} {xs : List Int} {v : Int} {w : World} {Q : Int → World → Prop} (hr : Rd w sl 1 eI xs) (hl : xs.length < 1000000) (hQ : ∀ i w', Keep w w' → (0 ≤ i ↔ v ∈ xs) → Q i w') : F_slices_Index_sint_int sl v w Q := by
 unfold F_slices_Index_sint_int
 have hll := hr.len
 refine loop_i (fun c t w1 => ∃ (i : Nat), i ≤ xs.length ∧ c = xs.length - i ∧ t = ((i : Int), ()) ∧ Keep w w1 ∧ v ∉ xs.take i) xs.length ⟨0, Nat.zero_le _, rfl, rfl, Mod.refl _ _, by simp⟩ ?_
 rintro c t w1 ⟨i, hi, rfl, rfl, k1, hn⟩ X hX
 dsimp only
 refine cond_d (fun hlt => ?_) (fun hge => ?_)
 ·have hi' : i < xs.length := by omega
  have hget := List.getElem?_eq_getElem hi'
  have hmem := List.getElem_mem hi'
  have htk := List.take_succ_eq_append_getElem hi'
  generalize xs[i] = x at *
  obtain ⟨q, hq, hc⟩ := rd_cell (k := .int .i64) (e := fun x => x) (hr.mod k1 eI_ne fun _ _ => id) hget
  rw [Int.toNat_natCast]
  refine ⟨⟨by omega, hlt⟩, onSome_i hq (ld1_i (k := .int .i64) x hc (cond_i (fun h => hQ _ w1 k1 ⟨fun _ => ?_, fun _ => by omega⟩) (fun h => ?_)))⟩
  ·have : v = x := by simpa using h
   rw [this]; exact hmem
  ·have hne : v ≠ x := by simpa using h
   rw [wi_ i (by omega)]
   refine hX _ _ _ (by omega) ⟨i + 1, hi', rfl, rfl, k1, fun hy => ?_⟩
   rw [htk] at hy
   rcases List.mem_append.1 hy with hy | hy
   ·exact hn hy
   ·exact hne (by simpa using hy)
 ·have ei : i = xs.length := by omega
  subst ei
  rw [List.take_length] at hn
  exact hQ (-1) w1 k1 ⟨fun h => by omega, fun h => absurd h hn⟩
section
variable {F : Nat → Prop} {W0 w : World} {s : Nat} {E : EngS} {G : Gr} {p : Ses}
theorem Changed_i {shut open_ closed : Sl} {sh op : List Int} {c : List Bool} {Q : Sl → World → Prop} (h : SesAt F W0 w s E G p) (okS : OkS G p) (hsh : Rd w shut 1 eI sh) (hshl : sh.length < 1000000) (hop : Rd w open_ 1 eI op) (hc : Rd w closed 1 eB c) (hF : ∀ k, F k → k < w.heap.size)
  (hQ : ∀ z ms w', ChgR G c p sh op z → SesAt F W0 w' s E G z.1 → OkS G z.1 → MsgsIs w' (fun k => w.heap.size ≤ k) ms z.2 → z.2.length ≤ 2 → Mod (fun k => k = s) w w' → Q ms w') :
  F_sS_Changed (some ⟨s, 0, none⟩) shut open_ closed w Q := by
 unfold F_sS_Changed
 refine alloc_i fun w1 o1 k1 z1 => ?_
 have h1 := h.keep k1
 refine Done_i h1 (cond_i (fun hov => ?_) (fun hov => ?_))
 ·exact hQ (p, []) _ w1 (by unfold ChgR; rw [if_pos hov]) h1 okS MsgsIs.nil (by simp) k1.wk
 have nov : ¬ p.over = true := by rw [hov]; simp
 have slt := h.lt
 have s1 := k1.size
 obtain ⟨_, _, _, _, _, sl, _, c3, hr, _⟩ := h1.cell
 have len := okS.len
 refine onSome_i rfl (ld1_i (k := .slice) sl c3 ?_)
 refine ContainsI_i (p := fun x => decide (x ∈ sh)) (C := fun wx => Keep w1 wx) hr (by omega) (Mod.refl _ _) (fun _ _ a b => a.tr b) (fun x wx K hCx hx hK => ?_) fun b2 w3 k3 hb2 => ?_
 ·refine callV_i S_sS_Changed_c1 (by kernel_rfl) (decK_intro (ks := [.c (.int .i64), .c .ptr]) (t := (x, some ⟨w.heap.size, 0, none⟩, ())) ?_)
  show F_sS_Changed_c1 _ _ _ _
  unfold F_sS_Changed_c1 F_slices_Contains_sint_int
  have occ : wx.cell? ⟨w.heap.size, 0, none⟩ = some (sv shut) := by rw [(o1.mod hCx id).cell]; rfl
  refine onSome_i rfl (ld1_i (k := .slice) shut occ ?_)
  refine IndexV_i ((hsh.mod k1 eI_ne fun _ _ => id).mod hCx eI_ne fun _ _ => id) hshl fun i w2 k2 hi => ?_
  have e : decide (i ≥ (0 : Int)) = decide (x ∈ sh) := by
   by_cases hm : x ∈ sh
   ·rw [decide_eq_true hm, decide_eq_true (hi.2 hm)]
   ·rw [decide_eq_false hm, decide_eq_false (fun h => hm (hi.1 h))]
  rw [e]; exact hK w2 k2
 have K3 := k1.tr k3
 have h3 := h.keep K3
 have hb2' : b2 = true ↔ ∃ e ∈ p.way, e ∈ sh := by rw [hb2]; simp
 have ask : ∀ (T : Sl → World → Prop), (∀ z ms w', AskR G c p z → SesAt F W0 w' s E G z.1 → OkS G z.1 → MsgsIs w' (fun k => w.heap.size ≤ k) ms z.2 → z.2.length ≤ 2 ∧ 1 ≤ z.2.length → Mod (fun k => k = s) w w' → T ms w') → F_sS_asks (some ⟨s, 0, none⟩) closed w3 T := fun T hT => by
  have z3 := K3.size
  refine asks_i h3 okS.pos okS.node (hc.mod K3 eB_ne fun _ _ => id) (fun k hk => by have := hF k hk; omega) fun z ms w4 hz h4 ok4 q4 l4 m4 => ?_
  exact hT z ms w4 hz h4 ok4 (q4.wk fun k hk _ => by omega) l4 (K3.wk.tr m4)
 have opl := hop.len
 intro J1 hJ1
 have jh : p.has = true → (∃ e ∈ p.way, e ∈ sh) → J1 () w3 := by
  intro hh hm
  apply hJ1
  refine onSome_i rfl (ld1_i (k := .bool) p.has h3.cell.2.2.2.1 (ask _ fun z ms w4 hz h4 ok4 q4 l4 m4 => ?_))
  refine cond_i (fun h => by rw [hh] at h; cases h) (fun _ => ?_)
  refine hQ z ms w4 ?_ h4 ok4 q4 l4.1 m4
  unfold ChgR
  rw [if_neg nov, if_pos hh, if_pos hm]; exact hz
 have jn : p.has = false → op ≠ [] → J1 () w3 := by
  intro hh ho
  have nh : ¬ p.has = true := by rw [hh]; simp
  apply hJ1
  refine onSome_i rfl (ld1_i (k := .bool) p.has h3.cell.2.2.2.1 (ask _ fun z ms w4 hz h4 ok4 q4 l4 m4 => ?_))
  have hC : ChgR G c p sh op (z.1, if z.1.has = true then z.2 else []) := by
   unfold ChgR
   rw [if_neg nov, if_neg nh, if_neg ho]; exact ⟨z, hz, rfl⟩
  refine cond_i (fun _ => ?_) (fun h => by rw [hh] at h; cases h)
  refine onSome_i rfl (ld1_i (k := .bool) z.1.has h4.cell.2.2.2.1 (cond_i (fun hf => ?_) (fun hf => ?_)))
  ·have hf' : z.1.has = false := by simpa using hf
   rw [if_neg (by rw [hf']; simp)] at hC
   exact hQ _ _ w4 hC h4 ok4 MsgsIs.nil (by simp) m4
  ·have hf' : z.1.has = true := by simpa using hf
   rw [if_pos hf'] at hC
   exact hQ _ ms w4 hC h4 ok4 q4 l4.1 m4
 have stay : (p.has = true ∧ ¬ (∃ e ∈ p.way, e ∈ sh)) ∨ (p.has = false ∧ op = []) → Q ⟨none, 0, 0⟩ w3 := fun hs => by
  refine hQ (p, []) _ w3 ?_ h3 okS MsgsIs.nil (by simp) K3.wk
  unfold ChgR
  rw [if_neg nov]
  rcases hs with ⟨a, b⟩ | ⟨a, b⟩
  ·rw [if_pos a, if_neg b]
  ·rw [if_neg (by rw [a]; simp), if_pos b]
 have c4 := h3.cell.2.2.2.1
 have nope : p.has = false → cond (((open_.l : Nat) : Int) == (0 : Int)) (Q ⟨none, 0, 0⟩ w3) (J1 () w3) := fun hh => by
  refine cond_i (fun hz => stay (.inr ⟨hh, ?_⟩)) (fun hz => jn hh fun e => ?_)
  ·exact List.eq_nil_of_length_eq_zero (by simp at hz; omega)
  ·rw [opl, e] at hz; simp at hz
 refine onSome_i rfl (ld1_i (k := .bool) p.has c4 (cond_i (fun hh => ?_) (fun hh => ?_)))
 ·have hh' : p.has = true := hh
  refine cond_i (fun hn => stay (.inl ⟨hh', fun hm => ?_⟩)) (fun hy => onSome_i rfl (ld1_i (k := .bool) p.has c4 (cond_i (fun h => by rw [hh'] at h; cases h) (fun _ => jh hh' (hb2'.1 (by simpa using hy))))))
  rw [hb2'.2 hm] at hn; cases hn
 ·have hh' : p.has = false := hh
  exact onSome_i rfl (ld1_i (k := .bool) p.has c4 (cond_i (fun _ => nope hh') (fun h => by rw [hh'] at h; cases h)))
end
end Go.Proofs.YtjjgcimlmjnaeaaGreat

namespace Go.Proofs.YtjjgcimlmjnaeaaGreat
open Go Go.Den
section
variable {F : Nat → Prop} {W0 w : World} {s : Nat} {g : GT} {G : Gr} {p : Ses}
theorem rasks_i {closed : Sl} {c : List Bool} {Q : Sl → World → Prop} (h : RSesAt F W0 w s g G p) (hp : G.isE p.pos) (hn : G.isN p.node) (hc : Rd w closed 1 eB c) (hF : ∀ k, F k → k < w.heap.size)
  (hQ : ∀ z ms w', AskR G c p z → RSesAt F W0 w' s g G z.1 → OkS G z.1 → MsgsIs w' (fun k => w.heap.size ≤ k) ms z.2 → z.2.length ≤ 2 ∧ 1 ≤ z.2.length → Mod (fun k => k = s) w w' → Q ms w') :
  F_rS_asks (some ⟨s, 0, none⟩) closed w Q := by
 unfold F_rS_asks
 have ok := h.gok
 have slt := h.lt
 intro J1 hJ1
 have lit : ∀ b k : Nat, ((⟨b, 0, none⟩ : Addr).add k) = ⟨b, k, none⟩ := fun b k => by rw [addr_lit, Nat.zero_add]
 have core : ∀ b w1 (sl : Sl) wt f r l, Own w1 b tRAns (eAns (sl, wt, f, r, ())) → w.heap.size ≤ b → G.AnsIs p.node p.pos c l wt f r → Vec w1 tInt 1 eI sl l → l.length ≤ 51 → (∀ a, sl.b = some a → w.heap.size ≤ a.block) → Keep w w1 → J1 (some ⟨b, 0, none⟩, ()) w1 := by
  intro b w1 sl wt f r l o1 hb hA v1 hl f1 k1
  apply hJ1
  have d1 : Keep w1 w1.drew := Mod.drew (Mod.refl _ w1)
  have K1 := k1.tr d1
  have hd := h.keep K1
  have od := o1.mod d1 id
  have vd := v1.mod d1 fun _ _ => id
  have cd := own4 od
  refine onSome_i rfl (ld1_i (k := .slice) sl cd.1 (onSome_i rfl (ld1_i (k := .bool) f cd.2.2.1 ?_)))
  obtain ⟨sl0, o, hr, hb0⟩ := hd.own
  refine onSome_i rfl ?_
  rw [lit s 5]
  refine storeD1_i (o := 5) (v := sv sl) o size_sInt (by simp) rfl rfl fun w2 o2 m2 z2 => ?_
  have bs : b ≠ s := by omega
  have od2 := od.mod m2 bs
  refine ⟨(own4 od2).2.2.1, ?_⟩
  refine onSome_i rfl ?_
  rw [lit s 6]
  refine storeD1_i (o := 6) (v := .bool f) o2 size_Bool (by simp) rfl rfl fun w3 o3 m3 z3 => ?_
  have od3 := od2.mod m3 bs
  have ns : ∀ a, sl.b = some a → ¬ a.block = s := fun a ha e => by have := f1 a ha; omega
  have v3 := (vd.mod m2 ns).mod m3 ns
  have M3 : Mod (fun k => k = s) w w3 := (K1.wk.tr m2).tr m3
  have h3 : RSesAt F W0 w3 s g G { p with way := l, has := f } := hd.put (m2.tr m3) o3 (v3.rd lenI) fun a ha => ⟨fun hf => by have := f1 a ha; have := hF _ hf; omega, v3.lt ha⟩
  refine onSome_i rfl (ld1_i (k := .bool) f (own4 od3).2.2.1 ?_)
  refine cond_i (fun hf => ?_) (fun hf => ?_)
  ·have hf' : f = false := by simpa using hf
   refine alloc_i fun w4 o4 k4 z4 => ?_
   subst hf'
   have e : askW G p l wt false = ({ p with way := l, has := false }, [mNoRoute]) := by unfold askW; rw [if_neg (by simp)]
   have hz : AskR G c p ({ p with way := l, has := false }, [mNoRoute]) := ⟨l, wt, false, r, hA, e.symm⟩
   have hok := (ask_ok ok hp hn hA).1
   rw [e] at hok
   exact hQ _ _ w4 hz (h3.keep k4) hok (MsgsIs.one (x := (mNoRoute, ⟨none, 0, 0⟩)) o4 (MsgX.none rfl) M3.size) (by simp) (M3.tr k4.wk)
  ·have hf' : f = true := by simpa using hf
   subst hf'
   have hok := (ask_ok ok hp hn hA).2 rfl
   have e : askW G p l wt true = ((hintS G { p with way := l, has := true }).1, mRoute l wt :: (hintS G { p with way := l, has := true }).2) := by unfold askW; rw [if_pos rfl]
   have hz : AskR G c p ((hintS G { p with way := l, has := true }).1, mRoute l wt :: (hintS G { p with way := l, has := true }).2) := ⟨l, wt, true, r, hA, e.symm⟩
   have d3 : Keep w3 w3.drew := Mod.drew (Mod.refl _ w3)
   have odd := od3.mod d3 id
   have h5 := h3.keep d3
   have M5 := M3.tr d3.wk
   have zz := M5.size
   have v5 := v3.mod d3 fun _ _ => id
   have hOk5 : OkS G (hintS G { p with way := l, has := true }).1 := hok.hintS
   refine onSome_i rfl (ld1_i (k := .slice) sl (own4 odd).1 (onSome_i rfl (ld1_i (k := .int .i64) wt (own4 odd).2.1 ?_)))
   generalize w3.drew = w5 at *
   have mx : ∀ {wx : World} (g : Nat), Mod (fun k => k = s) w5 wx → w5.heap.size ≤ g → MsgX wx (fun k => w.heap.size ≤ k ∧ k ≠ g) (mRoute l wt, sl) := fun g kx hg => by
    have vx := v5.mod kx ns
    exact ⟨vx.rd lenI, fun a ha => ⟨⟨f1 a ha, by have := v5.lt ha; omega⟩, vx.lt ha⟩, hl⟩
   have W0le := h.k0.size
   have g5 : w5.heap.size ≠ s := by omega
   refine ⟨?_, ?_⟩
   ·refine alloc_i fun w6 o6 k6 z6 => ?_
    have h5g : RSesAt (fun k => F k ∨ k = w5.heap.size) W0 w5 s g G { p with way := l, has := true } := h5.more (fun k hk => hk.elim .inl (fun e => .inr (by omega))) (.inl h5.fs)
    refine rhint_i (h5g.keep k6) hok rfl fun ms w7 h7 q7 hl7 m7 => ?_
    have z7 := m7.size
    refine msgs_app (x := (mRoute l wt, sl)) (P := fun k => w.heap.size ≤ k) (o6.mod m7 g5) (mx w5.heap.size (k6.wk.tr m7) (Nat.le_refl _)) (by omega) (fun k hk => by omega) (q7.wk fun k hk _ => ⟨by omega, by omega⟩) (by omega) fun r' w8 q8 m8 => ?_
    refine hQ _ _ w8 hz ((h7.mod m8 fun k hk => ⟨by omega, .inl (.inr hk), by omega⟩).more (fun k hk => .inl (.inl hk)) h.fs) hOk5 q8 ⟨by simp [hl7], by simp⟩ ((M5.tr (k6.wk.tr m7)).trans m8 fun k hk e => by omega)
   ·refine rhint_i h5 hok rfl fun ms w9 h9 q9 hl9 m9 => ?_
    have z9 := m9.size
    have c9 := own4 (odd.mod m9 bs)
    refine ⟨c9.2.1, c9.1, ?_⟩
    refine alloc_i fun w10 o10 k10 z10 => ?_
    have h9g : RSesAt (fun k => F k ∨ k = w9.heap.size) W0 w9 s g G (hintS G { p with way := l, has := true }).1 := h9.more (fun k hk => hk.elim .inl (fun e => .inr (by omega))) (.inl h9.fs)
    have q9' : MsgsIs w9 (fun k => w.heap.size ≤ k ∧ k ≠ w9.heap.size) ms (hintS G { p with way := l, has := true }).2 := q9.wk fun k hk hlt => ⟨by omega, by omega⟩
    refine msgs_app (x := (mRoute l wt, sl)) (P := fun k => w.heap.size ≤ k) o10 (mx w9.heap.size (m9.tr k10.wk) z9) (by omega) (fun k hk => by omega) (q9'.keep k10) (by omega) fun r' w11 q11 m11 => ?_
    refine hQ _ _ w11 hz (((h9g.keep k10).mod m11 fun k hk => ⟨by omega, .inl (.inr hk), by omega⟩).more (fun k hk => .inl (.inl hk)) h.fs) hOk5 q11 ⟨by simp [hl9], by simp⟩ (((M5.tr m9).tr k10.wk).trans m11 fun k hk e => by omega)
 have d : Keep w w.drew := Mod.drew (Mod.refl _ w)
 have hd := h.keep d
 obtain ⟨_, _, _, _, cg, _, c3, c4, _⟩ := hd.cell
 have hcd := hc.mod d eB_ne fun _ _ => id
 refine onSome_i rfl (ldN_i (l := [.slice, .slice, .slice]) g cg (onSome_i rfl (ld1_i (k := .int .i64) p.pos c3 (onSome_i rfl (ld1_i (k := .int .i64) p.node c4 ?_)))))
 refine ⟨?_, ?_⟩
 ·refine RAsk_i hd.e ok hcd fun sl wt f r l w1 hA v1 hl f1 k1 => ?_
  refine agg_new (vs := eAns (sl, wt, f, r, ())) size_RAns rfl (oneAns _) fun w2 o2 k2 z2 => ?_
  exact core _ w2 sl wt f r l o2 (by have := k1.size; have := d.size; omega) hA (v1.mod k2 fun _ _ => id) hl (fun a ha => by have := f1 a ha; have := d.size; omega) ((d.tr k1).tr k2)
 ·refine alloc_i fun w1 o1 k1 z1 => ?_
  have o1' : Own w1 w.drew.heap.size tRAns (eAns (⟨none, 0, 0⟩, 0, false, false, ())) := o1
  refine ⟨k1.cell c4 id, k1.cell c3 id, holds_k cg k1, ?_⟩
  refine RAsk_i (hd.keep k1).e ok (hcd.mod k1 eB_ne fun _ _ => id) fun sl wt f r l w2 hA v2 hl f2 k2 => ?_
  refine agg_store (vs := eAns (sl, wt, f, r, ())) (o1'.mod k2 id) size_RAns rfl (oneAns _) fun w3 o3 m3 _ => ?_
  have ds := d.size
  refine core _ w3 sl wt f r l o3 ds hA (v2.mod m3 fun a ha e => ?_) hl (fun a ha => by have := f2 a ha; omega) (((d.tr k1).tr k2).fresh m3 fun k e => by rw [show k = w.drew.heap.size from e]; exact ds)
  have := f2 a ha
  have e' : a.block = w.drew.heap.size := e
  omega
end
theorem RSNew_i {g : GT} {G : Gr} {at_ node : Int} {closed : Sl} {c : List Bool} {W : World} {Q : Option Addr → Sl → World → Prop} (h : GvIs W g G) (ok : OkG G) (hc : Rd W closed 1 eB c)
  (hbad : ¬ (G.isE at_ ∧ G.isN node) → ∀ w', Keep W w' → Q none ⟨none, 0, 0⟩ w')
  (hQ : G.isE at_ → G.isN node → ∀ s z ms w', W.heap.size ≤ s → AskR G c (ses0 at_ node) z → RSesAt (fun k => k ≤ s) W w' s g G z.1 → OkS G z.1 → MsgsIs w' (fun k => s < k) ms (mOpened :: z.2) → z.2.length ≤ 2 ∧ 1 ≤ z.2.length → Keep W w' → Q (some ⟨s, 0, none⟩) ms w') :
  F_ref24_NewSession g at_ node closed W Q := by
 unfold F_ref24_NewSession
 refine alloc_i fun w0 o0 k0 z0 => ?_
 have og : ∀ {wx : World}, Keep w0 wx → Own wx W.heap.size tAGraph (gcs g) := fun kx => o0.mod kx id
 refine ldN_i (l := [.slice, .slice, .slice]) g (own_g (g := g) (og (Mod.refl _ _))) ?_
 refine REdge_i (h.keep k0) ok fun w1 k1 => ?_
 refine cond_i (fun he => hbad (fun hh => by rw [decide_eq_true hh.1] at he; cases he) w1 (k0.tr k1)) (fun he => ?_)
 have hE : G.isE at_ := by simpa using he
 refine ldN_i (l := [.slice, .slice, .slice]) g (own_g (g := g) (og k1)) ?_
 refine RNode_i (h.keep (k0.tr k1)) ok fun w2 k2 => ?_
 refine cond_i (fun he => hbad (fun hh => by rw [decide_eq_true hh.2] at he; cases he) w2 ((k0.tr k1).tr k2)) (fun he => ?_)
 have hN : G.isN node := by simpa using he
 refine ldN_i (l := [.slice, .slice, .slice]) g (own_g (g := g) (og (k1.tr k2))) ?_
 have KW := (k0.tr k1).tr k2
 refine alloc_i fun w3 o3 k3 z3 => alloc_i fun w4 o4 k4 z4 => ?_
 have o3' : Own w3 w2.heap.size tRSess (eRSe g (ses0 at_ node) ⟨none, 0, 0⟩) := o3
 have K4 := (KW.tr k3).tr k4
 have zW := KW.size
 have h4 : RSesAt (fun k => k ≤ w3.heap.size) W w4 w2.heap.size g G (ses0 at_ node) := ⟨h, ok, K4, zW, ⟨⟨none, 0, 0⟩, o3'.mod k4 id, Rd.nil _ _ _, fun b hb => by cases hb⟩, by omega⟩
 refine rasks_i h4 hE hN (hc.mod K4 eB_ne fun _ _ => id) (fun k hk => by omega) fun z ms w5 hz h5 ok5 q5 l5 m5 => ?_
 have z5 := m5.size
 have g1 : w3.heap.size ≠ w2.heap.size := by omega
 refine msgs_app (x := (mOpened, ⟨none, 0, 0⟩)) (P := fun k => w2.heap.size < k) (o4.mod m5 g1) (MsgX.none rfl) (by omega) (fun k hk => by omega) (q5.wk fun k hk _ => ⟨by omega, by omega⟩) (by omega) fun r w6 q6 m6 => ?_
 exact hQ hE hN _ z r w6 zW hz ((h5.mod m6 fun k hk => ⟨by omega, .inl (by omega), by omega⟩).more (fun k hk => .inl (by omega)) (Nat.le_refl _)) ok5 q6 l5 ((K4.fresh m5 fun k e => by rw [show k = w2.heap.size from e]; exact zW).fresh m6 fun k e => by rw [show k = w3.heap.size from e]; omega)
section
variable {F : Nat → Prop} {W0 w : World} {s : Nat} {g : GT} {G : Gr} {p : Ses}
theorem RReport_i {pos : Int} {closed : Sl} {c : List Bool} {Q : Sl → World → Prop} (h : RSesAt F W0 w s g G p) (okS : OkS G p) (hc : Rd w closed 1 eB c) (hcs : ∀ b, closed.b = some b → b.block ≠ s) (hF : ∀ k, F k → k < w.heap.size)
  (hQ : ∀ z ms w', RepR G c p pos z → RSesAt F W0 w' s g G z.1 → OkS G z.1 → MsgsIs w' (fun k => w.heap.size ≤ k) ms z.2 → z.2.length ≤ 2 → Mod (fun k => k = s) w w' → Q ms w') :
  F_rS_Report (some ⟨s, 0, none⟩) pos closed w Q := by
 unfold F_rS_Report
 have ok := h.gok
 have lit : ∀ k : Nat, ((⟨s, 0, none⟩ : Addr).add k) = ⟨s, k, none⟩ := fun k => by rw [addr_lit, Nat.zero_add]
 have slt := h.lt
 intro J1 hJ1
 obtain ⟨_, _, _, _, cg, _, _, _, _, _, c7⟩ := h.cell
 refine onSome_i rfl (ld1_i (k := .bool) p.over c7 (cond_i (fun hov => ?_) (fun hov => ?_)))
 ·exact hQ (p, []) _ w (by unfold RepR; rw [if_pos hov]) h okS MsgsIs.nil (by simp) (Mod.refl _ _)
 have hov' : p.over = false := hov
 have nov : ¬ p.over = true := by rw [hov']; simp
 refine onSome_i rfl (ldN_i (l := [.slice, .slice, .slice]) g cg (REdge_i h.e ok fun w4 K4 => ?_))
 refine cond_i (fun he => ?_) (fun he => ?_)
 ·have hE : ¬ G.isE pos := fun hh => by rw [decide_eq_true hh] at he; cases he
  refine alloc_i fun w5 o5 k5 z5 => ?_
  refine hQ (p, [mWrong pos]) _ w5 ?_ (h.keep (K4.tr k5)) okS (MsgsIs.one (x := (mWrong pos, ⟨none, 0, 0⟩)) o5 (MsgX.none rfl) K4.size) (by simp) (K4.tr k5).wk
  unfold RepR
  rw [if_neg nov, if_pos hE]
 ·have hE : G.isE pos := by simpa using he
  have h4 := h.keep K4
  have j1 : ¬ (p.has = true ∧ pos = p.pos) → ¬ (p.has = true ∧ p.way.head? = some pos) → ∀ w6, Keep w w6 → J1 () w6 := by
   intro n1 n2 w6 k6
   apply hJ1
   obtain ⟨sl, o, hr, hb⟩ := (h.keep k6).own
   refine onSome_i rfl ?_
   rw [lit 3]
   refine storeD1_i (o := 3) (v := .int .i64 pos) o size_Int (by simp) rfl rfl fun w7 o7 m7 z7 => ?_
   have h7 : RSesAt F W0 w7 s g G { p with pos := pos } := (h.keep k6).put m7 o7 (hr.mod m7 eI_ne fun b hb' e => (hb b hb').1 (by rw [show b.block = s from e]; exact h.fs)) fun b hb' => ⟨(hb b hb').1, by rw [z7]; exact (hb b hb').2⟩
   have s6 := k6.size
   refine rasks_i h7 hE okS.node ((hc.mod k6 eB_ne fun _ _ => id).mod m7 eB_ne fun b hb' e => hcs b hb' e) (fun k hk => by have := hF k hk; omega) fun z ms w8 hz h8 ok8 q8 l8 m8 => ?_
   refine hQ z ms w8 ?_ h8 ok8 (q8.wk fun k hk _ => by omega) l8.1 ((k6.wk.tr m7).tr m8)
   unfold RepR
   rw [if_neg nov, if_neg (by simpa using hE), if_neg n1, if_neg n2]
   exact hz
  intro J2 hJ2
  have j2 : ∀ b : Bool, (b = true ↔ (p.has = true ∧ pos = p.pos)) → J2 (b, ()) w4 := by
   intro b hb
   apply hJ2
   refine cond_i (fun hbt => ?_) (fun hbf => ?_)
   ·have hh := hb.1 hbt
    refine rhint_i h4 okS hh.1 fun ms w10 h10 q10 l10 m10 => ?_
    refine hQ _ ms w10 ?_ h10 okS.hintS (q10.wk fun k hk _ => by have := K4.size; omega) (by omega) (K4.wk.tr m10)
    unfold RepR
    rw [if_neg nov, if_neg (by simpa using hE), if_pos hh]
   ·have n1 : ¬ (p.has = true ∧ pos = p.pos) := fun hh => by have hbf' : b = false := hbf; rw [hb.2 hh] at hbf'; cases hbf'
    obtain ⟨sl, o, hr, hbk, _, _, _, _, c5, c6, _⟩ := h4.cell
    refine onSome_i rfl (ld1_i (k := .bool) p.has c6 (cond_i (fun hh => ?_) (fun hh => j1 n1 (fun g => by rw [hh] at g; cases g.1) w4 K4)))
    have sll := hr.len
    refine onSome_i rfl (ld1_i (k := .slice) sl c5 (cond_d (fun hlt => ?_) (fun hge => j1 n1 (fun g => ?_) w4 K4)))
    ·cases hway : p.way with
     | nil => rw [hway] at sll; simp at sll; omega
     | cons x rest =>
      rw [hway] at hr sll
      obtain ⟨a, ha, hx⟩ := rd_cell (k := .int .i64) (e := fun x => x) hr (show (x :: rest)[0]? = some x from rfl)
      refine onSome_i rfl (ld1_i (k := .slice) sl c5 ⟨⟨by omega, by omega⟩, onSome_i ha (ld1_i (k := .int .i64) x hx ?_)⟩)
      refine cond_i (fun hpx => ?_) (fun hpx => j1 n1 (fun g => ?_) w4 K4)
      ·have hpx' : pos = x := by simpa using hpx
       refine onSome_i rfl ?_
       rw [lit 3]
       refine storeD1_i (o := 3) (v := .int .i64 pos) o size_Int (by simp) rfl rfl fun w5 o5 m5 z5 => ?_
       have c55 : w5.cell? ((⟨s, 0, none⟩ : Addr).add 5) = some (sv sl) := own_at o5 rfl
       refine onSome_i rfl (ld1_i (k := .slice) sl c55 ⟨⟨by omega, by omega⟩, onSome_i rfl ?_⟩)
       rw [lit 5]
       let sl' : Sl := ⟨sliceAddr sl.b sl.c 1 1, sl.l - 1, sl.c - 1⟩
       refine storeD1_i (o := 5) (v := sv sl') o5 size_sInt (by simp) rfl rfl fun w6 o6 m6 z6 => ?_
       have ns : ∀ b, sl.b = some b → ¬ b.block = s := fun b hb' e => (hbk b hb').1 (by rw [e]; exact h.fs)
       have hr6 := (hr.mod m5 eI_ne ns).mod m6 eI_ne ns
       have hp6 := hr6.part (i := 1) (j := sl.l) (c := sl.c) (by omega) (Nat.le_refl _) hr.cap (Nat.le_refl _)
       have hrest : ((x :: rest).drop 1).take (sl.l - 1) = rest := by
        rw [List.drop_one, List.tail_cons, List.take_of_length_le]
        simp only [List.length_cons] at sll; omega
       rw [hrest] at hp6
       have h6 : RSesAt F W0 w6 s g G { p with pos := pos, way := rest } := h4.put (m5.tr m6) o6 hp6 fun b hb' => by
        obtain ⟨a0, ha0, e⟩ := slice_blk hb'
        rw [e]
        exact ⟨(hbk a0 ha0).1, by have := (hbk a0 ha0).2; omega⟩
       have hm : p.has = true ∧ p.way.head? = some pos := ⟨hh, by rw [hway, hpx']; rfl⟩
       have ok6 := okS.move hE hm
       rw [hway, List.tail_cons] at ok6
       refine rhint_i h6 ok6 hh fun ms w7 h7 q7 l7 m7 => ?_
       have M6 : Mod (fun k => k = s) w w6 := ((K4.wk).tr m5).tr m6
       refine hQ _ ms w7 ?_ h7 ok6.hintS (q7.wk fun k hk _ => by have := M6.size; omega) (by omega) (M6.tr m7)
       unfold RepR
       rw [if_neg nov, if_neg (by simpa using hE), if_neg n1, if_pos hm, hway, List.tail_cons]
      ·rw [hway] at g
       have : x = pos := by simpa using g.2
       rw [this] at hpx; simp at hpx
    ·rw [List.head?_eq_none_iff.2 (List.eq_nil_of_length_eq_zero (by omega))] at g
     cases g.2
  obtain ⟨_, _, _, _, _, _, c3, _, _, c6, _⟩ := h4.cell
  refine onSome_i rfl (ld1_i (k := .bool) p.has c6 (cond_i (fun hh => onSome_i rfl (ld1_i (k := .int .i64) p.pos c3 (j2 _ ?_))) (fun hh => j2 _ ?_)))
  ·have hh' : p.has = true := hh
   simp [hh']
  ·have hh' : p.has = false := hh
   simp [hh']
end
end Go.Proofs.YtjjgcimlmjnaeaaGreat

namespace Go.Proofs.YtjjgcimlmjnaeaaGreat
open Go Go.Den
section
variable {F : Nat → Prop} {W0 w : World} {s : Nat} {g : GT} {G : Gr} {p : Ses}
theorem RChanged_i {shut open_ closed : Sl} {sh op : List Int} {c : List Bool} {Q : Sl → World → Prop} (h : RSesAt F W0 w s g G p) (okS : OkS G p) (hsh : Rd w shut 1 eI sh) (hshl : sh.length < 1000000) (hop : Rd w open_ 1 eI op) (hc : Rd w closed 1 eB c) (hF : ∀ k, F k → k < w.heap.size)
  (hQ : ∀ z ms w', ChgR G c p sh op z → RSesAt F W0 w' s g G z.1 → OkS G z.1 → MsgsIs w' (fun k => w.heap.size ≤ k) ms z.2 → z.2.length ≤ 2 → Mod (fun k => k = s) w w' → Q ms w') :
  F_rS_Changed (some ⟨s, 0, none⟩) shut open_ closed w Q := by
 unfold F_rS_Changed
 obtain ⟨_, _, _, _, _, _, _, _, _, c6, c7⟩ := h.cell
 refine onSome_i rfl (ld1_i (k := .bool) p.over c7 (cond_i (fun hov => ?_) (fun hov => ?_)))
 ·exact hQ (p, []) _ w (by unfold ChgR; rw [if_pos hov]) h okS MsgsIs.nil (by simp) (Mod.refl _ _)
 have hov' : p.over = false := hov
 have nov : ¬ p.over = true := by rw [hov']; simp
 have len := okS.len
 have opl := hop.len
 have shl := hsh.len
 have ask : ∀ (w3 : World), Keep w w3 → ∀ (T : Sl → World → Prop), (∀ z ms w', AskR G c p z → RSesAt F W0 w' s g G z.1 → OkS G z.1 → MsgsIs w' (fun k => w.heap.size ≤ k) ms z.2 → z.2.length ≤ 2 ∧ 1 ≤ z.2.length → Mod (fun k => k = s) w w' → T ms w') → F_rS_asks (some ⟨s, 0, none⟩) closed w3 T := fun w3 K3 T hT => by
  have z3 := K3.size
  refine rasks_i (h.keep K3) okS.pos okS.node (hc.mod K3 eB_ne fun _ _ => id) (fun k hk => by have := hF k hk; omega) fun z ms w4 hz h4 ok4 q4 l4 m4 => ?_
  exact hT z ms w4 hz h4 ok4 (q4.wk fun k hk _ => by omega) l4 (K3.wk.tr m4)
 have stay : ∀ w3, Keep w w3 → (p.has = true ∧ ¬ (∃ e ∈ p.way, e ∈ sh)) ∨ (p.has = false ∧ op = []) → Q ⟨none, 0, 0⟩ w3 := fun w3 K3 hs => by
  refine hQ (p, []) _ w3 ?_ (h.keep K3) okS MsgsIs.nil (by simp) K3.wk
  unfold ChgR
  rw [if_neg nov]
  rcases hs with ⟨a, b⟩ | ⟨a, b⟩
  ·rw [if_pos a, if_neg b]
  ·rw [if_neg (by rw [a]; simp), if_pos b]
 refine onSome_i rfl (ld1_i (k := .bool) p.has c6 (cond_i (fun hh => ?_) (fun hh => ?_)))
 ·have hf : p.has = false := by simpa using hh
  have nh : ¬ p.has = true := by rw [hf]; simp
  refine cond_i (fun hz => stay w (Mod.refl _ _) (.inr ⟨hf, List.eq_nil_of_length_eq_zero (by simp at hz; omega)⟩)) (fun hz => ask w (Mod.refl _ _) _ fun z ms w4 hz4 h4 ok4 q4 l4 m4 => ?_)
  have ho : op ≠ [] := fun e => by rw [opl, e] at hz; simp at hz
  have hC : ChgR G c p sh op (z.1, if z.1.has = true then z.2 else []) := by
   unfold ChgR
   rw [if_neg nov, if_neg nh, if_neg ho]; exact ⟨z, hz4, rfl⟩
  obtain ⟨_, _, _, _, _, _, _, _, _, c6', _⟩ := h4.cell
  refine onSome_i rfl (ld1_i (k := .bool) z.1.has c6' (cond_i (fun hf => ?_) (fun hf => ?_)))
  ·have hf' : z.1.has = false := by simpa using hf
   rw [if_neg (by rw [hf']; simp)] at hC
   exact hQ _ _ w4 hC h4 ok4 MsgsIs.nil (by simp) m4
  ·have hf' : z.1.has = true := by simpa using hf
   rw [if_pos hf'] at hC
   exact hQ _ ms w4 hC h4 ok4 q4 l4.1 m4
 have ht : p.has = true := by simpa using hh
 refine loop_i (fun c t w2 => ∃ (i : Nat), i ≤ p.way.length ∧ c = p.way.length - i ∧ t = ((i : Int), ()) ∧ Keep w w2 ∧ ∀ x ∈ p.way.take i, x ∉ sh) p.way.length ⟨0, Nat.zero_le _, rfl, rfl, Mod.refl _ _, by simp⟩ ?_
 rintro c1 t w2 ⟨i, hi, rfl, rfl, k2, hn⟩ X hX
 dsimp only
 obtain ⟨sl, _, hr, _, _, _, _, _, c5, _⟩ := (h.keep k2).cell
 have sll := hr.len
 refine onSome_i rfl (ld1_i (k := .slice) sl c5 (cond_d (fun hlt => ?_) (fun hge => ?_)))
 ·have hi' : i < p.way.length := by omega
  have hget := List.getElem?_eq_getElem hi'
  have hmem := List.getElem_mem hi'
  have htk := List.take_succ_eq_append_getElem hi'
  generalize p.way[i] = x at *
  refine loop_i (fun c t w3 => ∃ (j : Nat), j ≤ sh.length ∧ c = sh.length - j ∧ t = ((j : Int), ()) ∧ Keep w w3 ∧ x ∉ sh.take j) sh.length ⟨0, Nat.zero_le _, rfl, rfl, k2, by simp⟩ ?_
  rintro c2 t w3 ⟨j, hj, rfl, rfl, k3, hnj⟩ Y hY
  dsimp only
  refine cond_d (fun hlt2 => ?_) (fun hge2 => ?_)
  ·have hj' : j < sh.length := by omega
   have hgetj := List.getElem?_eq_getElem hj'
   have hmemj := List.getElem_mem hj'
   have htkj := List.take_succ_eq_append_getElem hj'
   generalize sh[j] = y at *
   have d3 : Keep w3 w3.drew := Mod.drew (Mod.refl _ w3)
   have K3 := k3.tr d3
   obtain ⟨sl', _, hr', _, _, _, _, _, c5', _⟩ := (h.keep K3).cell
   obtain ⟨a, ha, hx⟩ := rd_cell (k := .int .i64) (e := fun x => x) hr' hget
   obtain ⟨b, hb, hy⟩ := rd_cell (k := .int .i64) (e := fun x => x) (hsh.mod K3 eI_ne fun _ _ => id) hgetj
   have sll' := hr'.len
   rw [Int.toNat_natCast, Int.toNat_natCast]
   refine onSome_i rfl (ld1_i (k := .slice) sl' c5' ⟨⟨by omega, by omega⟩, onSome_i ha (ld1_i (k := .int .i64) x hx ⟨⟨by omega, by omega⟩, onSome_i hb (ld1_i (k := .int .i64) y hy ?_)⟩)⟩)
   refine cond_i (fun he => ask w3.drew K3 _ fun z ms w4 hz4 h4 ok4 q4 l4 m4 => ?_) (fun he => ?_)
   ·have e : x = y := by simpa using he
    refine hQ z ms w4 ?_ h4 ok4 q4 l4.1 m4
    unfold ChgR
    rw [if_neg nov, if_pos ht, if_pos ⟨x, hmem, by rw [e]; exact hmemj⟩]; exact hz4
   ·have e : x ≠ y := by simpa using he
    rw [wi_ j (by omega)]
    refine hY _ _ _ (by omega) ⟨j + 1, hj', rfl, rfl, K3, fun hh => ?_⟩
    rw [htkj] at hh
    rcases List.mem_append.1 hh with hh | hh
    ·exact hnj hh
    ·exact e (by simpa using hh)
  ·have ej : j = sh.length := by omega
   subst ej
   rw [List.take_length] at hnj
   rw [wi_ i (by omega)]
   refine hX _ _ _ (by omega) ⟨i + 1, hi', rfl, rfl, k3, fun y hy => ?_⟩
   rw [htk] at hy
   rcases List.mem_append.1 hy with hy | hy
   ·exact hn y hy
   ·have : y = x := by simpa using hy
    rw [this]; exact hnj
 ·have ei : i = p.way.length := by omega
  subst ei
  rw [List.take_length] at hn
  exact stay w2 k2 (.inl ⟨ht, fun ⟨x, hx, hx'⟩ => hn x hx hx'⟩)
end
end Go.Proofs.YtjjgcimlmjnaeaaGreat

namespace Go.Proofs.YtjjgcimlmjnaeaaGreat
open Go Go.Den
structure TowSt (W w : World) (A : Nat) (g : GT) (N : List (Int × Int)) (E : List R3) (B : List (Int × Int)) : Prop where
 own : Own w A tAGraph (gcs g)
 vn : Vec w tNode 2 eP g.1 N
 ve : Vec w tEdge 3 eR3 g.2.1 E
 vb : Vec w tBan 2 eP g.2.2.1 B
 n1 : ∀ a, g.1.b = some a → a.block ≠ A ∧ W.heap.size ≤ a.block
 n2 : ∀ a, g.2.1.b = some a → a.block ≠ A ∧ W.heap.size ≤ a.block
 n3 : ∀ a, g.2.2.1.b = some a → a.block ≠ A ∧ W.heap.size ≤ a.block
 n12 : ∀ a b, g.1.b = some a → g.2.1.b = some b → a.block ≠ b.block
 n13 : ∀ a b, g.1.b = some a → g.2.2.1.b = some b → a.block ≠ b.block
 n23 : ∀ a b, g.2.1.b = some a → g.2.2.1.b = some b → a.block ≠ b.block
 lowA : W.heap.size ≤ A
 kp : Keep W w
section
variable {W w : World} {A : Nat} {g : GT} {N : List (Int × Int)} {E : List R3} {B : List (Int × Int)}
theorem TowSt.keep {w' : World} (h : TowSt W w A g N E B) (k : Keep w w') : TowSt W w' A g N E B :=
 ⟨h.own.mod k id, h.vn.mod k fun _ _ => id, h.ve.mod k fun _ _ => id, h.vb.mod k fun _ _ => id, h.n1, h.n2, h.n3, h.n12, h.n13, h.n23, h.lowA, h.kp.tr k⟩
theorem TowSt.pushN (h : TowSt W w A g N E B) (hl : N.length ≤ 100000) (x : Int × Int) {K : World → Prop} (hK : ∀ w' s, TowSt W w' A (s, g.2.1, g.2.2.1, ()) (N ++ [x]) E B → Mod (fun k => k = A ∨ ∃ a, g.1.b = some a ∧ k = a.block) w w' → (∀ a, s.b = some a → g.1.b = some a ∨ w.heap.size ≤ a.block) → K w') :
  allocD w (eP x).toArray tNode fun a5 w19 => w19.cell? ((⟨A, 0, none⟩ : Addr).add 0) = some (Value.slice g.1.b g.1.l g.1.c) ∧ appendD Tryz.prog tsNode tsNode g.1 (Value.slice (some a5) 1 1) w19 fun (s4 : Sl) w20 => storeD Tryz.prog tsNode ((⟨A, 0, none⟩ : Addr).add 0) (Value.slice s4.b s4.l s4.c) w20 K := by
 refine alloc_i fun w1 o1 k1 z1 => ?_
 have h1 := h.keep k1
 refine ⟨?_, ?_⟩
 ·rw [addr_lit, h1.own.cell]; rfl
 have vx : Vec w1 tNode 2 eP ⟨some ⟨w.heap.size, 0, none⟩, 1, 1⟩ [x] := Vec.new lenP [x] (by simpa using o1) (by simp [maxLen])
 refine append_i elem_sNode lenP oneP h1.vn (vx.rd lenP) (by simp; omega) (by simp; omega) fun r w2 v2 m2 f2 _ => ?_
 have hA := h.own.lt
 have hW := h.kp.size
 have lit : ((⟨A, 0, none⟩ : Addr).add 0) = ⟨A, 0, none⟩ := by rw [addr_lit, Nat.zero_add]
 rw [lit]
 have o2 := h1.own.mod m2 fun ⟨a, ha, e⟩ => (h.n1 a ha).1 e.symm
 refine storeD1_i (o := 0) (v := sv r) o2 size_sNode (by simp) rfl rfl fun w3 o3 m3 _ => ?_
 have fr : ∀ a, r.b = some a → g.1.b = some a ∨ w.heap.size ≤ a.block := fun a ha => by
  rcases f2 with h2 | ⟨b, hb, hlt⟩
  ·exact .inl (by rw [← h2]; exact ha)
  ·rw [ha] at hb; cases hb; exact .inr (by omega)
 have nr : ∀ a, r.b = some a → a.block ≠ A ∧ W.heap.size ≤ a.block := fun a ha => by
  rcases fr a ha with h2 | h2
  ·exact h.n1 a h2
  ·exact ⟨by omega, by omega⟩
 refine hK w3 r ⟨o3, v2.mod m3 fun a ha e => (nr a ha).1 e, (h1.ve.mod m2 fun a ha ⟨b, hb, e⟩ => h.n12 b a hb ha e.symm).mod m3 fun a ha e => (h.n2 a ha).1 e, (h1.vb.mod m2 fun a ha ⟨b, hb, e⟩ => h.n13 b a hb ha e.symm).mod m3 fun a ha e => (h.n3 a ha).1 e, nr, h.n2, h.n3, fun a b ha hb => by have := h.ve.lt hb; rcases fr a ha with h2 | h2; exact h.n12 a b h2 hb; omega, fun a b ha hb => by have := h.vb.lt hb; rcases fr a ha with h2 | h2; exact h.n13 a b h2 hb; omega, h.n23, h.lowA, ((h.kp.tr k1).fresh m2 fun k ⟨a, ha, e⟩ => by rw [e]; exact (h.n1 a ha).2).fresh m3 fun k e => by rw [show k = A from e]; exact h.lowA⟩ ?_ fr
 exact ((k1.wk.trans m2 fun k _ hk => .inr hk).trans m3 fun k _ e => .inl e)
theorem TowSt.pushE (h : TowSt W w A g N E B) (hl : E.length ≤ 100000) (x : R3) {K : World → Prop} (hK : ∀ w' s, TowSt W w' A (g.1, s, g.2.2.1, ()) N (E ++ [x]) B → Mod (fun k => k = A ∨ ∃ a, g.2.1.b = some a ∧ k = a.block) w w' → (∀ a, s.b = some a → g.2.1.b = some a ∨ w.heap.size ≤ a.block) → K w') :
  allocD w (eR3 x).toArray tEdge fun a5 w19 => w19.cell? ((⟨A, 0, none⟩ : Addr).add 1) = some (Value.slice g.2.1.b g.2.1.l g.2.1.c) ∧ appendD Tryz.prog tsEdge tsEdge g.2.1 (Value.slice (some a5) 1 1) w19 fun (s4 : Sl) w20 => storeD Tryz.prog tsEdge ((⟨A, 0, none⟩ : Addr).add 1) (Value.slice s4.b s4.l s4.c) w20 K := by
 refine alloc_i fun w1 o1 k1 z1 => ?_
 have h1 := h.keep k1
 refine ⟨?_, ?_⟩
 ·rw [addr_lit, h1.own.cell]; rfl
 have vx : Vec w1 tEdge 3 eR3 ⟨some ⟨w.heap.size, 0, none⟩, 1, 1⟩ [x] := Vec.new lenR3' [x] (by simpa using o1) (by simp [maxLen])
 refine append_i elem_sEdge lenR3' oneR3 h1.ve (vx.rd lenR3') (by simp; omega) (by simp; omega) fun r w2 v2 m2 f2 _ => ?_
 have hA := h.own.lt
 have hW := h.kp.size
 have lit : ((⟨A, 0, none⟩ : Addr).add 1) = ⟨A, 1, none⟩ := by rw [addr_lit, Nat.zero_add]
 rw [lit]
 have o2 := h1.own.mod m2 fun ⟨a, ha, e⟩ => (h.n2 a ha).1 e.symm
 refine storeD1_i (o := 1) (v := sv r) o2 size_sEdge (by simp) rfl rfl fun w3 o3 m3 _ => ?_
 have fr : ∀ a, r.b = some a → g.2.1.b = some a ∨ w.heap.size ≤ a.block := fun a ha => by
  rcases f2 with h2 | ⟨b, hb, hlt⟩
  ·exact .inl (by rw [← h2]; exact ha)
  ·rw [ha] at hb; cases hb; exact .inr (by omega)
 have nr : ∀ a, r.b = some a → a.block ≠ A ∧ W.heap.size ≤ a.block := fun a ha => by
  rcases fr a ha with h2 | h2
  ·exact h.n2 a h2
  ·exact ⟨by omega, by omega⟩
 refine hK w3 r ⟨o3, (h1.vn.mod m2 fun a ha ⟨b, hb, e⟩ => h.n12 a b ha hb e).mod m3 fun a ha e => (h.n1 a ha).1 e, v2.mod m3 fun a ha e => (nr a ha).1 e, (h1.vb.mod m2 fun a ha ⟨b, hb, e⟩ => h.n23 b a hb ha e.symm).mod m3 fun a ha e => (h.n3 a ha).1 e, h.n1, nr, h.n3, fun a b ha hb => by have := h.vn.lt ha; rcases fr b hb with h2 | h2; exact h.n12 a b ha h2; omega, h.n13, fun a b ha hb => by have := h.vb.lt hb; rcases fr a ha with h2 | h2; exact h.n23 a b h2 hb; omega, h.lowA, ((h.kp.tr k1).fresh m2 fun k ⟨a, ha, e⟩ => by rw [e]; exact (h.n2 a ha).2).fresh m3 fun k e => by rw [show k = A from e]; exact h.lowA⟩ ?_ fr
 exact ((k1.wk.trans m2 fun k _ hk => .inr hk).trans m3 fun k _ e => .inl e)
theorem TowSt.pushB (h : TowSt W w A g N E B) (hl : B.length ≤ 100000) (x : Int × Int) {K : World → Prop} (hK : ∀ w' s, TowSt W w' A (g.1, g.2.1, s, ()) N E (B ++ [x]) → Mod (fun k => k = A ∨ ∃ a, g.2.2.1.b = some a ∧ k = a.block) w w' → (∀ a, s.b = some a → g.2.2.1.b = some a ∨ w.heap.size ≤ a.block) → K w') :
  allocD w (eP x).toArray tBan fun a5 w19 => appendD Tryz.prog tsBan tsBan g.2.2.1 (Value.slice (some a5) 1 1) w19 fun (s4 : Sl) w20 => storeD Tryz.prog tsBan ((⟨A, 0, none⟩ : Addr).add 2) (Value.slice s4.b s4.l s4.c) w20 K := by
 refine alloc_i fun w1 o1 k1 z1 => ?_
 have h1 := h.keep k1
 have vx : Vec w1 tBan 2 eP ⟨some ⟨w.heap.size, 0, none⟩, 1, 1⟩ [x] := Vec.new lenP [x] (by simpa using o1) (by simp [maxLen])
 refine append_i elem_sBan lenP oneP h1.vb (vx.rd lenP) (by simp; omega) (by simp; omega) fun r w2 v2 m2 f2 _ => ?_
 have hA := h.own.lt
 have hW := h.kp.size
 have lit : ((⟨A, 0, none⟩ : Addr).add 2) = ⟨A, 2, none⟩ := by rw [addr_lit, Nat.zero_add]
 rw [lit]
 have o2 := h1.own.mod m2 fun ⟨a, ha, e⟩ => (h.n3 a ha).1 e.symm
 refine storeD1_i (o := 2) (v := sv r) o2 size_sBan (by simp) rfl rfl fun w3 o3 m3 _ => ?_
 have fr : ∀ a, r.b = some a → g.2.2.1.b = some a ∨ w.heap.size ≤ a.block := fun a ha => by
  rcases f2 with h2 | ⟨b, hb, hlt⟩
  ·exact .inl (by rw [← h2]; exact ha)
  ·rw [ha] at hb; cases hb; exact .inr (by omega)
 have nr : ∀ a, r.b = some a → a.block ≠ A ∧ W.heap.size ≤ a.block := fun a ha => by
  rcases fr a ha with h2 | h2
  ·exact h.n3 a h2
  ·exact ⟨by omega, by omega⟩
 refine hK w3 r ⟨o3, (h1.vn.mod m2 fun a ha ⟨b, hb, e⟩ => h.n13 a b ha hb e).mod m3 fun a ha e => (h.n1 a ha).1 e, (h1.ve.mod m2 fun a ha ⟨b, hb, e⟩ => h.n23 a b ha hb e).mod m3 fun a ha e => (h.n2 a ha).1 e, v2.mod m3 fun a ha e => (nr a ha).1 e, h.n1, h.n2, nr, h.n12, fun a b ha hb => by have := h.vn.lt ha; rcases fr b hb with h2 | h2; exact h.n13 a b ha h2; omega, fun a b ha hb => by have := h.ve.lt ha; rcases fr b hb with h2 | h2; exact h.n23 a b ha h2; omega, h.lowA, ((h.kp.tr k1).fresh m2 fun k ⟨a, ha, e⟩ => by rw [e]; exact (h.n3 a ha).2).fresh m3 fun k e => by rw [show k = A from e]; exact h.lowA⟩ ?_ fr
 exact ((k1.wk.trans m2 fun k _ hk => .inr hk).trans m3 fun k _ e => .inl e)
end
theorem Round24_i {k n : Int} {w : World} {Q : Int → World → Prop} (hn : 0 < n) (h63 : n ≤ 1000000) (hQ : ∀ x, 0 ≤ x → x < n → Q x w) : F_ref24_Round k n w Q := by
 unfold F_ref24_Round
 have h1 := Int.lt_tmod_of_pos k hn
 have h2 := Int.tmod_lt_of_pos k hn
 refine ⟨by omega, cond_d (fun h => ?_) (fun h => ?_)⟩
 ·rw [w64 (n := Int.tmod k n + n) (by omega) (by omega)]
  have h' : Int.tmod k n < 0 := h
  exact hQ _ (by omega) (by omega)
 ·have h' : ¬ Int.tmod k n < 0 := h
  exact hQ _ (by omega) h2
theorem at_i {l : Sl} {xs : List Int} {i n : Int} {w : World} {Q : Int → World → Prop} (hl : Rd w l 1 eI xs) (h0 : 0 ≤ i) (h1 : i ≤ 1000000) (hn : 0 < n) (h63 : n ≤ 1000000) (hQ : ∀ x w', 0 ≤ x → x < n → Keep w w' → Q x w') : F_ref24_at l i n w Q := by
 unfold F_ref24_at
 have hll := hl.len
 refine cond_i (fun h => hQ 0 w (Int.le_refl _) hn (Mod.refl _ _)) (fun h => ?_)
 have hne : ¬ ((l.l : Nat) : Int) = 0 := by simpa using h
 have hpos : 0 < ((l.l : Nat) : Int) := by omega
 have d : Keep w w.drew := Mod.drew (Mod.refl _ w)
 have m0 : 0 ≤ Int.tmod i ((l.l : Nat) : Int) := Int.tmod_nonneg _ h0
 have m1 := Int.tmod_lt_of_pos i hpos
 have hget := List.getElem?_eq_getElem (show (Int.tmod i ((l.l : Nat) : Int)).toNat < xs.length by omega)
 obtain ⟨p, hp, hc⟩ := rd_cell (k := .int .i64) (e := fun x => x) (hl.mod d eI_ne fun _ _ => id) hget
 exact ⟨hne, ⟨m0, m1⟩, onSome_i hp (ld1_i (k := .int .i64) _ hc ⟨by decide, hne, Round24_i hn h63 fun x x0 x1 => hQ x _ x0 x1 d⟩)⟩
def nxt (wn hn i : Nat) (k : Nat) : Int := if k = 0 then (if i % wn < wn - 1 then ((i + 1 : Nat) : Int) else -1) else (if i / wn < hn - 1 then ((i + wn : Nat) : Int) else -1)
def preK2 (wn hn i k : Nat) : List (Nat × Nat) := fullI wn hn i ++ (if 1 ≤ k then fullK wn hn i 0 else []) ++ (if 2 ≤ k then fullK wn hn i 1 else [])
theorem pre_next {wn hn i k : Nat} (hk : k < 2) : preK2 wn hn i (k + 1) = preK2 wn hn i k ++ fullK wn hn i k := by
 unfold preK2
 have : k = 0 ∨ k = 1 := by omega
 rcases this with rfl | rfl <;> simp
theorem full_nxt {wn hn i k : Nat} (hk : k < 2) : (nxt wn hn i k < 0 ∧ fullK wn hn i k = []) ∨ ∃ j : Nat, nxt wn hn i k = (j : Int) ∧ fullK wn hn i k = [(i, j), (j, i)] := by
 unfold nxt
 have : k = 0 ∨ k = 1 := by omega
 rcases this with rfl | rfl
 ·by_cases h : i % wn < wn - 1
  ·exact .inr ⟨i + 1, by simp [h], by simp [fullK, h]⟩
  ·exact .inl ⟨by simp [h], by simp [fullK, h]⟩
 ·by_cases h : i / wn < hn - 1
  ·exact .inr ⟨i + wn, by simp [h], by simp [fullK, h]⟩
  ·exact .inl ⟨by simp [h], by simp [fullK, h]⟩
theorem Town_i {l : Sl} {xs : List Int} {W : World} {Q : GT → World → Prop} (hl : Rd W l 1 eI xs) (hQ : ∀ g G w', GvIs w' g G → OkG G → G.n ≤ 16 → Keep W w' → Q g w') : F_ref24_Town l W Q := by
 unfold F_ref24_Town
 refine alloc_i fun w1 o1 k1 z1 => alloc_i fun w2 o2 k2 z2 => ?_
 have K2 := k1.tr k2
 have st2 : TowSt W w2 w1.heap.size (⟨none, 0, 0⟩, ⟨none, 0, 0⟩, ⟨none, 0, 0⟩, ()) [] [] [] :=
  ⟨o2, Vec.nil _ _ _ _, Vec.nil _ _ _ _, Vec.nil _ _ _ _, (fun a ha => by cases ha), (fun a ha => by cases ha), (fun a ha => by cases ha), (fun a b ha => by cases ha), (fun a b ha => by cases ha), (fun a b ha => by cases ha), by omega, K2⟩
 have hA1 : W.heap.size < w1.heap.size := by omega
 generalize hA : w1.heap.size = A at *
 have o1' : Own w2 W.heap.size tAGraph (gcs (⟨none, 0, 0⟩, ⟨none, 0, 0⟩, ⟨none, 0, 0⟩, ())) := o1.mod k2 id
 have hlk : ∀ {wx : World}, Keep W wx → Rd wx l 1 eI xs := fun kx => hl.mod kx eI_ne fun _ _ => id
 refine at_i (hlk K2) (by decide) (by decide) (by decide) (by decide) fun x1 w3 x10 x11 k3 => ?_
 refine at_i (hlk (K2.tr k3)) (by decide) (by decide) (by decide) (by decide) fun x2 w4 x20 x21 k4 => ?_
 obtain ⟨wn, hwn⟩ : ∃ wn : Nat, (1 : Int) + x1 = (wn : Int) := ⟨(1 + x1).toNat, by omega⟩
 obtain ⟨hn, hhn⟩ : ∃ hn : Nat, (1 : Int) + x2 = (hn : Int) := ⟨(1 + x2).toNat, by omega⟩
 have wr1 : IntKind.wrap .i64 ((1 : Int) + x1) = (wn : Int) := by rw [w64 (by omega) (by omega), hwn]
 have wr2 : IntKind.wrap .i64 ((1 : Int) + x2) = (hn : Int) := by rw [w64 (by omega) (by omega), hhn]
 have wn1 : 1 ≤ wn ∧ wn ≤ 4 := by omega
 have hn1 : 1 ≤ hn ∧ hn ≤ 4 := by omega
 have hM : wn * hn ≤ 4 * 4 := Nat.mul_le_mul wn1.2 hn1.2
 have hM1 : 1 * 1 ≤ wn * hn := Nat.mul_le_mul wn1.1 hn1.1
 have wrM : IntKind.wrap .i64 ((wn : Int) * (hn : Int)) = ((wn * hn : Nat) : Int) := by
  rw [← Int.natCast_mul, w64 (by omega) (by omega)]
 rw [wr1, wr2, wrM]
 generalize hMM : wn * hn = M at *
 have tm : ∀ i : Nat, Int.tmod (i : Int) (wn : Int) = ((i % wn : Nat) : Int) := fun i => (Int.ofNat_tmod i wn).symm
 have td : ∀ i : Nat, Int.tdiv (i : Int) (wn : Int) = ((i / wn : Nat) : Int) := fun i => (Int.ofNat_tdiv i wn).symm
 have hne : ¬ (wn : Int) = 0 := by omega
 have st4 := (st2.keep k3).keep k4
 refine loop_i (fun c t w5 => ∃ (i : Nat) (g : GT) (N : List (Int × Int)), i ≤ M ∧ c = M - i ∧ t = ((i : Int), ()) ∧ TowSt W w5 A g N [] [] ∧ N.length = i ∧ (∀ p ∈ N, (0 ≤ p.1 ∧ p.1 ≤ 4095) ∧ 0 ≤ p.2 ∧ p.2 ≤ 4095) ∧ Own w5 W.heap.size tAGraph (gcs (⟨none, 0, 0⟩, ⟨none, 0, 0⟩, ⟨none, 0, 0⟩, ())) ∧ (∀ a, g.1.b = some a → a.block ≠ W.heap.size) ∧ g.2.1.b = none ∧ g.2.2.1.b = none) M
  ⟨0, _, [], Nat.zero_le _, rfl, rfl, st4, rfl, by simp, (o1'.mod k3 id).mod k4 id, (fun a ha => by cases ha), rfl, rfl⟩ ?_
 clear st2 st4 o1' o1 o2
 rintro c t w5 ⟨i, g, N, hi, rfl, rfl, st, hNl, hNo, oR, nR, eb2, eb3⟩ X hX
 dsimp only
 refine cond_d (fun hlt => ?_) (fun hge => ?_)
 ·have hi' : i < M := by omega
  have d5 : Keep w5 w5.drew := Mod.drew (Mod.refl _ w5)
  have st5 := st.keep d5
  have lit0 : ∀ {wx : World}, Own wx A tAGraph (gcs g) → wx.cell? ((⟨A, 0, none⟩ : Addr).add 0) = some (sv g.1) := fun h => by rw [addr_lit, h.cell]; rfl
  refine ld1_i (k := .slice) g.1 (lit0 st5.own) ⟨hne, hne, ?_⟩
  rw [w64 (n := (2 : Int) + (i : Int)) (by omega) (by omega)]
  refine at_i (hlk st5.kp) (by omega) (by omega) (by decide) (by decide) fun x3 w6 x30 x31 k6 => ?_
  have st6 := st5.keep k6
  refine ⟨lit0 st6.own, ?_⟩
  have hmod : i % wn < wn := Nat.mod_lt _ (by omega)
  have hdiv : i / wn ≤ i := Nat.div_le_self _ _
  rw [tm, td]
  generalize i / wn = q at *
  generalize i % wn = r at *
  rw [w64 (n := (q : Int)) (by omega) (by omega), w64 (n := (100 : Int) * (q : Int)) (by omega) (by omega), w64 (n := (100 : Int) * (r : Int)) (by omega) (by omega), w64 (n := (100 : Int) * (q : Int) + x3) (by omega) (by omega)]
  refine st6.pushN (x := ((100 : Int) * (r : Int), (100 : Int) * (q : Int) + x3)) (by omega) fun w8 s st8 m8 f8 => ?_
  rw [wi_ i (by omega)]
  have zk := st6.kp.size
  have oR6 := (oR.mod d5 id).mod k6 id
  refine hX _ _ _ (by omega) ⟨i + 1, _, _, hi', rfl, rfl, st8, by simp [hNl], fun p hp => ?_, oR6.mod m8 fun hh => ?_, fun a ha e => ?_, eb2, eb3⟩
  ·rcases List.mem_append.1 hp with hp | hp
   ·exact hNo p hp
   ·have : p = ((100 : Int) * (r : Int), (100 : Int) * (q : Int) + x3) := by simpa using hp
    subst this
    exact ⟨⟨by show 0 ≤ (100 : Int) * _; omega, by show (100 : Int) * _ ≤ 4095; omega⟩, by show 0 ≤ (100 : Int) * _ + x3; omega, by show (100 : Int) * _ + x3 ≤ 4095; omega⟩
  ·rcases hh with e | ⟨a, ha, e⟩
   ·omega
   ·exact nR a ha e.symm
  ·rcases f8 a ha with h1 | h1
   ·exact nR a h1 e
   ·have := oR6.lt; omega
 have ei : M = i := by omega
 subst ei
 clear hX hge hi
 refine loop_i (fun c t w5 => ∃ (i : Nat) (g : GT) (E : List R3), i ≤ M ∧ c = M - i ∧ t = ((i : Int), ()) ∧ TowSt W w5 A g N E [] ∧ GridE wn hn (fullI wn hn i) E ∧ E.length ≤ 2 * 2 * i ∧ Own w5 W.heap.size tAGraph (gcs (⟨none, 0, 0⟩, ⟨none, 0, 0⟩, ⟨none, 0, 0⟩, ())) ∧ (∀ a, g.1.b = some a → a.block ≠ W.heap.size) ∧ (∀ a, g.2.1.b = some a → a.block ≠ W.heap.size) ∧ g.2.2.1.b = none) M
  ⟨0, g, [], Nat.zero_le _, rfl, rfl, st, GridE.nil _ _ _, by simp, oR, nR, (fun a ha => by rw [eb2] at ha; cases ha), eb3⟩ ?_
 clear st oR nR eb2 eb3 g
 rintro c t w5 ⟨i, g, E, hi, rfl, rfl, st, hG, hEl, oR, nR, nR2, eb3⟩ X hX
 dsimp only
 refine cond_d (fun hlt => ?_) (fun hge => ?_)
 ·have hi' : i < M := by omega
  refine agg_new (vs := [.int .i64 (-1), .int .i64 (-1)]) size_Arr2 rfl (by simp [Value.oneCell']) fun w12 o12 k12 z12 => ?_
  have st12 := st.keep k12
  have oR12 := oR.mod k12 id
  have hRlt := oR.lt
  have hAlt := st.own.lt
  have g2lt : ∀ a, g.2.1.b = some a → a.block < w5.heap.size := fun a ha => st.ve.lt ha
  have up : ∀ {wx wy : World} {g' : GT} {E' : List R3} {B' : List (Int × Int)}, TowSt W wx A g' N E' B' → Mod (fun k => k = w5.heap.size) wx wy → (∀ a, g'.1.b = some a → a.block ≠ w5.heap.size) → (∀ a, g'.2.1.b = some a → a.block ≠ w5.heap.size) → (∀ a, g'.2.2.1.b = some a → a.block ≠ w5.heap.size) → TowSt W wy A g' N E' B' := fun h m h1 h2 h3 =>
   ⟨h.own.mod m fun e => by omega, h.vn.mod m fun a ha e => h1 a ha e, h.ve.mod m fun a ha e => h2 a ha e, h.vb.mod m fun a ha e => h3 a ha e, h.n1, h.n2, h.n3, h.n12, h.n13, h.n23, h.lowA, h.kp.fresh m fun k e => by rw [show k = w5.heap.size from e]; exact st.kp.size⟩
  have n1 : ∀ a, g.1.b = some a → a.block ≠ w5.heap.size := fun a ha e => by have := st.vn.lt ha; omega
  have n2 : ∀ a, g.2.1.b = some a → a.block ≠ w5.heap.size := fun a ha e => by have := st.ve.lt ha; omega
  have n3 : ∀ a, g.2.2.1.b = some a → a.block ≠ w5.heap.size := fun a ha => by rw [eb3] at ha; cases ha
  have upR : ∀ {wx wy : World}, Own wx W.heap.size tAGraph (gcs (⟨none, 0, 0⟩, ⟨none, 0, 0⟩, ⟨none, 0, 0⟩, ())) → Mod (fun k => k = w5.heap.size) wx wy → Own wy W.heap.size tAGraph (gcs (⟨none, 0, 0⟩, ⟨none, 0, 0⟩, ⟨none, 0, 0⟩, ())) := fun o m => o.mod m fun e => by omega
  intro J1 hJ1
  have core1 : ∀ w13, TowSt W w13 A g N E [] → Own w13 W.heap.size tAGraph (gcs (⟨none, 0, 0⟩, ⟨none, 0, 0⟩, ⟨none, 0, 0⟩, ())) → Own w13 w5.heap.size tArr2 [.int .i64 (nxt wn hn i 0), .int .i64 (-1)] → J1 () w13 := by
   intro w13 st13 oR13 o13
   apply hJ1
   intro J2 hJ2
   have core2 : ∀ w14, TowSt W w14 A g N E [] → Own w14 W.heap.size tAGraph (gcs (⟨none, 0, 0⟩, ⟨none, 0, 0⟩, ⟨none, 0, 0⟩, ())) → Own w14 w5.heap.size tArr2 [.int .i64 (nxt wn hn i 0), .int .i64 (nxt wn hn i 1)] → J2 () w14 := by
    intro w14 st14 oR14 o14
    apply hJ2
    have h0 : GridE wn hn (preK2 wn hn i 0) E := by unfold preK2; simpa using hG
    refine loop_i (fun c t w15 => ∃ (k : Nat) (g : GT) (E : List R3), k ≤ 2 ∧ c = 2 - k ∧ t = ((k : Int), ()) ∧ TowSt W w15 A g N E [] ∧ GridE wn hn (preK2 wn hn i k) E ∧ E.length ≤ 2 * 2 * i + 2 * k ∧ Own w15 W.heap.size tAGraph (gcs (⟨none, 0, 0⟩, ⟨none, 0, 0⟩, ⟨none, 0, 0⟩, ())) ∧
      Own w15 w5.heap.size tArr2 [.int .i64 (nxt wn hn i 0), .int .i64 (nxt wn hn i 1)] ∧ (∀ a, g.1.b = some a → a.block ≠ W.heap.size ∧ a.block ≠ w5.heap.size) ∧ (∀ a, g.2.1.b = some a → a.block ≠ W.heap.size ∧ a.block ≠ w5.heap.size) ∧ g.2.2.1.b = none) 2
     ⟨0, g, E, by omega, rfl, rfl, st14, h0, by omega, oR14, o14, fun a ha => ⟨nR a ha, n1 a ha⟩, fun a ha => ⟨nR2 a ha, n2 a ha⟩, eb3⟩ ?_
    clear st14 oR14 o14 h0
    rintro c t w15 ⟨k, g, E, hk, rfl, rfl, st, hG, hEl, oR, oN, m1, m2, eb3⟩ Y hY
    dsimp only
    refine cond_d (fun hlt2 => ?_) (fun hge2 => ?_)
    ·have hk' : k < 2 := by omega
     have cN : ∀ {wx : World}, Own wx w5.heap.size tArr2 [.int .i64 (nxt wn hn i 0), .int .i64 (nxt wn hn i 1)] → wx.cell? ((⟨w5.heap.size, 0, none⟩ : Addr).add (k * 1)) = some (.int .i64 (nxt wn hn i k)) := fun h => by
      rw [addr_lit, h.cell]
      have : k = 0 ∨ k = 1 := by omega
      rcases this with rfl | rfl <;> rfl
     have B2 : 0 ≤ (k : Int) ∧ (k : Int) < ((2 : Nat) : Int) := ⟨by omega, by omega⟩
     rw [Int.toNat_natCast]
     refine ⟨B2, ld1_i (k := .int .i64) (nxt wn hn i k) (cN oN) ?_⟩
     rcases full_nxt (wn := wn) (hn := hn) (i := i) hk' with ⟨hneg, hfull⟩ | ⟨j, hj, hfull⟩
     ·refine cond_d (fun _ => ?_) (fun h => absurd hneg h)
      rw [wi_ k (by omega)]
      exact hY _ _ _ (by omega) ⟨k + 1, g, E, hk', rfl, rfl, st, by rw [pre_next hk']; exact hG.more, by omega, oR, oN, m1, m2, eb3⟩
     refine cond_d (fun h => absurd (show nxt wn hn i k < 0 from h) (by omega)) (fun _ => ?_)
     rw [w64 (n := (3 : Int) * (i : Int)) (by omega) (by omega), w64 (n := (20 : Int) + (3 : Int) * (i : Int)) (by omega) (by omega), w64 (n := (20 : Int) + (3 : Int) * (i : Int) + (k : Int)) (by omega) (by omega)]
     refine at_i (hlk st.kp) (by omega) (by omega) (by decide) (by decide) fun x5 w16 _ _ k16 => ?_
     have st16 := st.keep k16
     have oR16 := oR.mod k16 id
     have oN16 := oN.mod k16 id
     rw [w64 (n := (90 : Int) + (i : Int)) (by omega) (by omega), w64 (n := (90 : Int) + (i : Int) + (k : Int)) (by omega) (by omega), w64 (n := (60 : Int) + (i : Int)) (by omega) (by omega), w64 (n := (60 : Int) + (i : Int) + (k : Int)) (by omega) (by omega)]
     intro J3 hJ3
     have core3 : ∀ w17 g' E', TowSt W w17 A g' N E' [] → GridE wn hn (preK2 wn hn i k ++ [(i, j)]) E' → E'.length ≤ 2 * 2 * i + 2 * k + 1 → Own w17 W.heap.size tAGraph (gcs (⟨none, 0, 0⟩, ⟨none, 0, 0⟩, ⟨none, 0, 0⟩, ())) → Own w17 w5.heap.size tArr2 [.int .i64 (nxt wn hn i 0), .int .i64 (nxt wn hn i 1)] →
       (∀ a, g'.1.b = some a → a.block ≠ W.heap.size ∧ a.block ≠ w5.heap.size) → (∀ a, g'.2.1.b = some a → a.block ≠ W.heap.size ∧ a.block ≠ w5.heap.size) → g'.2.2.1.b = none → J3 () w17 := by
      intro w17 g' E' st17 hG17 hEl17 oR17 oN17 m17 m27 eb17
      apply hJ3
      have pk : preK2 wn hn i (k + 1) = preK2 wn hn i k ++ [(i, j)] ++ [(j, i)] := by rw [pre_next hk', hfull]; simp
      refine cond_i (fun _ => ?_) (fun _ => ?_)
      ·have d17 : Keep w17 w17.drew := Mod.drew (Mod.refl _ w17)
       have st17d := st17.keep d17
       have lit1 : ∀ {wx : World} {g' : GT}, Own wx A tAGraph (gcs g') → wx.cell? ((⟨A, 0, none⟩ : Addr).add 1) = some (sv g'.2.1) := fun h => by rw [addr_lit, h.cell]; rfl
       refine ld1_i (k := .slice) g'.2.1 (lit1 st17d.own) ⟨B2, ld1_i (k := .int .i64) (nxt wn hn i k) (cN (oN17.mod d17 id)) ?_⟩
       refine at_i (hlk st17d.kp) (by omega) (by omega) (by decide) (by decide) fun x7 w18 x70 x71 k18 => ?_
       have st18 := st17d.keep k18
       refine ⟨cN ((oN17.mod d17 id).mod k18 id), lit1 st18.own, ?_⟩
       rw [w64 (n := (1 : Int) + x7) (by omega) (by omega), hj]
       refine st18.pushE (x := ((j : Int), (i : Int), (1 : Int) + x7)) (by omega) fun w21 s st21 m21 f21 => ?_
       have o5 := ((oN17.mod d17 id).mod k18 id)
       have oR5 := ((oR17.mod d17 id).mod k18 id)
       rw [wi_ k (by omega)]
       refine hY _ _ _ (by omega) ⟨k + 1, _, _, hk', rfl, rfl, st21, by rw [pk]; exact hG17.push (by omega) (by omega), by rw [List.length_append, List.length_singleton]; omega, oR5.mod m21 fun hh => ?_, o5.mod m21 fun hh => ?_, m17, fun a ha => ?_, eb17⟩
       ·rcases hh with e | ⟨a, ha, e⟩
        ·omega
        ·exact (m27 a ha).1 e.symm
       ·rcases hh with e | ⟨a, ha, e⟩
        ·omega
        ·exact (m27 a ha).2 e.symm
       ·rcases f21 a ha with h1 | h1
        ·exact m27 a h1
        ·have := oR5.lt; have := o5.lt; exact ⟨by omega, by omega⟩
      ·rw [wi_ k (by omega)]
       exact hY _ _ _ (by omega) ⟨k + 1, _, _, hk', rfl, rfl, st17, by rw [pk]; exact hG17.more, by omega, oR17, oN17, m17, m27, eb17⟩
     refine cond_i (fun _ => ?_) (fun _ => ?_)
     ·have d17 : Keep w16 w16.drew := Mod.drew (Mod.refl _ w16)
      have st17d := st16.keep d17
      have lit1 : ∀ {wx : World} {g' : GT}, Own wx A tAGraph (gcs g') → wx.cell? ((⟨A, 0, none⟩ : Addr).add 1) = some (sv g'.2.1) := fun h => by rw [addr_lit, h.cell]; rfl
      refine ld1_i (k := .slice) g.2.1 (lit1 st17d.own) ⟨B2, ld1_i (k := .int .i64) (nxt wn hn i k) (cN (oN16.mod d17 id)) ?_⟩
      refine at_i (hlk st17d.kp) (by omega) (by omega) (by decide) (by decide) fun x9 w18 x70 x71 k18 => ?_
      have st18 := st17d.keep k18
      refine ⟨cN ((oN16.mod d17 id).mod k18 id), lit1 st18.own, ?_⟩
      rw [w64 (n := (1 : Int) + x9) (by omega) (by omega), hj]
      refine st18.pushE (x := ((i : Int), (j : Int), (1 : Int) + x9)) (by omega) fun w21 s st21 m21 f21 => ?_
      have o5 := ((oN16.mod d17 id).mod k18 id)
      have oR5 := ((oR16.mod d17 id).mod k18 id)
      refine core3 w21 _ _ st21 (hG.push (by omega) (by omega)) (by rw [List.length_append, List.length_singleton]; omega) (oR5.mod m21 fun hh => ?_) (o5.mod m21 fun hh => ?_) m1 (fun a ha => ?_) eb3
      ·rcases hh with e | ⟨a, ha, e⟩
       ·omega
       ·exact (m2 a ha).1 e.symm
      ·rcases hh with e | ⟨a, ha, e⟩
       ·omega
       ·exact (m2 a ha).2 e.symm
      ·rcases f21 a ha with h1 | h1
       ·exact m2 a h1
       ·have := oR5.lt; have := o5.lt; exact ⟨by omega, by omega⟩
     ·exact core3 w16 g E st16 hG.more (by omega) oR16 oN16 m1 m2 eb3
    ·have ek : k = 2 := by omega
     subst ek
     rw [wi_ i (by omega)]
     have e2 : preK2 wn hn i 2 = fullI wn hn (i + 1) := by unfold preK2; rw [fullI_succ]; simp
     rw [e2] at hG
     exact hX _ _ _ (by omega) ⟨i + 1, g, E, hi', rfl, rfl, st, hG, by omega, oR, fun a ha => (m1 a ha).1, fun a ha => (m2 a ha).1, eb3⟩
   refine ⟨hne, ?_⟩
   have q0 : (0 : Int) ≤ ((i / wn : Nat) : Int) := Int.natCast_nonneg _
   rw [td, w64 (n := ((i / wn : Nat) : Int)) (by omega) (by have := Nat.div_le_self i wn; omega), w64 (n := (hn : Int) - 1) (by omega) (by omega)]
   refine cond_d (fun hc => ⟨by decide, ?_⟩) (fun hc => ?_)
   ·have hc' : i / wn < hn - 1 := by have : ((i / wn : Nat) : Int) < (hn : Int) - 1 := hc; omega
    have hdl := Nat.div_le_self i wn
    rw [show Int.toNat (1 : Int) * 1 = 1 from rfl, show ((⟨w5.heap.size, 0, none⟩ : Addr).add 1) = ⟨w5.heap.size, 1, none⟩ by rw [addr_lit], w64 (n := (i : Int) + (wn : Int)) (by omega) (by omega)]
    refine storeD1_i (o := 1) (v := .int .i64 ((i : Int) + (wn : Int))) o13 size_Int (by simp) rfl rfl fun w14 o14 m14 _ => ?_
    refine core2 w14 (up st13 m14 n1 n2 n3) (upR oR13 m14) ?_
    have : nxt wn hn i 1 = (i : Int) + (wn : Int) := by unfold nxt; simp [hc']
    rw [this]; exact o14
   ·have hc' : ¬ i / wn < hn - 1 := by have : ¬ ((i / wn : Nat) : Int) < (hn : Int) - 1 := hc; omega
    refine core2 w13 st13 oR13 ?_
    have : nxt wn hn i 1 = -1 := by unfold nxt; simp [hc']
    rw [this]; exact o13
  refine ⟨hne, ?_⟩
  rw [tm, w64 (n := (wn : Int) - 1) (by omega) (by omega)]
  have hmod : i % wn < wn := Nat.mod_lt _ (by omega)
  refine cond_d (fun hc => ⟨by decide, ?_⟩) (fun hc => ?_)
  ·have hc' : i % wn < wn - 1 := by have : ((i % wn : Nat) : Int) < (wn : Int) - 1 := hc; omega
   rw [show Int.toNat (0 : Int) * 1 = 0 from rfl, add_zero, w64 (n := (i : Int) + (1 : Int)) (by omega) (by omega)]
   refine storeD1_i (o := 0) (v := .int .i64 ((i : Int) + 1)) o12 size_Int (by simp) rfl rfl fun w13 o13 m13 _ => ?_
   refine core1 w13 (up st12 m13 n1 n2 n3) (upR oR12 m13) ?_
   have : nxt wn hn i 0 = (i : Int) + 1 := by unfold nxt; simp [hc']
   rw [this]; exact o13
  ·have hc' : ¬ i % wn < wn - 1 := by have : ¬ ((i % wn : Nat) : Int) < (wn : Int) - 1 := hc; omega
   refine core1 w12 st12 oR12 ?_
   have : nxt wn hn i 0 = -1 := by unfold nxt; simp [hc']
   rw [this]; exact o12
 have ei : M = i := by omega
 subst ei
 have T0 : TownE M 0 E := by rw [← hMM]; rw [← hMM] at hG; exact hG.town (by omega) (by omega)
 have t0l := T0.len
 clear hX hge hi hG hEl
 refine loop_i (fun c t w5 => ∃ (k : Nat) (g : GT) (E : List R3), k ≤ 3 ∧ c = 4 - k ∧ t = ((k : Int), ()) ∧ TowSt W w5 A g N E [] ∧ TownE M k E ∧ Own w5 W.heap.size tAGraph (gcs (⟨none, 0, 0⟩, ⟨none, 0, 0⟩, ⟨none, 0, 0⟩, ())) ∧ (∀ a, g.1.b = some a → a.block ≠ W.heap.size) ∧ (∀ a, g.2.1.b = some a → a.block ≠ W.heap.size) ∧ g.2.2.1.b = none) 4
  ⟨0, g, E, by omega, rfl, rfl, st, T0, oR, nR, nR2, eb3⟩ ?_
 clear st oR nR nR2 eb3 T0 t0l g E
 rintro c t w5 ⟨k, g, E, hk, rfl, rfl, st, T, oR, nR, nR2, eb3⟩ X hX
 dsimp only
 refine at_i (hlk st.kp) (by decide) (by decide) (by decide) (by decide) fun x10 w6 xa xb k6 => ?_
 have st6 := st.keep k6
 have oR6 := oR.mod k6 id
 have tl := T.len
 refine cond_d (fun hlt => ?_) (fun hge => ?_)
 ·have hk' : k < 3 := by have : (k : Int) < x10 := hlt; omega
  have d6 : Keep w6 w6.drew := Mod.drew (Mod.refl _ w6)
  have st6d := st6.keep d6
  have lit1 : ∀ {wx : World}, Own wx A tAGraph (gcs g) → wx.cell? ((⟨A, 0, none⟩ : Addr).add 1) = some (sv g.2.1) := fun h => by rw [addr_lit, h.cell]; rfl
  refine ld1_i (k := .slice) g.2.1 (lit1 st6d.own) ?_
  rw [w64 (n := (4 : Int) + (k : Int)) (by omega) (by omega), w64 (n := (8 : Int) + (k : Int)) (by omega) (by omega), w64 (n := (12 : Int) + (k : Int)) (by omega) (by omega)]
  refine at_i (hlk st6d.kp) (by omega) (by omega) (by omega) (by omega) fun x11 w7 a0 a1 k7 => ?_
  have st7 := st6d.keep k7
  refine ⟨lit1 st7.own, at_i (hlk st7.kp) (by omega) (by omega) (by omega) (by omega) fun x12 w8 b0 b1 k8 => ?_⟩
  have st8 := st7.keep k8
  refine ⟨lit1 st8.own, at_i (hlk st8.kp) (by omega) (by omega) (by decide) (by decide) fun x13 w9 c0 c1 k9 => ?_⟩
  have st9 := st8.keep k9
  refine ⟨lit1 st9.own, ?_⟩
  rw [w64 (n := (1 : Int) + x13) (by omega) (by omega)]
  have oR9 := (((oR6.mod d6 id).mod k7 id).mod k8 id).mod k9 id
  refine st9.pushE (x := (x11, x12, (1 : Int) + x13)) (by omega) fun w21 s st21 m21 f21 => ?_
  rw [wi_ k (by omega)]
  refine hX (4 - (k + 1)) _ _ (by omega) ⟨k + 1, _, _, hk', rfl, rfl, st21, T.push ⟨⟨a0, a1⟩, ⟨b0, b1⟩, by show 1 ≤ (1 : Int) + x13; omega, by show (1 : Int) + x13 ≤ 40; omega⟩, oR9.mod m21 fun hh => ?_, nR, fun a ha e => ?_, eb3⟩
  ·rcases hh with e | ⟨a, ha, e⟩
   ·omega
   ·exact nR2 a ha e.symm
  ·rcases f21 a ha with h1 | h1
   ·exact nR2 a h1 e
   ·have := oR9.lt; omega
 have T3 := T.more hk
 clear hX hge
 intro J hJ
 have core : ∀ w9 g E, TowSt W w9 A g N E [] → TownE M 3 E → E ≠ [] → Own w9 W.heap.size tAGraph (gcs (⟨none, 0, 0⟩, ⟨none, 0, 0⟩, ⟨none, 0, 0⟩, ())) → (∀ a, g.1.b = some a → a.block ≠ W.heap.size) → (∀ a, g.2.1.b = some a → a.block ≠ W.heap.size) → g.2.2.1.b = none → J () w9 := by
  clear st st6 oR oR6 nR nR2 eb3 T T3 tl g E
  intro w9 g E st T hE1 oR nR nR2 eb3
  apply hJ
  have tl := T.len
  have B0 : TownB E 0 0 [] := ⟨by simp, by simp, List.Pairwise.nil, by simp⟩
  have cells : ∀ {wx : World} {g' : GT}, Own wx A tAGraph (gcs g') → _ := fun {wx g'} h => own3 (x := sv g'.1) (y := sv g'.2.1) (z := sv g'.2.2.1) h
  refine loop_i (fun c t w5 => ∃ (a : Nat) (g : GT) (B : List (Int × Int)), a ≤ E.length ∧ c = E.length - a ∧ t = ((a : Int), ()) ∧ TowSt W w5 A g N E B ∧ TownB E a 0 B ∧ Own w5 W.heap.size tAGraph (gcs (⟨none, 0, 0⟩, ⟨none, 0, 0⟩, ⟨none, 0, 0⟩, ())) ∧ (∀ a, g.1.b = some a → a.block ≠ W.heap.size) ∧ (∀ a, g.2.1.b = some a → a.block ≠ W.heap.size) ∧ (∀ a, g.2.2.1.b = some a → a.block ≠ W.heap.size)) E.length
   ⟨0, g, [], Nat.zero_le _, rfl, rfl, st, B0, oR, nR, nR2, fun a ha => by rw [eb3] at ha; cases ha⟩ ?_
  clear st oR nR nR2 eb3 B0 g
  rintro c t w5 ⟨a, g, B, ha, rfl, rfl, st, hB, oR, nR, nR2, nR3⟩ X hX
  dsimp only
  have el := st.ve.len
  refine ld1_i (k := .slice) g.2.1 (cells st.own).2.1 (cond_d (fun hlt => ?_) (fun hge => ?_))
  ·have ha' : a < E.length := by omega
   refine loop_i (fun c t w6 => ∃ (b : Nat) (g : GT) (B : List (Int × Int)), b ≤ E.length ∧ c = E.length - b ∧ t = ((b : Int), ()) ∧ TowSt W w6 A g N E B ∧ TownB E a b B ∧ Own w6 W.heap.size tAGraph (gcs (⟨none, 0, 0⟩, ⟨none, 0, 0⟩, ⟨none, 0, 0⟩, ())) ∧ (∀ a, g.1.b = some a → a.block ≠ W.heap.size) ∧ (∀ a, g.2.1.b = some a → a.block ≠ W.heap.size) ∧ (∀ a, g.2.2.1.b = some a → a.block ≠ W.heap.size)) E.length
    ⟨0, g, B, Nat.zero_le _, rfl, rfl, st, hB, oR, nR, nR2, nR3⟩ ?_
   clear st oR nR nR2 nR3 hB el g B hlt
   rintro c t w6 ⟨b, g, B, hb, rfl, rfl, st, hB, oR, nR, nR2, nR3⟩ Y hY
   dsimp only
   have el := st.ve.len
   refine ld1_i (k := .slice) g.2.1 (cells st.own).2.1 (cond_d (fun hlt2 => ?_) (fun hge2 => ?_))
   ·have hb' : b < E.length := by omega
    have d6 : Keep w6 w6.drew := Mod.drew (Mod.refl _ w6)
    have st6 := st.keep d6
    have oR6 := oR.mod d6 id
    have hga := List.getElem?_eq_getElem ha'
    have hgb := List.getElem?_eq_getElem hb'
    have ea : E.getD a (0, 0, 0) = E[a] := by rw [List.getD_eq_getElem?_getD, hga]; rfl
    have eb : E.getD b (0, 0, 0) = E[b] := by rw [List.getD_eq_getElem?_getD, hgb]; rfl
    obtain ⟨p, hp, _, _, ct, _⟩ := rd3 (st6.ve.rd lenR3') hga
    obtain ⟨q, hq, _, cf, _, _⟩ := rd3 (st6.ve.rd lenR3') hgb
    rw [Int.toNat_natCast, Int.toNat_natCast]
    refine ld1_i (k := .slice) g.2.1 (cells st6.own).2.1 ⟨⟨by omega, by omega⟩, onSome_i hp (ld1_i (k := .int .i64) _ ct (ld1_i (k := .slice) g.2.1 (cells st6.own).2.1 ⟨⟨by omega, by omega⟩, onSome_i hq (ld1_i (k := .int .i64) _ cf ?_)⟩))⟩
    rw [wi_ b (by omega)]
    refine cond_i (fun he => ?_) (fun he => ?_)
    ·have he' : (E.getD a (0, 0, 0)).2.1 = (E.getD b (0, 0, 0)).1 := by rw [ea, eb]; simpa using he
     rw [w64 (n := (7 : Int) * (a : Int)) (by omega) (by omega), w64 (n := (7 : Int) * (a : Int) + (b : Int)) (by omega) (by omega)]
     refine at_i (hlk st6.kp) (by omega) (by omega) (by decide) (by decide) fun x16 w7 _ _ k7 => ?_
     have st7 := st6.keep k7
     have oR7 := oR6.mod k7 id
     refine cond_i (fun _ => ?_) (fun _ => ?_)
     ·have bl := hB.len
      have fl := List.length_filter_le (fun i => decide ((E.getD i.toNat (0, 0, 0)).1 = (E.getD a (0, 0, 0)).2.1)) (ints b)
      rw [ints_len] at fl
      refine ld1_i (k := .slice) g.2.2.1 (cells st7.own).2.2 ?_
      refine st7.pushB (x := ((a : Int), (b : Int))) (by omega) fun w8 s st8 m8 f8 => ?_
      refine hY _ _ _ (by omega) ⟨b + 1, _, _, hb', rfl, rfl, st8, hB.push ha' hb' he', oR7.mod m8 fun hh => ?_, nR, nR2, fun c hc e => ?_⟩
      ·rcases hh with e | ⟨c, hc, e⟩
       ·omega
       ·exact nR3 c hc e.symm
      ·rcases f8 c hc with h1 | h1
       ·exact nR3 c h1 e
       ·have := oR7.lt; omega
     ·exact hY _ _ _ (by omega) ⟨b + 1, g, B, hb', rfl, rfl, st7, hB.skip, oR7, nR, nR2, nR3⟩
    ·exact hY _ _ _ (by omega) ⟨b + 1, g, B, hb', rfl, rfl, st6, hB.skip, oR6, nR, nR2, nR3⟩
   ·have eb : b = E.length := by omega
    subst eb
    rw [wi_ a (by omega)]
    exact hX _ _ _ (by omega) ⟨a + 1, g, B, ha', rfl, rfl, st, hB.next T, oR, nR, nR2, nR3⟩
  ·have ea : a = E.length := by omega
   subst ea
   refine ldN_i (l := [.slice, .slice, .slice]) g (own_g (g := g) st.own) ?_
   refine agg_store (vs := gcs g) oR size_AGraph rfl (gone1 g) fun w43 o43 m43 _ => ?_
   refine ldN_i (l := [.slice, .slice, .slice]) g (own_g (g := g) o43) ?_
   refine hQ g ⟨N, E, B⟩ w43 ⟨(st.vn.mod m43 fun a ha e => nR a ha e).rd lenP, (st.ve.mod m43 fun a ha e => nR2 a ha e).rd lenR3', (st.vb.mod m43 fun a ha e => nR3 a ha e).rd lenP⟩ (town_ok ⟨by omega, by omega⟩ hNl hNo T hE1 hB) (by show N.length ≤ 16; omega) (st.kp.fresh m43 fun k e => by rw [show k = W.heap.size from e]; exact Nat.le_refl _)
 have el := st6.ve.len
 refine ld1_i (k := .slice) g.2.1 (by rw [addr_lit, st6.own.cell]; rfl) (cond_i (fun h0 => ?_) (fun h0 => ?_))
 ·have hl0 : ((g.2.1.l : Nat) : Int) = 0 := by simpa using h0
  have hE0 : E = [] := List.eq_nil_of_length_eq_zero (by omega)
  refine alloc_i fun w7 o7 k7 z7 => ?_
  have st7 := st6.keep k7
  have oR7 := oR6.mod k7 id
  rw [show ((⟨A, 0, none⟩ : Addr).add 1) = ⟨A, 1, none⟩ by rw [addr_lit]]
  have hAlt := st6.own.lt
  refine storeD1_i (o := 1) (v := .slice (some ⟨w6.heap.size, 0, none⟩) 1 1) st7.own size_sEdge (by simp) rfl rfl fun w8 o8 m8 _ => ?_
  have ve : Vec w7 tEdge 3 eR3 ⟨some ⟨w6.heap.size, 0, none⟩, 1, 1⟩ [((0 : Int), (0 : Int), (3 : Int))] := Vec.new lenR3' [_] o7 (by simp [maxLen])
  refine core w8 (g.1, ⟨some ⟨w6.heap.size, 0, none⟩, 1, 1⟩, g.2.2.1, ()) [((0 : Int), (0 : Int), (3 : Int))] ⟨o8, st7.vn.mod m8 fun a ha e => (st7.n1 a ha).1 e, ve.mod m8 fun a ha e => ?_, st7.vb.mod m8 fun a ha e => (st7.n3 a ha).1 e, st7.n1, fun a ha => ?_, st7.n3, fun a b ha hb => ?_, st7.n13, fun a b ha hb => ?_, st7.lowA, st7.kp.fresh m8 fun k e => by rw [show k = A from e]; exact st7.lowA⟩ (TownE.one (by omega)) (by simp) (oR7.mod m8 fun e => by omega) nR (fun a ha e => ?_) eb3
  ·cases ha; have e' : w6.heap.size = A := e; omega
  ·cases ha; exact ⟨by show w6.heap.size ≠ A; omega, st6.kp.size⟩
  ·cases hb; have := st6.vn.lt ha; show a.block ≠ w6.heap.size; omega
  ·rw [eb3] at hb; cases hb
  ·cases ha; have e' : w6.heap.size = W.heap.size := e; have := oR6.lt; omega
 ·have hE0 : E ≠ [] := fun h => by
   have h1 : ¬ ((g.2.1.l : Nat) : Int) = 0 := by simpa using h0
   rw [h] at el; simp at el; omega
  exact core w6 g E st6 T3 hE0 oR6 nR nR2 eb3
end Go.Proofs.YtjjgcimlmjnaeaaGreat

namespace Go.Proofs.YtjjgcimlmjnaeaaGreat
open Go Go.Den
theorem own_mem {w : World} {e : TypeId} {cs : List Value} {ad : Addr} {v : Value} (o : Own w ad.block e cs) (h : w.cell? ad = some v) : v ∈ cs := by
 unfold World.cell? at h
 have o' : w.heap[ad.block]? = some (.cells cs.toArray e (0, 0)) := o
 rw [o'] at h
 simp only at h
 split at h
 ·cases h
 ·rw [List.getElem?_toArray] at h
  exact List.mem_of_getElem? h
theorem own_ne {w : World} {a b : Nat} {e e' : TypeId} {cs ds : List Value} (o : Own w a e cs) (o' : Own w b e' ds) (hne : e ≠ e') : a ≠ b := fun h => by
 subst h
 have h1 : w.heap[a]? = some (.cells cs.toArray e (0, 0)) := o
 have h2 : w.heap[a]? = some (.cells ds.toArray e' (0, 0)) := o'
 rw [h1] at h2
 cases h2
 exact hne rfl
def Sls (w : World) (a : Nat) (t : TypeId) : Prop := ∃ cs, Own w a t cs ∧ ∀ v ∈ cs, ∃ s : Sl, v = sv s
section
variable {w w' : World} {a : Nat}
theorem rd_chg {t : TypeId} {α : Type} {n : Nat} {enc : α → List Value} {s : Sl} {xs : List α} (h : Rd w s n enc xs) (m : Mod (fun k => k = a) w w') (o : Sls w a t) (henc : ∀ x, ∃ v, (enc x)[0]? = some v ∧ ∀ s : Sl, v ≠ sv s) : Rd w' s n enc xs := by
 obtain ⟨cs, o, hcs⟩ := o
 refine ⟨h.len, h.cap, fun i x hx => ?_⟩
 obtain ⟨b, hb, hh⟩ := h.get i x hx
 have h2 := holds_iff.1 hh
 have hne : b.block ≠ a := fun e => by
  obtain ⟨v, hv, hn⟩ := henc x
  have hc := h2 0 v hv
  obtain ⟨s', hs'⟩ := hcs v (own_mem (ad := (b.add (i * n)).add (0 + 0)) (by simp only [add_block, e]; exact o) hc)
  exact hn s' hs'
 exact ⟨b, hb, holds_iff.2 fun j v hj => m.cell (h2 j v hj) (by simp only [add_block]; exact hne)⟩
theorem eI_nos : ∀ x : Int, ∃ v, (eI x)[0]? = some v ∧ ∀ s : Sl, v ≠ sv s := fun x => ⟨_, rfl, fun s h => by cases h⟩
variable {G : Gr} (m : Mod (fun k => k = a) w w') (o : Sls w a tAGraph)
include m o
theorem GvIs.chg {g : GT} (h : GvIs w g G) : GvIs w' g G :=
 ⟨rd_chg h.nd m o fun x => ⟨_, rfl, fun s h => by cases h⟩, rd_chg h.ed m o fun x => ⟨_, rfl, fun s h => by cases h⟩, rd_chg h.bn m o fun x => ⟨_, rfl, fun s h => by cases h⟩⟩
theorem ByN.chg {row first : Sl} {n mm : Nat} {key : Int → Int} (h : ByN w row first n mm key) : ByN w' row first n mm key := by
 obtain ⟨fs, rs, h1, h2, h3⟩ := h
 exact ⟨fs, rs, rd_chg h1 m o eI_nos, rd_chg h2 m o eI_nos, h3⟩
theorem own_chg {b : Nat} {e : TypeId} {cs : List Value} (h : Own w b e cs) (hne : tAGraph ≠ e) : Own w' b e cs := by
 obtain ⟨ds, o, _⟩ := o
 exact h.mod m fun e => own_ne o h hne e.symm
theorem GraIs.chg {H : GraS} (h : GraIs w H G) : GraIs w' H G := ⟨h.ok, own_chg m o h.head (by decide), GvIs.chg m o h.val, ByN.chg m o h.out, ByN.chg m o h.inn⟩
theorem RowsRd.chg {s : Sl} {rows : List (List Int)} (h : RowsRd w s rows) (ht : ∀ b, s.b = some b → ∃ cs, Own w b.block tsInt cs) : RowsRd w' s rows := by
 obtain ⟨ss, h1, h2, h3⟩ := h
 have oo := o
 obtain ⟨ds, o', _⟩ := oo
 refine ⟨ss, h1.mod m eS_ne fun b hb e => ?_, h2, fun i x r hx hr => rd_chg (h3 i x r hx hr) m o eI_nos⟩
 obtain ⟨cs, o2⟩ := ht b hb
 exact own_ne o' o2 (by decide) (by have e' : b.block = a := e; exact e'.symm)
theorem TurIs.chg {t : TurS} (h : TurIs w t G) : TurIs w' t G :=
 ⟨own_chg m o h.head (by decide), GraIs.chg m o h.gra, RowsRd.chg m o h.nxt fun b hb => h.typ b (.inl hb), RowsRd.chg m o h.prv fun b hb => h.typ b (.inr hb), fun b hb => by obtain ⟨cs, oo⟩ := h.typ b hb; exact ⟨cs, own_chg m o oo (by decide)⟩⟩
theorem LevIs.chg {H : LevS} {n : Nat} {A : List Arc} {R : List Int} (h : LevIs w H n A R) : LevIs w' H n A R := by
 obtain ⟨ds, o', _⟩ := o
 refine h.mod m fun k hk e => ?_
 have e' : k = a := e
 subst e'
 rcases hk with rfl | hk | ⟨b, hb, hbk⟩
 ·exact own_ne o' h.head (by decide) rfl
 ·have hn := h.net.at_
  rcases hk with rfl | rfl | rfl | ⟨i, s, b, h1, h2, hbk⟩
  ·exact own_ne o' hn.head (by decide) rfl
  ·exact own_ne o' hn.outs (by decide) rfl
  ·exact own_ne o' hn.ins (by decide) rfl
  ·obtain ⟨cs, o2⟩ := vec_own (hn.row i s h1) h2
   exact own_ne o' o2 (by decide) hbk.symm
 ·obtain ⟨cs, o2⟩ := vec_own h.rank hb
  exact own_ne o' o2 (by decide) (by first | exact hbk | exact hbk.symm)
theorem EngIs.chg {E : EngS} (h : EngIs w E G) : EngIs w' E G := by
 obtain ⟨os, h1, h2⟩ := h.ord
 exact ⟨own_chg m o h.head (by decide), TurIs.chg m o h.tur, LevIs.chg m o h.lev, os, rd_chg h1 m o eI_nos, h2⟩
end
end Go.Proofs.YtjjgcimlmjnaeaaGreat
