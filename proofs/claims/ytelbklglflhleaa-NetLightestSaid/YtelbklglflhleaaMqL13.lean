/-
  Chapter 13's laws: what their functions share.
-/
import Derived.Test.YtelbklglflhleaaFL13
import Derived.Test.YtelbklglflhleaaMqRNet2
namespace Go.Proofs.Ytelbklglflhleaa
open Go Go.Den

theorem rd_arcs {w : World} {xs : List Arc} {cs : Array Value} (hc : cs.toList = xs.flatMap eArc) (n : Nat) (hn : n = xs.length) (hm : n ≤ 100) : Rd (w.alloc (.cells cs tArc)) ⟨some ⟨w.heap.size, 0, none⟩, n, n⟩ 4 eArc xs := by
  subst hn
  exact (Vec.lit w tArc eArc lenA xs cs hc (by simp [maxLen]; omega)).rd lenA

theorem Put_none {a : Arc} {w : World} {Q : Bool → World → Prop} (hQ : ∀ w', Keep w w' → Q false w') : F_net_Net_Put none (tupA a) w Q := by
  unfold F_net_Net_Put
  simp only [allocD]
  exact cond_i (fun _ => hQ _ (Keep.alloc w _)) (fun h => by simp at h)

theorem awake13_i {w : World} {Q : Bool → World → Prop} (hQ : ∀ w', Keep w w' → Q true w') : F_law13_awake w Q := by
  unfold F_law13_awake
  simp only [allocD]
  have k1 := Keep.alloc w (.cells #[Value.int .i64 (0 : Int), Value.int .i64 (1 : Int), Value.int .i64 (5 : Int), Value.int .i64 (-1 : Int), Value.int .i64 (0 : Int), Value.int .i64 (1 : Int), Value.int .i64 (3 : Int), Value.int .i64 (2 : Int)] 32)
  have okA : ∀ a ∈ ([⟨0, 1, 5, -1⟩, ⟨0, 1, 3, 2⟩] : List Arc), mayA (3 : Int).toNat a := by decide
  refine New_i (rd_arcs (xs := [⟨0, 1, 5, -1⟩, ⟨0, 1, 3, 2⟩]) rfl 2 rfl (by omega)) (by simp) (fun w2 _ hn => absurd ⟨by omega, by omega, okA⟩ hn) fun w2 N _ _ _ hN k2 hfr => ?_
  have e1 : putAll (3 : Int).toNat [] [⟨0, 1, 5, -1⟩, ⟨0, 1, 3, 2⟩] = [⟨0, 1, 3, 2⟩] := by decide
  rw [e1] at hN
  have k12 := k1.tr k2
  have k3 := Keep.alloc w2 (.cells #[Value.int .i64 (0 : Int), Value.int .i64 (0 : Int), Value.int .i64 (5 : Int), Value.int .i64 (-1 : Int)] 32)
  refine New_i (rd_arcs (xs := [⟨0, 0, 5, -1⟩]) rfl 1 rfl (by omega)) (by simp) (fun w4 k4 _ => ?_) fun w4 N' _ _ hall _ _ _ => absurd (hall ⟨0, 0, 5, -1⟩ (by simp)) (by decide)
  refine New_i (Rd.nil _ _ _) (by simp) (fun w5 k5 _ => ?_) fun w5 N' h0 _ _ _ _ _ => absurd h0 (by omega)
  have k25 := (k3.tr k4).tr k5
  have k5' := k12.tr k25
  have h5 := hN.keep k25
  refine cond_i (fun h => by simp at h) (fun _ => cond_i (fun h => by simp at h) (fun _ => ?_))
  refine Arc_i h5 (fun x w6 hx k6 => ?_) (fun w6 hx _ => absurd hx (by decide))
  have hx' : x = ⟨0, 1, 3, 2⟩ := by
    have : findL [⟨0, 1, 3, 2⟩] 0 1 = some (⟨0, 1, 3, 2⟩ : Arc) := by decide
    rw [this] at hx; exact (Option.some.inj hx).symm
  subst hx'
  have h6 := h5.keep k6
  have k6' := k5'.tr k6
  have k7 := Keep.alloc w6 (.cells #[Value.int .i64 0, Value.int .i64 0, Value.int .i64 0, Value.int .i64 0] 32)
  have o7 : Own (w6.alloc (.cells #[Value.int .i64 0, Value.int .i64 0, Value.int .i64 0, Value.int .i64 0] 32)) w6.heap.size 32 (eArc ⟨0, 0, 0, 0⟩) := Own.alloc' w6 _ 32
  have h7 := h6.keep k7
  refine zero_store (x := ⟨0, 1, 3, 2⟩) o7 rfl fun w8 o8 m8 => ?_
  have k8 : Keep w6 w8 := Mod.fresh k7 m8 fun k hk => by omega
  have h8 := h6.keep k8
  have k8' := k6'.tr k8
  generalize hb : w6.heap.size = b at *
  have hNb : ∀ {k}, N.has k → k ≠ b := fun hk => by have := h6.at_.lt hk; omega
  have sz8 : b < w8.heap.size := o8.lt
  refine Put_i (a := ⟨0, 1, 3, -1⟩) h8 fun w9 N9 h9 g9 m9 f9 => ?_
  have e9 : putL 3 [⟨0, 1, 3, 2⟩] ⟨0, 1, 3, -1⟩ = ([⟨0, 1, 3, 2⟩], false) := by decide
  simp only [show (3 : Int).toNat = 3 from rfl] at *
  rw [e9] at h9 ⊢
  rw [← g9]
  refine Put_i (a := ⟨1, 2, 1, -1⟩) h9 fun w10 N10 h10 g10 m10 f10 => ?_
  have e10 : putL 3 [⟨0, 1, 3, 2⟩] ⟨1, 2, 1, -1⟩ = ([⟨0, 1, 3, 2⟩, ⟨1, 2, 1, -1⟩], true) := by decide
  rw [e10] at h10 ⊢
  rw [← g10]
  have wN : ∀ k, N.has k → w.heap.size ≤ k := fun k hk => Nat.le_trans k1.size (hfr k hk)
  have wN9 : ∀ k, N9.has k → w.heap.size ≤ k := fun k hk => (f9 k hk).elim (wN k) fun h => Nat.le_trans k8'.size h
  have k9' : Keep w w9 := Mod.fresh k8' m9 wN
  have k10' : Keep w w10 := Mod.fresh k9' m10 wN9
  have wN10 : ∀ k, N10.has k → w.heap.size ≤ k := fun k hk => (f10 k hk).elim (wN9 k) fun h => Nat.le_trans k9'.size h
  have b9 : ∀ k, N9.has k → k ≠ b := fun k hk => (f9 k hk).elim (fun h => hNb h) fun h => by omega
  have o9 := o8.mod m9 fun hk => hNb hk rfl
  have o10 := o9.mod m10 fun hk => b9 b hk rfl
  have b10 : ∀ k, N10.has k → k ≠ b := fun k hk => (f10 k hk).elim (b9 k) fun h => by have := m9.size; omega
  refine Copy_i h10 (by simp) fun w11 C hC k11 fC => ?_
  have h11 := h10.keep k11
  have o11 := o10.mod k11 id
  refine Cut_i h11 fun w12 N12 h12 g12 m12 f12 => ?_
  have e12 : cutL [⟨0, 1, 3, 2⟩, ⟨1, 2, 1, -1⟩] 1 = [] := by decide
  rw [e12] at h12
  rw [← g12]
  have o12 := o11.mod m12 fun hk => b10 b hk rfl
  have hC12 := hC.mod m12 fun k hk hk' => by have := h10.at_.lt hk'; have := fC k hk; omega
  have k12' : Keep w w12 := Mod.fresh (k10'.tr k11) m12 wN10
  refine cond_i (fun _ => ?_) (fun h => by simp at h)
  refine cond_i (fun _ => ?_) (fun h => by simp at h)
  refine cond_i (fun _ => ?_) (fun h => by simp at h)
  refine ld1_i (k := .int .i64) (2 : Int) (by rw [addr_lit, o12.cell]; rfl) ?_
  refine cond_i (fun _ => ?_) (fun h => by simp at h)
  refine cond_i (fun _ => ?_) (fun h => by simp at h)
  refine cond_i (fun _ => ?_) (fun h => by simp at h)
  refine All_i h12 (by simp) fun s1 w13 v13 k13 _ => ?_
  have l13 := v13.len
  refine cond_i (fun _ => ?_) (fun h => by simp [l13] at h)
  refine cond_i (fun _ => ?_) (fun h => by simp at h)
  refine All_i (hC12.keep k13) (by simp) fun s2 w14 v14 k14 _ => ?_
  have l14 := v14.len
  refine cond_i (fun _ => ?_) (fun h => by simp [l14] at h)
  refine Len_i ((h12.keep k13).keep k14) ?_
  refine cond_i (fun _ => ?_) (fun h => by simp at h)
  refine Len_none ?_
  refine cond_i (fun _ => ?_) (fun h => by simp at h)
  refine Copy_none ?_
  refine cond_i (fun _ => ?_) (fun h => by simp at h)
  refine ldN_i (tupA ⟨0, 1, 3, 2⟩) (own_all ((o12.mod k13 id).mod k14 id)) ?_
  refine Put_none (a := ⟨0, 1, 3, 2⟩) fun w18 k18 => ?_
  exact hQ w18 (((k12'.tr k13).tr k14).tr k18)

/-- The program's net and the document's, side by side. -/
structure Two (W w : World) (N : NetS) (g : Nat) (s : Sl) (n : Nat) (l : List Arc) : Prop where
  net : NetIs w N n l
  ref : RNetIs w g s n l
  apart : ∀ k, N.has k → ¬ rhas g s k
  since : Keep W w
  fn : ∀ k, N.has k → W.heap.size ≤ k
  fr : ∀ k, rhas g s k → W.heap.size ≤ k
section
variable {W w : World} {N : NetS} {g : Nat} {s : Sl} {n : Nat} {l : List Arc}
theorem Two.keep {w' : World} (h : Two W w N g s n l) (k : Keep w w') : Two W w' N g s n l := ⟨h.net.keep k, h.ref.keep k, h.apart, h.since.tr k, h.fn, h.fr⟩
theorem Two.small (h : Two W w N g s n l) : l.length < 1099511627776 := by have := h.net.ok.len h.net.sz; omega
theorem Two.netTurned {w' : World} {N' : NetS} {l' : List Arc} (h : Two W w N g s n l) (h' : NetIs w' N' n l') (m : Mod N.has w w') (f : ∀ k, N'.has k → N.has k ∨ w.heap.size ≤ k) : NetIs w' N' n l' ∧ RNetIs w' g s n l ∧ (∀ k, N'.has k → ¬ rhas g s k) ∧ Keep W w' ∧ (∀ k, N'.has k → W.heap.size ≤ k) := by
  refine ⟨h', h.ref.mod m fun k hk hk' => h.apart k hk' hk, fun k hk hk' => ?_, Mod.fresh h.since m h.fn, fun k hk => (f k hk).elim (h.fn k) fun h2 => Nat.le_trans h.since.size h2⟩
  rcases f k hk with h2 | h2
  · exact h.apart k h2 hk'
  · have := h.ref.lt hk'; omega
/-- Both have turned alike. -/
theorem Two.refTurned {w2 w' : World} {N' : NetS} {s' : Sl} {l' : List Arc} (hn : NetIs w2 N' n l') (hap : ∀ k, N'.has k → ¬ rhas g s k) (hk : Keep W w2) (hfn : ∀ k, N'.has k → W.heap.size ≤ k) (hfr : ∀ k, rhas g s k → W.heap.size ≤ k)
    (h' : RNetIs w' g s' n l') (m : Mod (fun k => k = g) w2 w') (f : ∀ b, s'.b = some b → s'.b = s.b ∨ w2.heap.size ≤ b.block) : Two W w' N' g s' n l' := by
  refine ⟨hn.mod m fun k hk2 e => hap k hk2 (.inl e), h', fun k hk2 hk3 => ?_, Mod.fresh hk m fun k e => hfr k (.inl e), hfn, fun k hk3 => ?_⟩
  · rcases hk3 with e | ⟨b, hb, rfl⟩
    · exact hap k hk2 (.inl e)
    · rcases f b hb with e | e
      · exact hap _ hk2 (.inr ⟨b, e ▸ hb, rfl⟩)
      · have := hn.at_.lt hk2; omega
  · rcases hk3 with e | ⟨b, hb, rfl⟩
    · exact hfr k (.inl e)
    · rcases f b hb with e | e
      · exact hfr _ (.inr ⟨b, e ▸ hb, rfl⟩)
      · exact Nat.le_trans hk.size e
end
end Go.Proofs.Ytelbklglflhleaa
