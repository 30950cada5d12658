import Derived.Test.YtjjgcimlmjnaeaaGreatA1
import Derived.Test.YtjjgcimlmjnaeaaGreatFBase
import Derived.Test.YtjjgcimlmjnaeaaGreatFNet
import Derived.Test.YtjjgcimlmjnaeaaGreatFUnp
namespace Go.Proofs.YtjjgcimlmjnaeaaGreat
open Go Go.Den
set_option maxRecDepth 100000
/-- milepost/milepostref4.Node -/
def F_ref4_Node (g : Sl × Sl × Sl × Unit) (n : Int) (w : World) (Q : Bool → World → Prop) : Prop :=
  allocD w #[Value.slice g.1.b g.1.l g.1.c, Value.slice g.2.1.b g.2.1.l g.2.1.c, Value.slice g.2.2.1.b g.2.2.1.l g.2.2.1.c] 28 fun a1 w1 =>
  ld1 .slice w1 (a1.add 0) fun (s1 : Sl) =>
  F_ref4_within n (0 : Int) (IntKind.wrap .i64 (((s1.l : Nat) : Int) - (1 : Int))) w1 fun (b1 : Bool) w2 =>
  Q b1 w2
def G_ref4_Node (t : KTs [.agg [.slice, .slice, .slice], .c (.int .i64)]) (w : World) (K : Value → World → Prop) : Prop := F_ref4_Node t.1 t.2.1 w fun (r0 : Bool) w1 => K (Value.bool r0) w1
abbrev T_ref4_Node : Tr := fun args w K => decK [.agg [.slice, .slice, .slice], .c (.int .i64)] args fun t => G_ref4_Node t w K
theorem S_ref4_Node : Sound Tryz.prog 36 T_ref4_Node := sound_of (fn := Tryz.f36) Tryz.func36 (by kernel_rfl) mixed (by kernel_rfl) (.n) [(40, T_ref4_within)] ⟨⟨by kernel_rfl, S_ref4_within⟩, trivial⟩ [.agg [.slice, .slice, .slice], .c (.int .i64)] (by kernel_rfl) G_ref4_Node fun t w K => by kernel_rfl

/-- milepost/milepostref4.Edge -/
def F_ref4_Edge (g : Sl × Sl × Sl × Unit) (e_ : Int) (w : World) (Q : Bool → World → Prop) : Prop :=
  allocD w #[Value.slice g.1.b g.1.l g.1.c, Value.slice g.2.1.b g.2.1.l g.2.1.c, Value.slice g.2.2.1.b g.2.2.1.l g.2.2.1.c] 28 fun a1 w1 =>
  ld1 .slice w1 (a1.add 1) fun (s1 : Sl) =>
  F_ref4_within e_ (0 : Int) (IntKind.wrap .i64 (((s1.l : Nat) : Int) - (1 : Int))) w1 fun (b1 : Bool) w2 =>
  Q b1 w2
def G_ref4_Edge (t : KTs [.agg [.slice, .slice, .slice], .c (.int .i64)]) (w : World) (K : Value → World → Prop) : Prop := F_ref4_Edge t.1 t.2.1 w fun (r0 : Bool) w1 => K (Value.bool r0) w1
abbrev T_ref4_Edge : Tr := fun args w K => decK [.agg [.slice, .slice, .slice], .c (.int .i64)] args fun t => G_ref4_Edge t w K
theorem S_ref4_Edge : Sound Tryz.prog 15 T_ref4_Edge := sound_of (fn := Tryz.f15) Tryz.func15 (by kernel_rfl) mixed (by kernel_rfl) (.n) [(40, T_ref4_within)] ⟨⟨by kernel_rfl, S_ref4_within⟩, trivial⟩ [.agg [.slice, .slice, .slice], .c (.int .i64)] (by kernel_rfl) G_ref4_Edge fun t w K => by kernel_rfl

/-- milepost/milepostref4.Banned -/
def F_ref4_Banned (g : Sl × Sl × Sl × Unit) (a : Int) (b : Int) (w : World) (Q : Bool → World → Prop) : Prop :=
  allocD w #[Value.slice g.1.b g.1.l g.1.c, Value.slice g.2.1.b g.2.1.l g.2.1.c, Value.slice g.2.2.1.b g.2.2.1.l g.2.2.1.c] 28 fun a1 w1 =>
  ∀ X1 : (Int × Unit) → World → Prop, (∀ (t1 : Int × Unit) (w2 : World), (
  ld1 .slice w2 (a1.add 2) fun (s1 : Sl) =>
  cond (decide (t1.1 < ((s1.l : Nat) : Int)))
  (ld1 .slice w2 (a1.add 2) fun (s2 : Sl) =>
  (0 ≤ t1.1 ∧ t1.1 < ((s2.l : Nat) : Int)) ∧
  onSome s2.b fun a2 =>
  ld1 (.int .i64) w2 ((a2.add (Int.toNat t1.1 * 2)).add 0) fun (x1 : Int) =>
  cond (x1 == a)
  (ld1 .slice w2 (a1.add 2) fun (s3 : Sl) =>
  (0 ≤ t1.1 ∧ t1.1 < ((s3.l : Nat) : Int)) ∧
  onSome s3.b fun a3 =>
  ld1 (.int .i64) w2 ((a3.add (Int.toNat t1.1 * 2)).add 1) fun (x2 : Int) =>
  cond (x2 == b)
  (Q true w2)
  (X1 ((IntKind.wrap .i64 (t1.1 + (1 : Int))), ()) w2))
  (X1 ((IntKind.wrap .i64 (t1.1 + (1 : Int))), ()) w2))
  (Q false w2)) → X1 t1 w2) →
  X1 ((0 : Int), ()) w1
def G_ref4_Banned (t : KTs [.agg [.slice, .slice, .slice], .c (.int .i64), .c (.int .i64)]) (w : World) (K : Value → World → Prop) : Prop := F_ref4_Banned t.1 t.2.1 t.2.2.1 w fun (r0 : Bool) w1 => K (Value.bool r0) w1
abbrev T_ref4_Banned : Tr := fun args w K => decK [.agg [.slice, .slice, .slice], .c (.int .i64), .c (.int .i64)] args fun t => G_ref4_Banned t w K
theorem S_ref4_Banned : Sound Tryz.prog 96 T_ref4_Banned := sound_of (fn := Tryz.f96) Tryz.func96 (by kernel_rfl) mixed (by kernel_rfl) (.s .n (.s (.s .n (.b (.l [(7, .c (.int .i64))] [6, 7, 8, 9, 10, 11, 12, 13, 14, 15, 16, 17, 18, 19, 20, 21, 22, 23, 24, 25, 26, 27, 28, 29, 30, 31, 32] .n))) .n)) [] trivial [.agg [.slice, .slice, .slice], .c (.int .i64), .c (.int .i64)] (by kernel_rfl) G_ref4_Banned fun t w K => by kernel_rfl

/-- milepost/milepostref4.Turn -/
def F_ref4_Turn (g : Sl × Sl × Sl × Unit) (a : Int) (b : Int) (w : World) (Q : Bool → World → Prop) : Prop :=
  allocD w #[Value.slice g.1.b g.1.l g.1.c, Value.slice g.2.1.b g.2.1.l g.2.1.c, Value.slice g.2.2.1.b g.2.2.1.l g.2.2.1.c] 28 fun a1 w1 =>
  ldN [.slice, .slice, .slice] w1.drew a1 fun (t1 : Sl × Sl × Sl × Unit) =>
  F_ref4_Edge (t1.1, t1.2.1, t1.2.2.1, ()) a w1.drew fun (b1 : Bool) w2 =>
  cond b1
  (ldN [.slice, .slice, .slice] w2 a1 fun (t2 : Sl × Sl × Sl × Unit) =>
  F_ref4_Edge (t2.1, t2.2.1, t2.2.2.1, ()) b w2 fun (b2 : Bool) w3 =>
  cond b2
  (ld1 .slice w3 (a1.add 1) fun (s1 : Sl) =>
  (0 ≤ a ∧ a < ((s1.l : Nat) : Int)) ∧
  onSome s1.b fun a2 =>
  ld1 (.int .i64) w3 ((a2.add (Int.toNat a * 3)).add 1) fun (x1 : Int) =>
  ld1 .slice w3 (a1.add 1) fun (s2 : Sl) =>
  (0 ≤ b ∧ b < ((s2.l : Nat) : Int)) ∧
  onSome s2.b fun a3 =>
  ld1 (.int .i64) w3 ((a3.add (Int.toNat b * 3)).add 0) fun (x2 : Int) =>
  cond (x1 == x2)
  (ldN [.slice, .slice, .slice] w3 a1 fun (t3 : Sl × Sl × Sl × Unit) =>
  F_ref4_Banned (t3.1, t3.2.1, t3.2.2.1, ()) a b w3 fun (b3 : Bool) w4 =>
  Q (!b3) w4)
  (Q false w3))
  (Q false w3))
  (Q false w2)
def G_ref4_Turn (t : KTs [.agg [.slice, .slice, .slice], .c (.int .i64), .c (.int .i64)]) (w : World) (K : Value → World → Prop) : Prop := F_ref4_Turn t.1 t.2.1 t.2.2.1 w fun (r0 : Bool) w1 => K (Value.bool r0) w1
abbrev T_ref4_Turn : Tr := fun args w K => decK [.agg [.slice, .slice, .slice], .c (.int .i64), .c (.int .i64)] args fun t => G_ref4_Turn t w K
theorem S_ref4_Turn : Sound Tryz.prog 67 T_ref4_Turn := sound_of (fn := Tryz.f67) Tryz.func67 (by kernel_rfl) mixed (by kernel_rfl) (.s .n (.s (.r (.fl 0 (.fl 1 (.mn 2 (.fl 3 (.fl 4 (.fl 5 (.mn 6 (.fl 7 (.fl 8 (.fl 9 (.fl 10 (.fl 11 (.fl 12 (.fl 13 (.fl 14 (.fl 15 (.fl 16 (.fl 17 (.fl 18 (.fl 19 (.fl 20 (.fl 21 (.fl 22 (.fl 23 (.fl 24 (.fl 25 (.fl 26 (.mn 27 (.fl 28 (.fl 29 (.fl 30 .fin))) .no))))))))))))))))))))) .no)))) .no)))) .n)) [(15, T_ref4_Edge), (96, T_ref4_Banned)] ⟨⟨by kernel_rfl, S_ref4_Edge⟩, ⟨by kernel_rfl, S_ref4_Banned⟩, trivial⟩ [.agg [.slice, .slice, .slice], .c (.int .i64), .c (.int .i64)] (by kernel_rfl) G_ref4_Turn fun t w K => by kernel_rfl

/-- milepost/milepostref4.Next -/
def F_ref4_Next (g : Sl × Sl × Sl × Unit) (e_ : Int) (w : World) (Q : Sl → World → Prop) : Prop :=
  allocD w #[Value.slice g.1.b g.1.l g.1.c, Value.slice g.2.1.b g.2.1.l g.2.1.c, Value.slice g.2.2.1.b g.2.2.1.l g.2.2.1.c] 28 fun a1 w1 =>
  ∀ X1 : (Sl × Int × Unit) → World → Prop, (∀ (t1 : Sl × Int × Unit) (w2 : World), (
  ld1 .slice w2 (a1.add 1) fun (s1 : Sl) =>
  cond (decide (t1.2.1 < ((s1.l : Nat) : Int)))
  (ldN [.slice, .slice, .slice] w2 a1 fun (t2 : Sl × Sl × Sl × Unit) =>
  F_ref4_Turn (t2.1, t2.2.1, t2.2.2.1, ()) e_ t1.2.1 w2 fun (b1 : Bool) w3 =>
  cond b1
  (allocD w3 #[Value.int .i64 t1.2.1] 3 fun a2 w4 =>
  appendD Tryz.prog 22 22 t1.1 (Value.slice (some a2) 1 1) w4 fun (s2 : Sl) w5 =>
  X1 (s2, (IntKind.wrap .i64 (t1.2.1 + (1 : Int))), ()) w5)
  (X1 (t1.1, (IntKind.wrap .i64 (t1.2.1 + (1 : Int))), ()) w3))
  (Q t1.1 w2)) → X1 t1 w2) →
  X1 (⟨none, 0, 0⟩, (0 : Int), ()) w1
def G_ref4_Next (t : KTs [.agg [.slice, .slice, .slice], .c (.int .i64)]) (w : World) (K : Value → World → Prop) : Prop := F_ref4_Next t.1 t.2.1 w fun (r0 : Sl) w1 => K (Value.slice r0.b r0.l r0.c) w1
abbrev T_ref4_Next : Tr := fun args w K => decK [.agg [.slice, .slice, .slice], .c (.int .i64)] args fun t => G_ref4_Next t w K
theorem S_ref4_Next : Sound Tryz.prog 51 T_ref4_Next := sound_of (fn := Tryz.f51) Tryz.func51 (by kernel_rfl) mixed (by kernel_rfl) (.s .n (.s .n (.s (.s .n (.b (.l [(5, .c .slice), (6, .c (.int .i64))] [5, 6, 7, 8, 9, 10, 11, 12, 13, 14, 15, 16, 17, 18, 19, 20, 21] .n))) .n))) [(67, T_ref4_Turn)] ⟨⟨by kernel_rfl, S_ref4_Turn⟩, trivial⟩ [.agg [.slice, .slice, .slice], .c (.int .i64)] (by kernel_rfl) G_ref4_Next fun t w K => by kernel_rfl

/-- milepost/milepostref4.Arcs -/
def F_ref4_Arcs (g : Sl × Sl × Sl × Unit) (w : World) (Q : Sl → World → Prop) : Prop :=
  allocD w #[Value.slice g.1.b g.1.l g.1.c, Value.slice g.2.1.b g.2.1.l g.2.1.c, Value.slice g.2.2.1.b g.2.2.1.l g.2.2.1.c] 28 fun a1 w1 =>
  ∀ X1 : (Sl × Int × Unit) → World → Prop, (∀ (t1 : Sl × Int × Unit) (w2 : World), (
  ld1 .slice w2 (a1.add 1) fun (s1 : Sl) =>
  cond (decide (t1.2.1 < ((s1.l : Nat) : Int)))
  (ldN [.slice, .slice, .slice] w2 a1 fun (t2 : Sl × Sl × Sl × Unit) =>
  F_ref4_Next (t2.1, t2.2.1, t2.2.2.1, ()) t1.2.1 w2 fun (s2 : Sl) w3 =>
  ∀ X2 : (Sl × Int × Unit) → World → Prop, (∀ (t3 : Sl × Int × Unit) (w4 : World), (
  cond (decide (t3.2.1 < ((s2.l : Nat) : Int)))
  ((0 ≤ t3.2.1 ∧ t3.2.1 < ((s2.l : Nat) : Int)) ∧
  onSome s2.b fun a2 =>
  ld1 (.int .i64) w4.drew (a2.add (Int.toNat t3.2.1 * 1)) fun (x1 : Int) =>
  ld1 .slice w4.drew (a1.add 1) fun (s3 : Sl) =>
  (0 ≤ t3.2.1 ∧ t3.2.1 < ((s2.l : Nat) : Int)) ∧
  onSome s2.b fun a3 =>
  ld1 (.int .i64) w4.drew (a3.add (Int.toNat t3.2.1 * 1)) fun (x2 : Int) =>
  (0 ≤ x2 ∧ x2 < ((s3.l : Nat) : Int)) ∧
  onSome s3.b fun a4 =>
  ld1 (.int .i64) w4.drew ((a4.add (Int.toNat x2 * 3)).add 2) fun (x3 : Int) =>
  allocD w4.drew #[Value.int .i64 t1.2.1, Value.int .i64 x1, Value.int .i64 x3, Value.int .i64 (-1 : Int)] 91 fun a5 w5 =>
  appendD Tryz.prog 88 88 t3.1 (Value.slice (some a5) 1 1) w5 fun (s4 : Sl) w6 =>
  X2 (s4, (IntKind.wrap .i64 (t3.2.1 + (1 : Int))), ()) w6)
  (X1 (t3.1, (IntKind.wrap .i64 (t1.2.1 + (1 : Int))), ()) w4)) → X2 t3 w4) →
  X2 (t1.1, (0 : Int), ()) w3)
  (Q t1.1 w2)) → X1 t1 w2) →
  X1 (⟨none, 0, 0⟩, (0 : Int), ()) w1
def G_ref4_Arcs (t : KTs [.agg [.slice, .slice, .slice]]) (w : World) (K : Value → World → Prop) : Prop := F_ref4_Arcs t.1 w fun (r0 : Sl) w1 => K (Value.slice r0.b r0.l r0.c) w1
abbrev T_ref4_Arcs : Tr := fun args w K => decK [.agg [.slice, .slice, .slice]] args fun t => G_ref4_Arcs t w K
theorem S_ref4_Arcs : Sound Tryz.prog 37 T_ref4_Arcs := sound_of (fn := Tryz.f37) Tryz.func37 (by kernel_rfl) mixed (by kernel_rfl) (.s .n (.s .n (.s (.s .n (.b (.l [(3, .c .slice), (4, .c (.int .i64))] [3, 4, 5, 6, 7, 8, 9, 10, 11, 12, 13, 14, 15, 16, 17, 18, 19, 20, 21, 22, 23, 24, 25, 26, 27, 28, 29, 30, 31, 32, 33, 34, 35, 36, 37, 38, 39, 40] (.s .n (.s (.b (.s .n (.s .n (.b (.l [(3, .c .slice), (6, .c (.int .i64))] [3, 6, 17, 18, 19, 20, 21, 22, 23, 24, 25, 26, 27, 28, 29, 30, 31, 32, 33, 34, 35, 36, 37, 38, 39, 40] (.s .n (.s (.b (.r (.fl 0 (.fl 1 (.fl 2 (.fl 3 (.fl 4 (.fl 5 (.fl 6 (.fl 7 (.fl 8 (.fl 9 (.fl 10 (.fl 11 (.fl 12 (.fl 13 (.fl 14 (.fl 15 (.mn 16 (.mn 17 (.fl 18 .fin) .no) .no))))))))))))))))))) .n))))))) .n))))) .n))) [(51, T_ref4_Next)] ⟨⟨by kernel_rfl, S_ref4_Next⟩, trivial⟩ [.agg [.slice, .slice, .slice]] (by kernel_rfl) G_ref4_Arcs fun t w K => by kernel_rfl

/-- milepost/milepostref4.closed -/
def F_ref4_closed (l : Sl) (e_ : Int) (w : World) (Q : Bool → World → Prop) : Prop :=
  cond (decide (e_ ≥ (0 : Int)))
  (cond (decide (e_ < ((l.l : Nat) : Int)))
  ((0 ≤ e_ ∧ e_ < ((l.l : Nat) : Int)) ∧
  onSome l.b fun a1 =>
  ld1 .bool w (a1.add (Int.toNat e_ * 1)) fun (b1 : Bool) =>
  Q b1 w)
  (Q false w))
  (Q false w)
def G_ref4_closed (t : KTs [.c .slice, .c (.int .i64)]) (w : World) (K : Value → World → Prop) : Prop := F_ref4_closed t.1 t.2.1 w fun (r0 : Bool) w1 => K (Value.bool r0) w1
abbrev T_ref4_closed : Tr := fun args w K => decK [.c .slice, .c (.int .i64)] args fun t => G_ref4_closed t w K
theorem S_ref4_closed : Sound Tryz.prog 38 T_ref4_closed := sound_of (fn := Tryz.f38) Tryz.func38 (by kernel_rfl) mixed (by kernel_rfl) (.n) [] trivial [.c .slice, .c (.int .i64)] (by kernel_rfl) G_ref4_closed fun t w K => by kernel_rfl

/-- milepost/milepostref4.To -/
def F_ref4_To (g : Sl × Sl × Sl × Unit) (node : Int) (shut : Sl) (w : World) (Q : Sl → World → Prop) : Prop :=
  allocD w #[Value.slice g.1.b g.1.l g.1.c, Value.slice g.2.1.b g.2.1.l g.2.1.c, Value.slice g.2.2.1.b g.2.2.1.l g.2.2.1.c] 28 fun a1 w1 =>
  ldN [.slice, .slice, .slice] w1 a1 fun (t1 : Sl × Sl × Sl × Unit) =>
  F_ref4_Node (t1.1, t1.2.1, t1.2.2.1, ()) node w1 fun (b1 : Bool) w2 =>
  cond (!b1)
  (Q ⟨none, 0, 0⟩ w2)
  (ld1 .slice w2 (a1.add 1) fun (s1 : Sl) =>
  makeSliceD Tryz.prog 22 (Value.int .i64 ((s1.l : Nat) : Int)) (Value.int .i64 ((s1.l : Nat) : Int)) w2 fun (s2 : Sl) w3 =>
  ∀ X1 : (Int × Unit) → World → Prop, (∀ (t2 : Int × Unit) (w4 : World), (
  cond (decide (t2.1 < ((s2.l : Nat) : Int)))
  ((0 ≤ t2.1 ∧ t2.1 < ((s2.l : Nat) : Int)) ∧
  onSome s2.b fun a2 =>
  storeD Tryz.prog 3 (a2.add (Int.toNat t2.1 * 1)) (Value.int .i64 (-1 : Int)) w4 fun w5 =>
  ld1 .slice w5 (a1.add 1) fun (s3 : Sl) =>
  (0 ≤ t2.1 ∧ t2.1 < ((s3.l : Nat) : Int)) ∧
  onSome s3.b fun a3 =>
  ld1 (.int .i64) w5 ((a3.add (Int.toNat t2.1 * 3)).add 1) fun (x1 : Int) =>
  cond (x1 == node)
  ((0 ≤ t2.1 ∧ t2.1 < ((s2.l : Nat) : Int)) ∧
  onSome s2.b fun a4 =>
  storeD Tryz.prog 3 (a4.add (Int.toNat t2.1 * 1)) (Value.int .i64 (0 : Int)) w5 fun w6 =>
  X1 ((IntKind.wrap .i64 (t2.1 + (1 : Int))), ()) w6)
  (X1 ((IntKind.wrap .i64 (t2.1 + (1 : Int))), ()) w5))
  (ldN [.slice, .slice, .slice] w4 a1 fun (t3 : Sl × Sl × Sl × Unit) =>
  F_ref4_Arcs (t3.1, t3.2.1, t3.2.2.1, ()) w4 fun (s4 : Sl) w7 =>
  ∀ X2 : (Bool × Unit) → World → Prop, (∀ (t4 : Bool × Unit) (w8 : World), (
  cond t4.1
  (∀ X3 : (Bool × Int × Unit) → World → Prop, (∀ (t5 : Bool × Int × Unit) (w9 : World), (
  cond (decide (t5.2.1 < ((s4.l : Nat) : Int)))
  ((0 ≤ t5.2.1 ∧ t5.2.1 < ((s4.l : Nat) : Int)) ∧
  onSome s4.b fun a5 =>
  ldN [.int .i64, .int .i64, .int .i64, .int .i64] w9 (a5.add (Int.toNat t5.2.1 * 4)) fun (t6 : Int × Int × Int × Int × Unit) =>
  allocD w9 #[Value.int .i64 (0 : Int), Value.int .i64 (0 : Int), Value.int .i64 (0 : Int), Value.int .i64 (0 : Int)] 91 fun a6 w10 =>
  storeD Tryz.prog 91 a6 (Value.agg #[(Value.int .i64 t6.1), (Value.int .i64 t6.2.1), (Value.int .i64 t6.2.2.1), (Value.int .i64 t6.2.2.2.1)]) w10 fun w11 =>
  ld1 (.int .i64) w11 (a6.add 1) fun (x2 : Int) =>
  F_ref4_closed shut x2 w11 fun (b2 : Bool) w12 =>
  cond b2
  (X3 (t5.1, (IntKind.wrap .i64 (t5.2.1 + (1 : Int))), ()) w12)
  (ld1 (.int .i64) w12 (a6.add 1) fun (x3 : Int) =>
  (0 ≤ x3 ∧ x3 < ((s2.l : Nat) : Int)) ∧
  onSome s2.b fun a7 =>
  ld1 (.int .i64) w12 (a7.add (Int.toNat x3 * 1)) fun (x4 : Int) =>
  cond (decide (x4 < (0 : Int)))
  (X3 (t5.1, (IntKind.wrap .i64 (t5.2.1 + (1 : Int))), ()) w12)
  (ld1 (.int .i64) w12.drew (a6.add 1) fun (x5 : Int) =>
  (0 ≤ x5 ∧ x5 < ((s2.l : Nat) : Int)) ∧
  onSome s2.b fun a8 =>
  ld1 (.int .i64) w12.drew (a8.add (Int.toNat x5 * 1)) fun (x6 : Int) =>
  ld1 (.int .i64) w12.drew (a6.add 2) fun (x7 : Int) =>
  ld1 (.int .i64) w12.drew (a6.add 0) fun (x8 : Int) =>
  (0 ≤ x8 ∧ x8 < ((s2.l : Nat) : Int)) ∧
  onSome s2.b fun a9 =>
  ld1 (.int .i64) w12.drew (a9.add (Int.toNat x8 * 1)) fun (x9 : Int) =>
  cond (decide (x9 < (0 : Int)))
  (ld1 (.int .i64) w12.drew (a6.add 0) fun (x10 : Int) =>
  (0 ≤ x10 ∧ x10 < ((s2.l : Nat) : Int)) ∧
  onSome s2.b fun a10 =>
  storeD Tryz.prog 3 (a10.add (Int.toNat x10 * 1)) (Value.int .i64 (IntKind.wrap .i64 (x6 + x7))) w12.drew fun w13 =>
  X3 (true, (IntKind.wrap .i64 (t5.2.1 + (1 : Int))), ()) w13)
  (ld1 (.int .i64) w12.drew (a6.add 0) fun (x11 : Int) =>
  (0 ≤ x11 ∧ x11 < ((s2.l : Nat) : Int)) ∧
  onSome s2.b fun a11 =>
  ld1 (.int .i64) w12.drew (a11.add (Int.toNat x11 * 1)) fun (x12 : Int) =>
  cond (decide (x12 > (IntKind.wrap .i64 (x6 + x7))))
  (ld1 (.int .i64) w12.drew (a6.add 0) fun (x13 : Int) =>
  (0 ≤ x13 ∧ x13 < ((s2.l : Nat) : Int)) ∧
  onSome s2.b fun a12 =>
  storeD Tryz.prog 3 (a12.add (Int.toNat x13 * 1)) (Value.int .i64 (IntKind.wrap .i64 (x6 + x7))) w12.drew fun w14 =>
  X3 (true, (IntKind.wrap .i64 (t5.2.1 + (1 : Int))), ()) w14)
  (X3 (t5.1, (IntKind.wrap .i64 (t5.2.1 + (1 : Int))), ()) w12.drew)))))
  (X2 (t5.1, ()) w9)) → X3 t5 w9) →
  X3 (false, (0 : Int), ()) w8)
  (Q s2 w8)) → X2 t4 w8) →
  X2 (true, ()) w7)) → X1 t2 w4) →
  X1 ((0 : Int), ()) w3)
def G_ref4_To (t : KTs [.agg [.slice, .slice, .slice], .c (.int .i64), .c .slice]) (w : World) (K : Value → World → Prop) : Prop := F_ref4_To t.1 t.2.1 t.2.2.1 w fun (r0 : Sl) w1 => K (Value.slice r0.b r0.l r0.c) w1
abbrev T_ref4_To : Tr := fun args w K => decK [.agg [.slice, .slice, .slice], .c (.int .i64), .c .slice] args fun t => G_ref4_To t w K
theorem S_ref4_To : Sound Tryz.prog 12 T_ref4_To := sound_of (fn := Tryz.f12) Tryz.func12 (by kernel_rfl) mixed (by kernel_rfl) (.s .n (.s .n (.s .n (.s (.s .n (.b (.l [(8, .c (.int .i64))] [8, 22, 23, 24, 25, 26, 27, 28, 29, 30, 31, 32, 33, 34, 35, 36, 37, 38, 39, 40, 41] .n))) (.s .n (.s (.s .n (.b (.l [(10, .c .bool)] [10, 11, 12, 13, 44, 45, 46, 47, 48, 49, 50, 51, 52, 53, 54, 55, 56, 57, 58, 59, 60, 61, 62, 63, 64, 65, 66, 67, 68, 69, 70, 71, 72, 73, 74, 75, 76, 77, 78, 79, 80, 81, 82, 83, 84, 85, 86, 87, 88, 89, 90, 91, 92, 93, 94] (.s .n (.b (.s .n (.s .n (.b (.l [(10, .c .bool), (11, .c (.int .i64))] [10, 11, 12, 13, 45, 46, 47, 48, 49, 50, 51, 52, 53, 54, 55, 56, 57, 58, 59, 60, 61, 62, 63, 64, 65, 66, 67, 68, 69, 70, 71, 72, 73, 74, 75, 76, 77, 78, 79, 80, 81, 82, 83, 84, 85, 86, 87, 88, 89, 90, 91, 92, 93, 94] (.s .n (.s (.b (.s .n (.s .n (.s (.r (.fl 0 (.fl 1 (.fl 2 (.fl 3 (.fl 4 (.fl 5 (.fl 6 (.fl 7 (.fl 8 .fin)))))))))) .n)))) .n))))))))))) .n)))))) [(36, T_ref4_Node), (37, T_ref4_Arcs), (38, T_ref4_closed)] ⟨⟨by kernel_rfl, S_ref4_Node⟩, ⟨by kernel_rfl, S_ref4_Arcs⟩, ⟨by kernel_rfl, S_ref4_closed⟩, trivial⟩ [.agg [.slice, .slice, .slice], .c (.int .i64), .c .slice] (by kernel_rfl) G_ref4_To fun t w K => by kernel_rfl

/-- milepost/milepostref4.Between -/
def F_ref4_Between (g : Sl × Sl × Sl × Unit) (e_ : Int) (node : Int) (shut : Sl) (w : World) (Q : Int → World → Prop) : Prop :=
  allocD w #[Value.slice g.1.b g.1.l g.1.c, Value.slice g.2.1.b g.2.1.l g.2.1.c, Value.slice g.2.2.1.b g.2.2.1.l g.2.2.1.c] 28 fun a1 w1 =>
  ldN [.slice, .slice, .slice] w1 a1 fun (t1 : Sl × Sl × Sl × Unit) =>
  F_ref4_Edge (t1.1, t1.2.1, t1.2.2.1, ()) e_ w1 fun (b1 : Bool) w2 =>
  cond (!b1)
  (Q (-1 : Int) w2)
  (ldN [.slice, .slice, .slice] w2 a1 fun (t2 : Sl × Sl × Sl × Unit) =>
  F_ref4_Node (t2.1, t2.2.1, t2.2.2.1, ()) node w2 fun (b2 : Bool) w3 =>
  cond (!b2)
  (Q (-1 : Int) w3)
  (ldN [.slice, .slice, .slice] w3 a1 fun (t3 : Sl × Sl × Sl × Unit) =>
  F_ref4_To (t3.1, t3.2.1, t3.2.2.1, ()) node shut w3 fun (s1 : Sl) w4 =>
  (0 ≤ e_ ∧ e_ < ((s1.l : Nat) : Int)) ∧
  onSome s1.b fun a2 =>
  ld1 (.int .i64) w4 (a2.add (Int.toNat e_ * 1)) fun (x1 : Int) =>
  Q x1 w4))
def G_ref4_Between (t : KTs [.agg [.slice, .slice, .slice], .c (.int .i64), .c (.int .i64), .c .slice]) (w : World) (K : Value → World → Prop) : Prop := F_ref4_Between t.1 t.2.1 t.2.2.1 t.2.2.2.1 w fun (r0 : Int) w1 => K (Value.int .i64 r0) w1
abbrev T_ref4_Between : Tr := fun args w K => decK [.agg [.slice, .slice, .slice], .c (.int .i64), .c (.int .i64), .c .slice] args fun t => G_ref4_Between t w K
theorem S_ref4_Between : Sound Tryz.prog 28 T_ref4_Between := sound_of (fn := Tryz.f28) Tryz.func28 (by kernel_rfl) mixed (by kernel_rfl) (.n) [(12, T_ref4_To), (15, T_ref4_Edge), (36, T_ref4_Node)] ⟨⟨by kernel_rfl, S_ref4_To⟩, ⟨by kernel_rfl, S_ref4_Edge⟩, ⟨by kernel_rfl, S_ref4_Node⟩, trivial⟩ [.agg [.slice, .slice, .slice], .c (.int .i64), .c (.int .i64), .c .slice] (by kernel_rfl) G_ref4_Between fun t w K => by kernel_rfl

end Go.Proofs.YtjjgcimlmjnaeaaGreat
