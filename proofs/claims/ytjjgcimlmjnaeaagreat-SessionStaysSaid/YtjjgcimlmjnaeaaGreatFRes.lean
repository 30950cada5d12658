import Derived.Test.YtjjgcimlmjnaeaaGreatA1
import Derived.Test.YtjjgcimlmjnaeaaGreatFBase
import Derived.Test.YtjjgcimlmjnaeaaGreatFNet
import Derived.Test.YtjjgcimlmjnaeaaGreatFWay
namespace Go.Proofs.YtjjgcimlmjnaeaaGreat
open Go Go.Den
set_option maxRecDepth 100000
/-- milepost/milepostref4.far -/
def F_ref4_far (n : Int) (w : World) (Q : Int → World → Prop) : Prop :=
  cond (decide (n < (0 : Int)))
  (Q (IntKind.wrap .i64 (0 - n)) w)
  (Q n w)
def G_ref4_far (t : KTs [.c (.int .i64)]) (w : World) (K : Value → World → Prop) : Prop := F_ref4_far t.1 w fun (r0 : Int) w1 => K (Value.int .i64 r0) w1
abbrev T_ref4_far : Tr := fun args w K => decK [.c (.int .i64)] args fun t => G_ref4_far t w K
theorem S_ref4_far : Sound Tryz.prog 144 T_ref4_far := sound_of (fn := Tryz.f144) Tryz.func144 (by kernel_rfl) mixed (by kernel_rfl) (.n) [] trivial [.c (.int .i64)] (by kernel_rfl) G_ref4_far fun t w K => by kernel_rfl

/-- milepost/milepostref4.Class -/
def F_ref4_Class (ax : Int) (ay : Int) (bx : Int) (by_ : Int) (w : World) (Q : Int → World → Prop) : Prop :=
  allocD w #[Value.int .i64 (0 : Int), Value.int .i64 (0 : Int), Value.int .i64 (0 : Int), Value.int .i64 (0 : Int)] 204 fun a1 w1 =>
  storeD Tryz.prog 204 a1 (Value.agg #[(Value.int .i64 ax), (Value.int .i64 ay), (Value.int .i64 bx), (Value.int .i64 by_)]) w1 fun w2 =>
  ∀ X1 : (Int × Unit) → World → Prop, (∀ (t1 : Int × Unit) (w3 : World), (
  cond (decide (t1.1 < (4 : Int)))
  ((0 ≤ t1.1 ∧ t1.1 < ((4 : Nat) : Int)) ∧
  ld1 (.int .i64) w3 (a1.add (Int.toNat t1.1 * 1)) fun (x1 : Int) =>
  F_ref4_within x1 (-4095 : Int) (4095 : Int) w3 fun (b1 : Bool) w4 =>
  cond (!b1)
  (Q (0 : Int) w4)
  (X1 ((IntKind.wrap .i64 (t1.1 + (1 : Int))), ()) w4))
  (∀ J1 : (Unit) → World → Prop, (∀ (t2 : Unit) (w5 : World), (
  ∀ J2 : (Bool × Unit) → World → Prop, (∀ (t3 : Bool × Unit) (w6 : World), (
  cond t3.1
  (Q (1 : Int) w6)
  (∀ J3 : (Bool × Unit) → World → Prop, (∀ (t4 : Bool × Unit) (w7 : World), (
  cond t4.1
  (Q (5 : Int) w7)
  (∀ J4 : (Bool × Unit) → World → Prop, (∀ (t5 : Bool × Unit) (w8 : World), (
  cond t5.1
  (Q (2 : Int) w8)
  (∀ J5 : (Bool × Unit) → World → Prop, (∀ (t6 : Bool × Unit) (w9 : World), (
  cond t6.1
  (Q (4 : Int) w9)
  (cond (decide ((IntKind.wrap .i64 ((IntKind.wrap .i64 (ax * by_)) - (IntKind.wrap .i64 (ay * bx)))) > (0 : Int)))
  (Q (3 : Int) w9)
  (cond (decide ((IntKind.wrap .i64 ((IntKind.wrap .i64 (ax * bx)) + (IntKind.wrap .i64 (ay * by_)))) > (0 : Int)))
  (cond (decide ((IntKind.wrap .i64 (0 - (IntKind.wrap .i64 ((IntKind.wrap .i64 (ax * by_)) - (IntKind.wrap .i64 (ay * bx)))))) ≤ (IntKind.wrap .i64 ((IntKind.wrap .i64 (ax * bx)) + (IntKind.wrap .i64 (ay * by_))))))
  (Q (6 : Int) w9)
  (cond (decide ((IntKind.wrap .i64 ((IntKind.wrap .i64 (ax * bx)) + (IntKind.wrap .i64 (ay * by_)))) < (0 : Int)))
  (cond (decide ((IntKind.wrap .i64 (0 - (IntKind.wrap .i64 ((IntKind.wrap .i64 (ax * by_)) - (IntKind.wrap .i64 (ay * bx)))))) ≤ (IntKind.wrap .i64 (0 - (IntKind.wrap .i64 ((IntKind.wrap .i64 (ax * bx)) + (IntKind.wrap .i64 (ay * by_))))))))
  (Q (8 : Int) w9)
  (Q (7 : Int) w9))
  (Q (7 : Int) w9)))
  (cond (decide ((IntKind.wrap .i64 ((IntKind.wrap .i64 (ax * bx)) + (IntKind.wrap .i64 (ay * by_)))) < (0 : Int)))
  (cond (decide ((IntKind.wrap .i64 (0 - (IntKind.wrap .i64 ((IntKind.wrap .i64 (ax * by_)) - (IntKind.wrap .i64 (ay * bx)))))) ≤ (IntKind.wrap .i64 (0 - (IntKind.wrap .i64 ((IntKind.wrap .i64 (ax * bx)) + (IntKind.wrap .i64 (ay * by_))))))))
  (Q (8 : Int) w9)
  (Q (7 : Int) w9))
  (Q (7 : Int) w9))))) → J5 t6 w9) →
  cond (decide ((IntKind.wrap .i64 ((IntKind.wrap .i64 (ax * by_)) - (IntKind.wrap .i64 (ay * bx)))) > (0 : Int)))
  (cond (decide ((IntKind.wrap .i64 ((IntKind.wrap .i64 (ax * bx)) + (IntKind.wrap .i64 (ay * by_)))) < (0 : Int)))
  (J5 ((decide ((IntKind.wrap .i64 ((IntKind.wrap .i64 (ax * by_)) - (IntKind.wrap .i64 (ay * bx)))) ≤ (IntKind.wrap .i64 (0 - (IntKind.wrap .i64 ((IntKind.wrap .i64 (ax * bx)) + (IntKind.wrap .i64 (ay * by_)))))))), ()) w8)
  (J5 (false, ()) w8))
  (J5 (false, ()) w8))) → J4 t5 w8) →
  cond (decide ((IntKind.wrap .i64 ((IntKind.wrap .i64 (ax * by_)) - (IntKind.wrap .i64 (ay * bx)))) > (0 : Int)))
  (cond (decide ((IntKind.wrap .i64 ((IntKind.wrap .i64 (ax * bx)) + (IntKind.wrap .i64 (ay * by_)))) > (0 : Int)))
  (J4 ((decide ((IntKind.wrap .i64 ((IntKind.wrap .i64 (ax * by_)) - (IntKind.wrap .i64 (ay * bx)))) ≤ (IntKind.wrap .i64 ((IntKind.wrap .i64 (ax * bx)) + (IntKind.wrap .i64 (ay * by_)))))), ()) w7)
  (J4 (false, ()) w7))
  (J4 (false, ()) w7))) → J3 t4 w7) →
  cond (decide ((IntKind.wrap .i64 ((IntKind.wrap .i64 (ax * bx)) + (IntKind.wrap .i64 (ay * by_)))) < (0 : Int)))
  (F_ref4_far (IntKind.wrap .i64 ((IntKind.wrap .i64 (ax * by_)) - (IntKind.wrap .i64 (ay * bx)))) w6 fun (x2 : Int) w10 =>
  J3 ((decide ((IntKind.wrap .i64 ((4 : Int) * x2)) ≤ (IntKind.wrap .i64 (0 - (IntKind.wrap .i64 ((IntKind.wrap .i64 (ax * bx)) + (IntKind.wrap .i64 (ay * by_)))))))), ()) w10)
  (J3 (false, ()) w6))) → J2 t3 w6) →
  cond (decide ((IntKind.wrap .i64 ((IntKind.wrap .i64 (ax * bx)) + (IntKind.wrap .i64 (ay * by_)))) > (0 : Int)))
  (F_ref4_far (IntKind.wrap .i64 ((IntKind.wrap .i64 (ax * by_)) - (IntKind.wrap .i64 (ay * bx)))) w5 fun (x3 : Int) w11 =>
  J2 ((decide ((IntKind.wrap .i64 ((4 : Int) * x3)) ≤ (IntKind.wrap .i64 ((IntKind.wrap .i64 (ax * bx)) + (IntKind.wrap .i64 (ay * by_)))))), ()) w11)
  (J2 (false, ()) w5)) → J1 t2 w5) →
  cond (ax == (0 : Int))
  (cond (ay == (0 : Int))
  (Q (0 : Int) w3)
  (cond (bx == (0 : Int))
  (cond (by_ == (0 : Int))
  (Q (0 : Int) w3)
  (J1 (()) w3))
  (J1 (()) w3)))
  (cond (bx == (0 : Int))
  (cond (by_ == (0 : Int))
  (Q (0 : Int) w3)
  (J1 (()) w3))
  (J1 (()) w3)))) → X1 t1 w3) →
  X1 ((0 : Int), ()) w2
def G_ref4_Class (t : KTs [.c (.int .i64), .c (.int .i64), .c (.int .i64), .c (.int .i64)]) (w : World) (K : Value → World → Prop) : Prop := F_ref4_Class t.1 t.2.1 t.2.2.1 t.2.2.2.1 w fun (r0 : Int) w1 => K (Value.int .i64 r0) w1
abbrev T_ref4_Class : Tr := fun args w K => decK [.c (.int .i64), .c (.int .i64), .c (.int .i64), .c (.int .i64)] args fun t => G_ref4_Class t w K
theorem S_ref4_Class : Sound Tryz.prog 125 T_ref4_Class := sound_of (fn := Tryz.f125) Tryz.func125 (by kernel_rfl) mixed (by kernel_rfl) (.s .n (.s .n (.s (.s .n (.b (.l [(10, .c (.int .i64))] [8, 10, 18, 19, 20, 21, 22, 23, 24, 25, 26] .n))) (.j [] [8, 27, 28, 29, 30, 31, 32, 33, 34, 35, 36, 37, 38, 39, 40] .n (.s .n (.s (.b (.j [(55, .c .bool)] [55, 56, 57, 58, 59, 60, 61, 62, 63, 64] .n (.c .n (.j [(65, .c .bool)] [65, 66, 67, 68, 69, 70, 71, 72, 73, 74, 75] .n (.c .n (.j [(76, .c .bool)] [76, 77, 78, 79, 80, 81, 82, 83, 84, 85, 86, 87] .n (.c .n (.j [(88, .c .bool)] [88, 89, 90, 91, 92, 93, 94, 95, 96, 97, 98, 99, 100] .n .n)))))))) .n)))))) [(40, T_ref4_within), (144, T_ref4_far)] ⟨⟨by kernel_rfl, S_ref4_within⟩, ⟨by kernel_rfl, S_ref4_far⟩, trivial⟩ [.c (.int .i64), .c (.int .i64), .c (.int .i64), .c (.int .i64)] (by kernel_rfl) G_ref4_Class fun t w K => by kernel_rfl

/-- milepost/milepostref4.Bend -/
def F_ref4_Bend (g : Sl × Sl × Sl × Unit) (a : Int) (b : Int) (w : World) (Q : Int → World → Prop) : Prop :=
  allocD w #[Value.slice g.1.b g.1.l g.1.c, Value.slice g.2.1.b g.2.1.l g.2.1.c, Value.slice g.2.2.1.b g.2.2.1.l g.2.2.1.c] 28 fun a1 w1 =>
  ldN [.slice, .slice, .slice] w1 a1 fun (t1 : Sl × Sl × Sl × Unit) =>
  F_ref4_Edge (t1.1, t1.2.1, t1.2.2.1, ()) a w1 fun (b1 : Bool) w2 =>
  cond (!b1)
  (Q (0 : Int) w2)
  (ldN [.slice, .slice, .slice] w2 a1 fun (t2 : Sl × Sl × Sl × Unit) =>
  F_ref4_Edge (t2.1, t2.2.1, t2.2.2.1, ()) b w2 fun (b2 : Bool) w3 =>
  cond (!b2)
  (Q (0 : Int) w3)
  (∀ J1 : ((Option Addr) × (Option Addr) × Unit) → World → Prop, (∀ (t3 : (Option Addr) × (Option Addr) × Unit) (w4 : World), (
  ∀ J2 : ((Option Addr) × (Option Addr) × Unit) → World → Prop, (∀ (t4 : (Option Addr) × (Option Addr) × Unit) (w5 : World), (
  onSome t3.2.1 fun a2 =>
  ld1 (.int .i64) w5 (a2.add 0) fun (x1 : Int) =>
  onSome t3.1 fun a3 =>
  ld1 (.int .i64) w5 (a3.add 0) fun (x2 : Int) =>
  onSome t3.2.1 fun a4 =>
  ld1 (.int .i64) w5 (a4.add 1) fun (x3 : Int) =>
  onSome t3.1 fun a5 =>
  ld1 (.int .i64) w5 (a5.add 1) fun (x4 : Int) =>
  onSome t4.2.1 fun a6 =>
  ld1 (.int .i64) w5 (a6.add 0) fun (x5 : Int) =>
  onSome t4.1 fun a7 =>
  ld1 (.int .i64) w5 (a7.add 0) fun (x6 : Int) =>
  onSome t4.2.1 fun a8 =>
  ld1 (.int .i64) w5 (a8.add 1) fun (x7 : Int) =>
  onSome t4.1 fun a9 =>
  ld1 (.int .i64) w5 (a9.add 1) fun (x8 : Int) =>
  F_ref4_Class (IntKind.wrap .i64 (x1 - x2)) (IntKind.wrap .i64 (x3 - x4)) (IntKind.wrap .i64 (x5 - x6)) (IntKind.wrap .i64 (x7 - x8)) w5 fun (x9 : Int) w6 =>
  Q x9 w6) → J2 t4 w5) →
  ld1 .slice w4.drew (a1.add 0) fun (s1 : Sl) =>
  ld1 .slice w4.drew (a1.add 1) fun (s2 : Sl) =>
  (0 ≤ b ∧ b < ((s2.l : Nat) : Int)) ∧
  onSome s2.b fun a10 =>
  ld1 (.int .i64) w4.drew ((a10.add (Int.toNat b * 3)).add 0) fun (x10 : Int) =>
  (0 ≤ x10 ∧ x10 < ((s1.l : Nat) : Int)) ∧
  onSome s1.b fun a11 =>
  ldN [.int .i64, .int .i64] w4.drew (a11.add (Int.toNat x10 * 2)) fun (t5 : Int × Int × Unit) =>
  ld1 .slice w4.drew (a1.add 0) fun (s3 : Sl) =>
  ld1 .slice w4.drew (a1.add 1) fun (s4 : Sl) =>
  (0 ≤ b ∧ b < ((s4.l : Nat) : Int)) ∧
  onSome s4.b fun a12 =>
  ld1 (.int .i64) w4.drew ((a12.add (Int.toNat b * 3)).add 1) fun (x11 : Int) =>
  (0 ≤ x11 ∧ x11 < ((s3.l : Nat) : Int)) ∧
  onSome s3.b fun a13 =>
  ldN [.int .i64, .int .i64] w4.drew (a13.add (Int.toNat x11 * 2)) fun (t6 : Int × Int × Unit) =>
  (allocD w4.drew #[Value.int .i64 (0 : Int), Value.int .i64 (0 : Int)] 108 fun a14 w7 =>
  HoldsAt w7 (a13.add (Int.toNat x11 * 2)) 0 [Value.int .i64 t6.1, Value.int .i64 t6.2.1] ∧
  w7.cell? ((a12.add (Int.toNat b * 3)).add 1) = some (Value.int .i64 x11) ∧
  w7.cell? (a1.add 1) = some (Value.slice s4.b s4.l s4.c) ∧
  w7.cell? (a1.add 0) = some (Value.slice s3.b s3.l s3.c) ∧
  HoldsAt w7 (a11.add (Int.toNat x10 * 2)) 0 [Value.int .i64 t5.1, Value.int .i64 t5.2.1] ∧
  w7.cell? ((a10.add (Int.toNat b * 3)).add 0) = some (Value.int .i64 x10) ∧
  w7.cell? (a1.add 1) = some (Value.slice s2.b s2.l s2.c) ∧
  w7.cell? (a1.add 0) = some (Value.slice s1.b s1.l s1.c) ∧
  allocD w7 #[Value.int .i64 (0 : Int), Value.int .i64 (0 : Int)] 108 fun a15 w8 =>
  HoldsAt w8 (a13.add (Int.toNat x11 * 2)) 0 [Value.int .i64 t6.1, Value.int .i64 t6.2.1] ∧
  w8.cell? ((a12.add (Int.toNat b * 3)).add 1) = some (Value.int .i64 x11) ∧
  w8.cell? (a1.add 1) = some (Value.slice s4.b s4.l s4.c) ∧
  w8.cell? (a1.add 0) = some (Value.slice s3.b s3.l s3.c) ∧
  HoldsAt w8 (a11.add (Int.toNat x10 * 2)) 0 [Value.int .i64 t5.1, Value.int .i64 t5.2.1] ∧
  w8.cell? ((a10.add (Int.toNat b * 3)).add 0) = some (Value.int .i64 x10) ∧
  w8.cell? (a1.add 1) = some (Value.slice s2.b s2.l s2.c) ∧
  w8.cell? (a1.add 0) = some (Value.slice s1.b s1.l s1.c) ∧
  storeD Tryz.prog 108 a14 (Value.agg #[(Value.int .i64 t5.1), (Value.int .i64 t5.2.1)]) w8 fun w9 =>
  HoldsAt w9 (a13.add (Int.toNat x11 * 2)) 0 [Value.int .i64 t6.1, Value.int .i64 t6.2.1] ∧
  w9.cell? ((a12.add (Int.toNat b * 3)).add 1) = some (Value.int .i64 x11) ∧
  w9.cell? (a1.add 1) = some (Value.slice s4.b s4.l s4.c) ∧
  w9.cell? (a1.add 0) = some (Value.slice s3.b s3.l s3.c) ∧
  storeD Tryz.prog 108 a15 (Value.agg #[(Value.int .i64 t6.1), (Value.int .i64 t6.2.1)]) w9 fun w10 =>
  J2 ((some a14), (some a15), ()) w10) ∧
  (allocD w4.drew #[Value.int .i64 (0 : Int), Value.int .i64 (0 : Int)] 108 fun a16 w11 =>
  HoldsAt w11 (a13.add (Int.toNat x11 * 2)) 0 [Value.int .i64 t6.1, Value.int .i64 t6.2.1] ∧
  w11.cell? ((a12.add (Int.toNat b * 3)).add 1) = some (Value.int .i64 x11) ∧
  w11.cell? (a1.add 1) = some (Value.slice s4.b s4.l s4.c) ∧
  w11.cell? (a1.add 0) = some (Value.slice s3.b s3.l s3.c) ∧
  HoldsAt w11 (a11.add (Int.toNat x10 * 2)) 0 [Value.int .i64 t5.1, Value.int .i64 t5.2.1] ∧
  w11.cell? ((a10.add (Int.toNat b * 3)).add 0) = some (Value.int .i64 x10) ∧
  w11.cell? (a1.add 1) = some (Value.slice s2.b s2.l s2.c) ∧
  w11.cell? (a1.add 0) = some (Value.slice s1.b s1.l s1.c) ∧
  allocD w11 #[Value.int .i64 (0 : Int), Value.int .i64 (0 : Int)] 108 fun a17 w12 =>
  HoldsAt w12 (a13.add (Int.toNat x11 * 2)) 0 [Value.int .i64 t6.1, Value.int .i64 t6.2.1] ∧
  w12.cell? ((a12.add (Int.toNat b * 3)).add 1) = some (Value.int .i64 x11) ∧
  w12.cell? (a1.add 1) = some (Value.slice s4.b s4.l s4.c) ∧
  w12.cell? (a1.add 0) = some (Value.slice s3.b s3.l s3.c) ∧
  HoldsAt w12 (a11.add (Int.toNat x10 * 2)) 0 [Value.int .i64 t5.1, Value.int .i64 t5.2.1] ∧
  w12.cell? ((a10.add (Int.toNat b * 3)).add 0) = some (Value.int .i64 x10) ∧
  w12.cell? (a1.add 1) = some (Value.slice s2.b s2.l s2.c) ∧
  w12.cell? (a1.add 0) = some (Value.slice s1.b s1.l s1.c) ∧
  storeD Tryz.prog 108 a17 (Value.agg #[(Value.int .i64 t5.1), (Value.int .i64 t5.2.1)]) w12 fun w13 =>
  HoldsAt w13 (a13.add (Int.toNat x11 * 2)) 0 [Value.int .i64 t6.1, Value.int .i64 t6.2.1] ∧
  w13.cell? ((a12.add (Int.toNat b * 3)).add 1) = some (Value.int .i64 x11) ∧
  w13.cell? (a1.add 1) = some (Value.slice s4.b s4.l s4.c) ∧
  w13.cell? (a1.add 0) = some (Value.slice s3.b s3.l s3.c) ∧
  storeD Tryz.prog 108 a16 (Value.agg #[(Value.int .i64 t6.1), (Value.int .i64 t6.2.1)]) w13 fun w14 =>
  J2 ((some a17), (some a16), ()) w14)) → J1 t3 w4) →
  ld1 .slice w3.drew (a1.add 0) fun (s5 : Sl) =>
  ld1 .slice w3.drew (a1.add 1) fun (s6 : Sl) =>
  (0 ≤ a ∧ a < ((s6.l : Nat) : Int)) ∧
  onSome s6.b fun a18 =>
  ld1 (.int .i64) w3.drew ((a18.add (Int.toNat a * 3)).add 0) fun (x12 : Int) =>
  (0 ≤ x12 ∧ x12 < ((s5.l : Nat) : Int)) ∧
  onSome s5.b fun a19 =>
  ldN [.int .i64, .int .i64] w3.drew (a19.add (Int.toNat x12 * 2)) fun (t7 : Int × Int × Unit) =>
  ld1 .slice w3.drew (a1.add 0) fun (s7 : Sl) =>
  ld1 .slice w3.drew (a1.add 1) fun (s8 : Sl) =>
  (0 ≤ a ∧ a < ((s8.l : Nat) : Int)) ∧
  onSome s8.b fun a20 =>
  ld1 (.int .i64) w3.drew ((a20.add (Int.toNat a * 3)).add 1) fun (x13 : Int) =>
  (0 ≤ x13 ∧ x13 < ((s7.l : Nat) : Int)) ∧
  onSome s7.b fun a21 =>
  ldN [.int .i64, .int .i64] w3.drew (a21.add (Int.toNat x13 * 2)) fun (t8 : Int × Int × Unit) =>
  (allocD w3.drew #[Value.int .i64 (0 : Int), Value.int .i64 (0 : Int)] 108 fun a22 w15 =>
  HoldsAt w15 (a21.add (Int.toNat x13 * 2)) 0 [Value.int .i64 t8.1, Value.int .i64 t8.2.1] ∧
  w15.cell? ((a20.add (Int.toNat a * 3)).add 1) = some (Value.int .i64 x13) ∧
  w15.cell? (a1.add 1) = some (Value.slice s8.b s8.l s8.c) ∧
  w15.cell? (a1.add 0) = some (Value.slice s7.b s7.l s7.c) ∧
  HoldsAt w15 (a19.add (Int.toNat x12 * 2)) 0 [Value.int .i64 t7.1, Value.int .i64 t7.2.1] ∧
  w15.cell? ((a18.add (Int.toNat a * 3)).add 0) = some (Value.int .i64 x12) ∧
  w15.cell? (a1.add 1) = some (Value.slice s6.b s6.l s6.c) ∧
  w15.cell? (a1.add 0) = some (Value.slice s5.b s5.l s5.c) ∧
  allocD w15 #[Value.int .i64 (0 : Int), Value.int .i64 (0 : Int)] 108 fun a23 w16 =>
  HoldsAt w16 (a21.add (Int.toNat x13 * 2)) 0 [Value.int .i64 t8.1, Value.int .i64 t8.2.1] ∧
  w16.cell? ((a20.add (Int.toNat a * 3)).add 1) = some (Value.int .i64 x13) ∧
  w16.cell? (a1.add 1) = some (Value.slice s8.b s8.l s8.c) ∧
  w16.cell? (a1.add 0) = some (Value.slice s7.b s7.l s7.c) ∧
  HoldsAt w16 (a19.add (Int.toNat x12 * 2)) 0 [Value.int .i64 t7.1, Value.int .i64 t7.2.1] ∧
  w16.cell? ((a18.add (Int.toNat a * 3)).add 0) = some (Value.int .i64 x12) ∧
  w16.cell? (a1.add 1) = some (Value.slice s6.b s6.l s6.c) ∧
  w16.cell? (a1.add 0) = some (Value.slice s5.b s5.l s5.c) ∧
  storeD Tryz.prog 108 a22 (Value.agg #[(Value.int .i64 t7.1), (Value.int .i64 t7.2.1)]) w16 fun w17 =>
  HoldsAt w17 (a21.add (Int.toNat x13 * 2)) 0 [Value.int .i64 t8.1, Value.int .i64 t8.2.1] ∧
  w17.cell? ((a20.add (Int.toNat a * 3)).add 1) = some (Value.int .i64 x13) ∧
  w17.cell? (a1.add 1) = some (Value.slice s8.b s8.l s8.c) ∧
  w17.cell? (a1.add 0) = some (Value.slice s7.b s7.l s7.c) ∧
  storeD Tryz.prog 108 a23 (Value.agg #[(Value.int .i64 t8.1), (Value.int .i64 t8.2.1)]) w17 fun w18 =>
  J1 ((some a22), (some a23), ()) w18) ∧
  (allocD w3.drew #[Value.int .i64 (0 : Int), Value.int .i64 (0 : Int)] 108 fun a24 w19 =>
  HoldsAt w19 (a21.add (Int.toNat x13 * 2)) 0 [Value.int .i64 t8.1, Value.int .i64 t8.2.1] ∧
  w19.cell? ((a20.add (Int.toNat a * 3)).add 1) = some (Value.int .i64 x13) ∧
  w19.cell? (a1.add 1) = some (Value.slice s8.b s8.l s8.c) ∧
  w19.cell? (a1.add 0) = some (Value.slice s7.b s7.l s7.c) ∧
  HoldsAt w19 (a19.add (Int.toNat x12 * 2)) 0 [Value.int .i64 t7.1, Value.int .i64 t7.2.1] ∧
  w19.cell? ((a18.add (Int.toNat a * 3)).add 0) = some (Value.int .i64 x12) ∧
  w19.cell? (a1.add 1) = some (Value.slice s6.b s6.l s6.c) ∧
  w19.cell? (a1.add 0) = some (Value.slice s5.b s5.l s5.c) ∧
  allocD w19 #[Value.int .i64 (0 : Int), Value.int .i64 (0 : Int)] 108 fun a25 w20 =>
  HoldsAt w20 (a21.add (Int.toNat x13 * 2)) 0 [Value.int .i64 t8.1, Value.int .i64 t8.2.1] ∧
  w20.cell? ((a20.add (Int.toNat a * 3)).add 1) = some (Value.int .i64 x13) ∧
  w20.cell? (a1.add 1) = some (Value.slice s8.b s8.l s8.c) ∧
  w20.cell? (a1.add 0) = some (Value.slice s7.b s7.l s7.c) ∧
  HoldsAt w20 (a19.add (Int.toNat x12 * 2)) 0 [Value.int .i64 t7.1, Value.int .i64 t7.2.1] ∧
  w20.cell? ((a18.add (Int.toNat a * 3)).add 0) = some (Value.int .i64 x12) ∧
  w20.cell? (a1.add 1) = some (Value.slice s6.b s6.l s6.c) ∧
  w20.cell? (a1.add 0) = some (Value.slice s5.b s5.l s5.c) ∧
  storeD Tryz.prog 108 a25 (Value.agg #[(Value.int .i64 t7.1), (Value.int .i64 t7.2.1)]) w20 fun w21 =>
  HoldsAt w21 (a21.add (Int.toNat x13 * 2)) 0 [Value.int .i64 t8.1, Value.int .i64 t8.2.1] ∧
  w21.cell? ((a20.add (Int.toNat a * 3)).add 1) = some (Value.int .i64 x13) ∧
  w21.cell? (a1.add 1) = some (Value.slice s8.b s8.l s8.c) ∧
  w21.cell? (a1.add 0) = some (Value.slice s7.b s7.l s7.c) ∧
  storeD Tryz.prog 108 a24 (Value.agg #[(Value.int .i64 t8.1), (Value.int .i64 t8.2.1)]) w21 fun w22 =>
  J1 ((some a25), (some a24), ()) w22)))
def G_ref4_Bend (t : KTs [.agg [.slice, .slice, .slice], .c (.int .i64), .c (.int .i64)]) (w : World) (K : Value → World → Prop) : Prop := F_ref4_Bend t.1 t.2.1 t.2.2.1 w fun (r0 : Int) w1 => K (Value.int .i64 r0) w1
abbrev T_ref4_Bend : Tr := fun args w K => decK [.agg [.slice, .slice, .slice], .c (.int .i64), .c (.int .i64)] args fun t => G_ref4_Bend t w K
theorem S_ref4_Bend : Sound Tryz.prog 95 T_ref4_Bend := sound_of (fn := Tryz.f95) Tryz.func95 (by kernel_rfl) mixed (by kernel_rfl) (.s .n (.s .n (.j [(7, .c .ptr), (8, .c .ptr)] [7, 8, 21, 22, 23, 24, 25, 26, 27, 28, 29, 30, 31, 32, 33, 34, 35, 36, 37, 38, 39, 40] (.r (.fl 0 (.fl 1 (.fl 2 (.fl 3 (.fl 4 (.fl 5 (.fl 6 (.fl 7 (.fl 8 (.fl 9 (.fl 10 (.fl 11 (.fl 12 (.fl 13 (.fl 14 (.fl 15 (.fl 16 (.fl 17 (.fl 18 (.fl 19 (.mn 20 (.mn 21 (.mn 22 (.mn 23 .fin .no) .no) .no) (.mn 21 (.mn 20 (.mn 22 (.mn 23 .fin .no) .no) .no) .no))))))))))))))))))))))) (.j [(9, .c .ptr), (10, .c .ptr)] [9, 10, 41, 42, 43, 44, 45, 46, 47, 48, 49, 50, 51, 52, 53, 54, 55, 56, 57, 58, 59, 60] (.r (.fl 0 (.fl 1 (.fl 2 (.fl 3 (.fl 4 (.fl 5 (.fl 6 (.fl 7 (.fl 8 (.fl 9 (.fl 10 (.fl 11 (.fl 12 (.fl 13 (.fl 14 (.fl 15 (.fl 16 (.fl 17 (.fl 18 (.fl 19 (.mn 20 (.mn 21 (.mn 22 (.mn 23 .fin .no) .no) .no) (.mn 21 (.mn 20 (.mn 22 (.mn 23 .fin .no) .no) .no) .no))))))))))))))))))))))) .n)))) [(15, T_ref4_Edge), (125, T_ref4_Class)] ⟨⟨by kernel_rfl, S_ref4_Edge⟩, ⟨by kernel_rfl, S_ref4_Class⟩, trivial⟩ [.agg [.slice, .slice, .slice], .c (.int .i64), .c (.int .i64)] (by kernel_rfl) G_ref4_Bend fun t w K => by kernel_rfl

/-- milepost/milepostref4.Hint -/
def F_ref4_Hint (g : Sl × Sl × Sl × Unit) (at_ : Int) (left : Sl) (w : World) (Q : (Int × Int × Int × Int × Unit) → Bool → World → Prop) : Prop :=
  allocD w #[Value.slice g.1.b g.1.l g.1.c, Value.slice g.2.1.b g.2.1.l g.2.1.c, Value.slice g.2.2.1.b g.2.2.1.l g.2.2.1.c] 28 fun a1 w1 =>
  allocD w1 #[Value.int .i64 (0 : Int), Value.int .i64 (0 : Int), Value.int .i64 (0 : Int), Value.int .i64 (0 : Int)] 45 fun a2 w2 =>
  ldN [.slice, .slice, .slice] w2 a1 fun (t1 : Sl × Sl × Sl × Unit) =>
  F_ref4_Walk (t1.1, t1.2.1, t1.2.2.1, ()) at_ left w2 fun (b1 : Bool) w3 =>
  cond (!b1)
  (storeD Tryz.prog 45 a2 (Value.agg #[(Value.int .i64 (0 : Int)), (Value.int .i64 (0 : Int)), (Value.int .i64 (0 : Int)), (Value.int .i64 (0 : Int))]) w3 fun w4 =>
  ldN [.int .i64, .int .i64, .int .i64, .int .i64] w4 a2 fun (t2 : Int × Int × Int × Int × Unit) =>
  Q (t2.1, t2.2.1, t2.2.2.1, t2.2.2.2.1, ()) false w4)
  (allocD w3 #[Value.int .i64 (0 : Int), Value.int .i64 (0 : Int), Value.int .i64 (0 : Int), Value.int .i64 (0 : Int)] 45 fun a3 w5 =>
  ldN [.slice, .slice, .slice] w5 a1 fun (t3 : Sl × Sl × Sl × Unit) =>
  F_ref4_Weight (t3.1, t3.2.1, t3.2.2.1, ()) left w5 fun (x1 : Int) (_ : Bool) w6 =>
  storeD Tryz.prog 3 (a3.add 3) (Value.int .i64 x1) w6 fun w7 =>
  ∀ X1 : (Int × Int × Unit) → World → Prop, (∀ (t4 : Int × Int × Unit) (w8 : World), (
  cond (decide (t4.2.1 < ((left.l : Nat) : Int)))
  (ldN [.slice, .slice, .slice] w8 a1 fun (t5 : Sl × Sl × Sl × Unit) =>
  F_ref4_Next (t5.1, t5.2.1, t5.2.2.1, ()) t4.1 w8 fun (s1 : Sl) w9 =>
  cond (((s1.l : Nat) : Int) != (1 : Int))
  (ldN [.slice, .slice, .slice] w9.drew a1 fun (t6 : Sl × Sl × Sl × Unit) =>
  (0 ≤ t4.2.1 ∧ t4.2.1 < ((left.l : Nat) : Int)) ∧
  onSome left.b fun a4 =>
  ld1 (.int .i64) w9.drew (a4.add (Int.toNat t4.2.1 * 1)) fun (x2 : Int) =>
  (0 ≤ t4.2.1 ∧ t4.2.1 < ((left.l : Nat) : Int)) ∧
  onSome left.b fun a5 =>
  ld1 (.int .i64) w9.drew (a5.add (Int.toNat t4.2.1 * 1)) fun (x3 : Int) =>
  F_ref4_Bend (t6.1, t6.2.1, t6.2.2.1, ()) t4.1 x2 w9.drew fun (x4 : Int) w10 =>
  w10.cell? (a5.add (Int.toNat t4.2.1 * 1)) = some (Value.int .i64 x3) ∧
  storeD Tryz.prog 3 (a3.add 0) (Value.int .i64 x4) w10 fun w11 =>
  w11.cell? (a5.add (Int.toNat t4.2.1 * 1)) = some (Value.int .i64 x3) ∧
  storeD Tryz.prog 3 (a3.add 1) (Value.int .i64 x3) w11 fun w12 =>
  ldN [.int .i64, .int .i64, .int .i64, .int .i64] w12 a3 fun (t7 : Int × Int × Int × Int × Unit) =>
  storeD Tryz.prog 45 a2 (Value.agg #[(Value.int .i64 t7.1), (Value.int .i64 t7.2.1), (Value.int .i64 t7.2.2.1), (Value.int .i64 t7.2.2.2.1)]) w12 fun w13 =>
  ldN [.int .i64, .int .i64, .int .i64, .int .i64] w13 a2 fun (t8 : Int × Int × Int × Int × Unit) =>
  Q (t8.1, t8.2.1, t8.2.2.1, t8.2.2.2.1, ()) true w13)
  ((0 ≤ t4.2.1 ∧ t4.2.1 < ((left.l : Nat) : Int)) ∧
  onSome left.b fun a6 =>
  ld1 (.int .i64) w9 (a6.add (Int.toNat t4.2.1 * 1)) fun (x5 : Int) =>
  ld1 (.int .i64) w9.drew (a3.add 2) fun (x6 : Int) =>
  ld1 .slice w9.drew (a1.add 1) fun (s2 : Sl) =>
  (0 ≤ x5 ∧ x5 < ((s2.l : Nat) : Int)) ∧
  onSome s2.b fun a7 =>
  ld1 (.int .i64) w9.drew ((a7.add (Int.toNat x5 * 3)).add 2) fun (x7 : Int) =>
  storeD Tryz.prog 3 (a3.add 2) (Value.int .i64 (IntKind.wrap .i64 (x6 + x7))) w9.drew fun w14 =>
  X1 (x5, (IntKind.wrap .i64 (t4.2.1 + (1 : Int))), ()) w14))
  (storeD Tryz.prog 3 (a3.add 0) (Value.int .i64 (9 : Int)) w8 fun w15 =>
  storeD Tryz.prog 3 (a3.add 1) (Value.int .i64 (-1 : Int)) w15 fun w16 =>
  ldN [.int .i64, .int .i64, .int .i64, .int .i64] w16 a3 fun (t9 : Int × Int × Int × Int × Unit) =>
  storeD Tryz.prog 45 a2 (Value.agg #[(Value.int .i64 t9.1), (Value.int .i64 t9.2.1), (Value.int .i64 t9.2.2.1), (Value.int .i64 t9.2.2.2.1)]) w16 fun w17 =>
  ldN [.int .i64, .int .i64, .int .i64, .int .i64] w17 a2 fun (t10 : Int × Int × Int × Int × Unit) =>
  Q (t10.1, t10.2.1, t10.2.2.1, t10.2.2.2.1, ()) true w17)) → X1 t4 w8) →
  X1 (at_, (0 : Int), ()) w7)
def G_ref4_Hint (t : KTs [.agg [.slice, .slice, .slice], .c (.int .i64), .c .slice]) (w : World) (K : Value → World → Prop) : Prop := F_ref4_Hint t.1 t.2.1 t.2.2.1 w fun (r0 : Int × Int × Int × Int × Unit) (r1 : Bool) w1 => K (Value.tuple #[(Value.agg #[(Value.int .i64 r0.1), (Value.int .i64 r0.2.1), (Value.int .i64 r0.2.2.1), (Value.int .i64 r0.2.2.2.1)]), (Value.bool r1)]) w1
abbrev T_ref4_Hint : Tr := fun args w K => decK [.agg [.slice, .slice, .slice], .c (.int .i64), .c .slice] args fun t => G_ref4_Hint t w K
theorem S_ref4_Hint : Sound Tryz.prog 64 T_ref4_Hint := sound_of (fn := Tryz.f64) Tryz.func64 (by kernel_rfl) mixed (by kernel_rfl) (.s .n (.s .n (.s .n (.s .n (.s (.s .n (.b (.l [(1, .c (.int .i64)), (9, .c (.int .i64))] [1, 7, 9, 23, 24, 25, 26, 27, 28, 29, 30, 31, 32, 33, 34, 35, 36, 37, 38, 39, 40, 41, 42, 43, 44, 45, 46, 47, 48, 49, 50, 51, 52, 53, 54, 55, 56, 57, 58, 59, 60, 61] (.s .n (.s (.b (.s (.s .n (.c (.s (.r (.fl 0 (.fl 1 (.fl 2 (.fl 3 (.fl 4 (.fl 5 (.fl 7 (.fl 8 (.fl 9 (.fl 10 (.mn 6 (.fl 11 (.mn 12 (.fl 13 (.mn 14 .fin .no)) .no)) .no)))))))))))) .n) .n)) (.s .n (.r (.fl 0 (.fl 1 (.fl 2 (.fl 3 (.fl 4 (.fl 5 (.fl 6 (.fl 7 (.fl 8 (.fl 9 (.mn 10 .fin .no))))))))))))))) .n))))) .n))))) [(51, T_ref4_Next), (92, T_ref4_Weight), (94, T_ref4_Walk), (95, T_ref4_Bend)] ⟨⟨by kernel_rfl, S_ref4_Next⟩, ⟨by kernel_rfl, S_ref4_Weight⟩, ⟨by kernel_rfl, S_ref4_Walk⟩, ⟨by kernel_rfl, S_ref4_Bend⟩, trivial⟩ [.agg [.slice, .slice, .slice], .c (.int .i64), .c .slice] (by kernel_rfl) G_ref4_Hint fun t w K => by kernel_rfl

/-- (*milepost/milepostref24.Session).hint -/
def F_ref24_Session_hint (s : Option Addr) (w : World) (Q : Sl → World → Prop) : Prop :=
  onSome s fun a1 =>
  ld1 .slice w.drew ((a1.add 0).add 1) fun (s1 : Sl) =>
  onSome s fun a2 =>
  ld1 (.int .i64) w.drew (a2.add 3) fun (x1 : Int) =>
  (0 ≤ x1 ∧ x1 < ((s1.l : Nat) : Int)) ∧
  onSome s1.b fun a3 =>
  ld1 (.int .i64) w.drew ((a3.add (Int.toNat x1 * 3)).add 1) fun (x2 : Int) =>
  onSome s fun a4 =>
  ld1 (.int .i64) w.drew (a4.add 4) fun (x3 : Int) =>
  cond (x2 == x3)
  (onSome s fun a5 =>
  storeD Tryz.prog 4 (a5.add 7) (Value.bool true) w.drew fun w1 =>
  allocD w1 #[Value.int .i64 (8 : Int), Value.int .i64 (0 : Int), Value.int .i64 (0 : Int), Value.slice none 0 0, Value.int .i64 (0 : Int), Value.int .i64 (0 : Int), Value.int .i64 (0 : Int), Value.int .i64 (0 : Int), Value.int .i64 (0 : Int)] 47 fun a6 w2 =>
  Q ⟨(some a6), 1, 1⟩ w2)
  (onSome s fun a7 =>
  ldN [.slice, .slice, .slice] w.drew.drew (a7.add 0) fun (t1 : Sl × Sl × Sl × Unit) =>
  onSome s fun a8 =>
  ld1 (.int .i64) w.drew.drew (a8.add 3) fun (x4 : Int) =>
  onSome s fun a9 =>
  ld1 .slice w.drew.drew (a9.add 5) fun (s2 : Sl) =>
  (F_ref4_Hint (t1.1, t1.2.1, t1.2.2.1, ()) x4 s2 w.drew.drew fun (t2 : Int × Int × Int × Int × Unit) (_ : Bool) w3 =>
  allocD w3 #[Value.int .i64 (0 : Int), Value.int .i64 (0 : Int), Value.int .i64 (0 : Int), Value.int .i64 (0 : Int)] 45 fun a10 w4 =>
  storeD Tryz.prog 45 a10 (Value.agg #[(Value.int .i64 t2.1), (Value.int .i64 t2.2.1), (Value.int .i64 t2.2.2.1), (Value.int .i64 t2.2.2.2.1)]) w4 fun w5 =>
  ldN [.int .i64, .int .i64, .int .i64, .int .i64] w5 a10 fun (t3 : Int × Int × Int × Int × Unit) =>
  allocD w5 #[Value.int .i64 (7 : Int), Value.int .i64 (0 : Int), Value.int .i64 (0 : Int), Value.slice none 0 0, Value.int .i64 (0 : Int), Value.int .i64 t3.1, Value.int .i64 t3.2.1, Value.int .i64 t3.2.2.1, Value.int .i64 t3.2.2.2.1] 47 fun a11 w6 =>
  Q ⟨(some a11), 1, 1⟩ w6) ∧
  (allocD w.drew.drew #[Value.int .i64 (0 : Int), Value.int .i64 (0 : Int), Value.int .i64 (0 : Int), Value.int .i64 (0 : Int)] 45 fun a12 w7 =>
  w7.cell? (a9.add 5) = some (Value.slice s2.b s2.l s2.c) ∧
  w7.cell? (a8.add 3) = some (Value.int .i64 x4) ∧
  HoldsAt w7 (a7.add 0) 0 [Value.slice t1.1.b t1.1.l t1.1.c, Value.slice t1.2.1.b t1.2.1.l t1.2.1.c, Value.slice t1.2.2.1.b t1.2.2.1.l t1.2.2.1.c] ∧
  F_ref4_Hint (t1.1, t1.2.1, t1.2.2.1, ()) x4 s2 w7 fun (t4 : Int × Int × Int × Int × Unit) (_ : Bool) w8 =>
  storeD Tryz.prog 45 a12 (Value.agg #[(Value.int .i64 t4.1), (Value.int .i64 t4.2.1), (Value.int .i64 t4.2.2.1), (Value.int .i64 t4.2.2.2.1)]) w8 fun w9 =>
  ldN [.int .i64, .int .i64, .int .i64, .int .i64] w9 a12 fun (t5 : Int × Int × Int × Int × Unit) =>
  allocD w9 #[Value.int .i64 (7 : Int), Value.int .i64 (0 : Int), Value.int .i64 (0 : Int), Value.slice none 0 0, Value.int .i64 (0 : Int), Value.int .i64 t5.1, Value.int .i64 t5.2.1, Value.int .i64 t5.2.2.1, Value.int .i64 t5.2.2.2.1] 47 fun a13 w10 =>
  Q ⟨(some a13), 1, 1⟩ w10))
def G_ref24_Session_hint (t : KTs [.c .ptr]) (w : World) (K : Value → World → Prop) : Prop := F_ref24_Session_hint t.1 w fun (r0 : Sl) w1 => K (Value.slice r0.b r0.l r0.c) w1
abbrev T_ref24_Session_hint : Tr := fun args w K => decK [.c .ptr] args fun t => G_ref24_Session_hint t w K
theorem S_ref24_Session_hint : Sound Tryz.prog 45 T_ref24_Session_hint := sound_of (fn := Tryz.f45) Tryz.func45 (by kernel_rfl) mixed (by kernel_rfl) (.s .n (.s (.s (.r (.fl 0 (.fl 1 (.fl 2 (.fl 3 (.fl 4 (.fl 5 (.fl 6 (.fl 7 (.fl 8 (.fl 9 (.fl 10 (.fl 11 (.fl 12 (.fl 13 (.fl 14 (.fl 15 (.fl 16 .fin)))))))))))))))))) .n) (.s (.r (.fl 0 (.fl 1 (.fl 2 (.fl 3 (.fl 4 (.fl 5 (.fl 6 (.fl 7 (.fl 8 (.fl 9 (.fl 10 (.fl 11 (.mn 12 (.fl 13 (.fl 14 (.fl 15 (.mn 16 (.mn 17 (.fl 18 .fin) .no) .no)))) (.mn 16 (.mn 12 (.fl 13 (.fl 14 (.fl 15 (.mn 17 (.fl 18 .fin) .no)))) .no) .no))))))))))))))) .n))) [(64, T_ref4_Hint)] ⟨⟨by kernel_rfl, S_ref4_Hint⟩, trivial⟩ [.c .ptr] (by kernel_rfl) G_ref24_Session_hint fun t w K => by kernel_rfl

/-- (*milepost/milepostref24.Session).asks -/
def F_ref24_Session_asks (s : Option Addr) (shut : Sl) (w : World) (Q : Sl → World → Prop) : Prop :=
  ∀ J1 : ((Option Addr) × Unit) → World → Prop, (∀ (t1 : (Option Addr) × Unit) (w1 : World), (
  onSome t1.1 fun a1 =>
  ld1 .slice w1.drew (a1.add 0) fun (s1 : Sl) =>
  onSome t1.1 fun a2 =>
  ld1 .bool w1.drew (a2.add 2) fun (b1 : Bool) =>
  onSome s fun a3 =>
  storeD Tryz.prog 22 (a3.add 5) (Value.slice s1.b s1.l s1.c) w1.drew fun w2 =>
  w2.cell? (a2.add 2) = some (Value.bool b1) ∧
  onSome s fun a4 =>
  storeD Tryz.prog 4 (a4.add 6) (Value.bool b1) w2 fun w3 =>
  onSome t1.1 fun a5 =>
  ld1 .bool w3 (a5.add 2) fun (b2 : Bool) =>
  cond (!b2)
  (allocD w3 #[Value.int .i64 (6 : Int), Value.int .i64 (0 : Int), Value.int .i64 (0 : Int), Value.slice none 0 0, Value.int .i64 (0 : Int), Value.int .i64 (0 : Int), Value.int .i64 (0 : Int), Value.int .i64 (0 : Int), Value.int .i64 (0 : Int)] 47 fun a6 w4 =>
  Q ⟨(some a6), 1, 1⟩ w4)
  (onSome t1.1 fun a7 =>
  ld1 .slice w3.drew (a7.add 0) fun (s2 : Sl) =>
  onSome t1.1 fun a8 =>
  ld1 (.int .i64) w3.drew (a8.add 1) fun (x1 : Int) =>
  (allocD w3.drew #[Value.int .i64 (5 : Int), Value.int .i64 (0 : Int), Value.int .i64 (0 : Int), Value.slice s2.b s2.l s2.c, Value.int .i64 x1, Value.int .i64 (0 : Int), Value.int .i64 (0 : Int), Value.int .i64 (0 : Int), Value.int .i64 (0 : Int)] 47 fun a9 w5 =>
  F_ref24_Session_hint s w5 fun (s3 : Sl) w6 =>
  appendD Tryz.prog 34 34 ⟨(some a9), 1, 1⟩ (Value.slice s3.b s3.l s3.c) w6 fun (s4 : Sl) w7 =>
  Q s4 w7) ∧
  (F_ref24_Session_hint s w3.drew fun (s5 : Sl) w8 =>
  w8.cell? (a8.add 1) = some (Value.int .i64 x1) ∧
  w8.cell? (a7.add 0) = some (Value.slice s2.b s2.l s2.c) ∧
  allocD w8 #[Value.int .i64 (5 : Int), Value.int .i64 (0 : Int), Value.int .i64 (0 : Int), Value.slice s2.b s2.l s2.c, Value.int .i64 x1, Value.int .i64 (0 : Int), Value.int .i64 (0 : Int), Value.int .i64 (0 : Int), Value.int .i64 (0 : Int)] 47 fun a10 w9 =>
  appendD Tryz.prog 34 34 ⟨(some a10), 1, 1⟩ (Value.slice s5.b s5.l s5.c) w9 fun (s6 : Sl) w10 =>
  Q s6 w10))) → J1 t1 w1) →
  onSome s fun a11 =>
  ldN [.slice, .slice, .slice] w.drew (a11.add 0) fun (t2 : Sl × Sl × Sl × Unit) =>
  onSome s fun a12 =>
  ld1 (.int .i64) w.drew (a12.add 3) fun (x2 : Int) =>
  onSome s fun a13 =>
  ld1 (.int .i64) w.drew (a13.add 4) fun (x3 : Int) =>
  (F_ref4_Ask (t2.1, t2.2.1, t2.2.2.1, ()) x2 x3 shut w.drew fun (t3 : Sl × Int × Bool × Bool × Unit) w11 =>
  allocD w11 #[Value.slice none 0 0, Value.int .i64 (0 : Int), Value.bool false, Value.bool false] 130 fun a14 w12 =>
  storeD Tryz.prog 130 a14 (Value.agg #[(Value.slice t3.1.b t3.1.l t3.1.c), (Value.int .i64 t3.2.1), (Value.bool t3.2.2.1), (Value.bool t3.2.2.2.1)]) w12 fun w13 =>
  J1 ((some a14), ()) w13) ∧
  (allocD w.drew #[Value.slice none 0 0, Value.int .i64 (0 : Int), Value.bool false, Value.bool false] 130 fun a15 w14 =>
  w14.cell? (a13.add 4) = some (Value.int .i64 x3) ∧
  w14.cell? (a12.add 3) = some (Value.int .i64 x2) ∧
  HoldsAt w14 (a11.add 0) 0 [Value.slice t2.1.b t2.1.l t2.1.c, Value.slice t2.2.1.b t2.2.1.l t2.2.1.c, Value.slice t2.2.2.1.b t2.2.2.1.l t2.2.2.1.c] ∧
  F_ref4_Ask (t2.1, t2.2.1, t2.2.2.1, ()) x2 x3 shut w14 fun (t4 : Sl × Int × Bool × Bool × Unit) w15 =>
  storeD Tryz.prog 130 a15 (Value.agg #[(Value.slice t4.1.b t4.1.l t4.1.c), (Value.int .i64 t4.2.1), (Value.bool t4.2.2.1), (Value.bool t4.2.2.2.1)]) w15 fun w16 =>
  J1 ((some a15), ()) w16)
def G_ref24_Session_asks (t : KTs [.c .ptr, .c .slice]) (w : World) (K : Value → World → Prop) : Prop := F_ref24_Session_asks t.1 t.2.1 w fun (r0 : Sl) w1 => K (Value.slice r0.b r0.l r0.c) w1
abbrev T_ref24_Session_asks : Tr := fun args w K => decK [.c .ptr, .c .slice] args fun t => G_ref24_Session_asks t w K
theorem S_ref24_Session_asks : Sound Tryz.prog 43 T_ref24_Session_asks := sound_of (fn := Tryz.f43) Tryz.func43 (by kernel_rfl) mixed (by kernel_rfl) (.s .n (.j [(5, .c .ptr)] [5, 6, 7, 8, 9, 10, 11, 12, 13, 14, 15, 16, 17, 18, 19] (.r (.fl 0 (.fl 1 (.fl 2 (.fl 3 (.fl 4 (.fl 5 (.fl 6 (.fl 7 (.fl 8 (.fl 9 (.fl 10 (.fl 11 (.fl 12 (.mn 13 (.mn 14 (.mn 15 .fin .no) .no) (.mn 14 (.mn 13 (.mn 15 .fin .no) .no) .no)))))))))))))))) (.s (.r (.fl 0 (.fl 1 (.fl 2 (.fl 3 (.fl 4 (.fl 5 (.fl 6 (.fl 7 (.mn 8 (.fl 9 (.fl 10 (.mn 11 .fin .no))) .no)))))))))) (.s .n (.s (.r (.fl 0 (.fl 1 (.fl 2 (.fl 3 (.fl 4 (.fl 6 (.mn 5 (.mn 7 (.mn 8 (.fl 9 .fin) .no) .no) (.mn 7 (.mn 5 (.mn 8 (.fl 9 .fin) .no) .no) .no))))))))) .n))))) [(45, T_ref24_Session_hint), (63, T_ref4_Ask)] ⟨⟨by kernel_rfl, S_ref24_Session_hint⟩, ⟨by kernel_rfl, S_ref4_Ask⟩, trivial⟩ [.c .ptr, .c .slice] (by kernel_rfl) G_ref24_Session_asks fun t w K => by kernel_rfl

/-- milepost/milepostref24.NewSession -/
def F_ref24_NewSession (g : Sl × Sl × Sl × Unit) (at_ : Int) (node : Int) (shut : Sl) (w : World) (Q : (Option Addr) → Sl → World → Prop) : Prop :=
  allocD w #[Value.slice g.1.b g.1.l g.1.c, Value.slice g.2.1.b g.2.1.l g.2.1.c, Value.slice g.2.2.1.b g.2.2.1.l g.2.2.1.c] 28 fun a1 w1 =>
  ldN [.slice, .slice, .slice] w1 a1 fun (t1 : Sl × Sl × Sl × Unit) =>
  F_ref4_Edge (t1.1, t1.2.1, t1.2.2.1, ()) at_ w1 fun (b1 : Bool) w2 =>
  cond (!b1)
  (Q none ⟨none, 0, 0⟩ w2)
  (ldN [.slice, .slice, .slice] w2 a1 fun (t2 : Sl × Sl × Sl × Unit) =>
  F_ref4_Node (t2.1, t2.2.1, t2.2.2.1, ()) node w2 fun (b2 : Bool) w3 =>
  cond (!b2)
  (Q none ⟨none, 0, 0⟩ w3)
  (ldN [.slice, .slice, .slice] w3 a1 fun (t3 : Sl × Sl × Sl × Unit) =>
  allocD w3 #[Value.slice t3.1.b t3.1.l t3.1.c, Value.slice t3.2.1.b t3.2.1.l t3.2.1.c, Value.slice t3.2.2.1.b t3.2.2.1.l t3.2.2.1.c, Value.int .i64 at_, Value.int .i64 node, Value.slice none 0 0, Value.bool false, Value.bool false] 67 fun a2 w4 =>
  allocD w4 #[Value.int .i64 (4 : Int), Value.int .i64 (0 : Int), Value.int .i64 (0 : Int), Value.slice none 0 0, Value.int .i64 (0 : Int), Value.int .i64 (0 : Int), Value.int .i64 (0 : Int), Value.int .i64 (0 : Int), Value.int .i64 (0 : Int)] 47 fun a3 w5 =>
  F_ref24_Session_asks (some a2) shut w5 fun (s1 : Sl) w6 =>
  appendD Tryz.prog 34 34 ⟨(some a3), 1, 1⟩ (Value.slice s1.b s1.l s1.c) w6 fun (s2 : Sl) w7 =>
  Q (some a2) s2 w7))
def G_ref24_NewSession (t : KTs [.agg [.slice, .slice, .slice], .c (.int .i64), .c (.int .i64), .c .slice]) (w : World) (K : Value → World → Prop) : Prop := F_ref24_NewSession t.1 t.2.1 t.2.2.1 t.2.2.2.1 w fun (r0 : Option Addr) (r1 : Sl) w1 => K (Value.tuple #[(Value.pointer r0), (Value.slice r1.b r1.l r1.c)]) w1
abbrev T_ref24_NewSession : Tr := fun args w K => decK [.agg [.slice, .slice, .slice], .c (.int .i64), .c (.int .i64), .c .slice] args fun t => G_ref24_NewSession t w K
theorem S_ref24_NewSession : Sound Tryz.prog 20 T_ref24_NewSession := sound_of (fn := Tryz.f20) Tryz.func20 (by kernel_rfl) mixed (by kernel_rfl) (.n) [(15, T_ref4_Edge), (36, T_ref4_Node), (43, T_ref24_Session_asks)] ⟨⟨by kernel_rfl, S_ref4_Edge⟩, ⟨by kernel_rfl, S_ref4_Node⟩, ⟨by kernel_rfl, S_ref24_Session_asks⟩, trivial⟩ [.agg [.slice, .slice, .slice], .c (.int .i64), .c (.int .i64), .c .slice] (by kernel_rfl) G_ref24_NewSession fun t w K => by kernel_rfl

/-- (*milepost/milepostref24.Session).Report -/
def F_ref24_Session_Report (s : Option Addr) (pos : Int) (shut : Sl) (w : World) (Q : Sl → World → Prop) : Prop :=
  ∀ J1 : (Unit) → World → Prop, (∀ (t1 : Unit) (w1 : World), (
  onSome s fun a1 =>
  storeD Tryz.prog 3 (a1.add 3) (Value.int .i64 pos) w1 fun w2 =>
  F_ref24_Session_asks s shut w2 fun (s1 : Sl) w3 =>
  Q s1 w3) → J1 t1 w1) →
  onSome s fun a2 =>
  ld1 .bool w (a2.add 7) fun (b1 : Bool) =>
  cond b1
  (Q ⟨none, 0, 0⟩ w)
  (onSome s fun a3 =>
  ldN [.slice, .slice, .slice] w (a3.add 0) fun (t2 : Sl × Sl × Sl × Unit) =>
  F_ref4_Edge (t2.1, t2.2.1, t2.2.2.1, ()) pos w fun (b2 : Bool) w4 =>
  cond (!b2)
  (allocD w4 #[Value.int .i64 (9 : Int), Value.int .i64 pos, Value.int .i64 (0 : Int), Value.slice none 0 0, Value.int .i64 (0 : Int), Value.int .i64 (0 : Int), Value.int .i64 (0 : Int), Value.int .i64 (0 : Int), Value.int .i64 (0 : Int)] 47 fun a4 w5 =>
  Q ⟨(some a4), 1, 1⟩ w5)
  (∀ J2 : (Bool × Unit) → World → Prop, (∀ (t3 : Bool × Unit) (w6 : World), (
  cond t3.1
  (F_ref24_Session_hint s w6 fun (s2 : Sl) w7 =>
  Q s2 w7)
  (onSome s fun a5 =>
  ld1 .bool w6 (a5.add 6) fun (b3 : Bool) =>
  cond b3
  (onSome s fun a6 =>
  ld1 .slice w6 (a6.add 5) fun (s3 : Sl) =>
  cond (decide (((s3.l : Nat) : Int) > (0 : Int)))
  (onSome s fun a7 =>
  ld1 .slice w6 (a7.add 5) fun (s4 : Sl) =>
  (0 ≤ (0 : Int) ∧ (0 : Int) < ((s4.l : Nat) : Int)) ∧
  onSome s4.b fun a8 =>
  ld1 (.int .i64) w6 (a8.add (Int.toNat (0 : Int) * 1)) fun (x1 : Int) =>
  cond (pos == x1)
  (onSome s fun a9 =>
  storeD Tryz.prog 3 (a9.add 3) (Value.int .i64 pos) w6 fun w8 =>
  onSome s fun a10 =>
  ld1 .slice w8 (a10.add 5) fun (s5 : Sl) =>
  (0 ≤ (1 : Int) ∧ (1 : Int) ≤ ((s5.l : Nat) : Int)) ∧
  onSome s fun a11 =>
  storeD Tryz.prog 22 (a11.add 5) (Value.slice (sliceAddr s5.b s5.c (Int.toNat (1 : Int)) 1) (s5.l - (Int.toNat (1 : Int))) (s5.c - (Int.toNat (1 : Int)))) w8 fun w9 =>
  F_ref24_Session_hint s w9 fun (s6 : Sl) w10 =>
  Q s6 w10)
  (J1 (()) w6))
  (J1 (()) w6))
  (J1 (()) w6))) → J2 t3 w6) →
  onSome s fun a12 =>
  ld1 .bool w4 (a12.add 6) fun (b4 : Bool) =>
  cond b4
  (onSome s fun a13 =>
  ld1 (.int .i64) w4 (a13.add 3) fun (x2 : Int) =>
  J2 ((pos == x2), ()) w4)
  (J2 (false, ()) w4)))
def G_ref24_Session_Report (t : KTs [.c .ptr, .c (.int .i64), .c .slice]) (w : World) (K : Value → World → Prop) : Prop := F_ref24_Session_Report t.1 t.2.1 t.2.2.1 w fun (r0 : Sl) w1 => K (Value.slice r0.b r0.l r0.c) w1
abbrev T_ref24_Session_Report : Tr := fun args w K => decK [.c .ptr, .c (.int .i64), .c .slice] args fun t => G_ref24_Session_Report t w K
theorem S_ref24_Session_Report : Sound Tryz.prog 22 T_ref24_Session_Report := sound_of (fn := Tryz.f22) Tryz.func22 (by kernel_rfl) mixed (by kernel_rfl) (.s .n (.j [] [6, 7, 8, 9, 10, 11, 12, 13, 14, 15, 16, 17, 18, 19, 20, 21, 22, 23, 24, 25, 26, 27, 28, 29, 30, 31, 32, 33, 34, 35, 36, 37, 38, 39, 40, 41, 42, 43, 44, 45, 46, 47, 48, 49, 50, 51, 52, 53, 54, 55, 56, 57, 58, 59, 60, 61, 62, 63, 64, 65, 66, 67, 68, 69, 70, 71, 72, 73, 74] (.b (.s .n (.c .n (.s .n (.c .n (.j [(23, .c .bool)] [23, 24, 25, 26, 27, 28, 29, 30, 31, 32, 33, 34, 35] .n .n)))))) .n)) [(15, T_ref4_Edge), (43, T_ref24_Session_asks), (45, T_ref24_Session_hint)] ⟨⟨by kernel_rfl, S_ref4_Edge⟩, ⟨by kernel_rfl, S_ref24_Session_asks⟩, ⟨by kernel_rfl, S_ref24_Session_hint⟩, trivial⟩ [.c .ptr, .c (.int .i64), .c .slice] (by kernel_rfl) G_ref24_Session_Report fun t w K => by kernel_rfl

/-- (*milepost/milepostref24.Session).Changed -/
def F_ref24_Session_Changed (s : Option Addr) (shut : Sl) (open_ : Sl) (mask : Sl) (w : World) (Q : Sl → World → Prop) : Prop :=
  onSome s fun a1 =>
  ld1 .bool w (a1.add 7) fun (b1 : Bool) =>
  cond b1
  (Q ⟨none, 0, 0⟩ w)
  (onSome s fun a2 =>
  ld1 .bool w (a2.add 6) fun (b2 : Bool) =>
  cond (!b2)
  (cond (((open_.l : Nat) : Int) == (0 : Int))
  (Q ⟨none, 0, 0⟩ w)
  (F_ref24_Session_asks s mask w fun (s1 : Sl) w1 =>
  onSome s fun a3 =>
  ld1 .bool w1 (a3.add 6) fun (b3 : Bool) =>
  cond (!b3)
  (Q ⟨none, 0, 0⟩ w1)
  (Q s1 w1)))
  (∀ X1 : (Int × Unit) → World → Prop, (∀ (t1 : Int × Unit) (w2 : World), (
  onSome s fun a4 =>
  ld1 .slice w2 (a4.add 5) fun (s2 : Sl) =>
  cond (decide (t1.1 < ((s2.l : Nat) : Int)))
  (∀ X2 : (Int × Unit) → World → Prop, (∀ (t2 : Int × Unit) (w3 : World), (
  cond (decide (t2.1 < ((shut.l : Nat) : Int)))
  (onSome s fun a5 =>
  ld1 .slice w3.drew (a5.add 5) fun (s3 : Sl) =>
  (0 ≤ t1.1 ∧ t1.1 < ((s3.l : Nat) : Int)) ∧
  onSome s3.b fun a6 =>
  ld1 (.int .i64) w3.drew (a6.add (Int.toNat t1.1 * 1)) fun (x1 : Int) =>
  (0 ≤ t2.1 ∧ t2.1 < ((shut.l : Nat) : Int)) ∧
  onSome shut.b fun a7 =>
  ld1 (.int .i64) w3.drew (a7.add (Int.toNat t2.1 * 1)) fun (x2 : Int) =>
  cond (x1 == x2)
  (F_ref24_Session_asks s mask w3.drew fun (s4 : Sl) w4 =>
  Q s4 w4)
  (X2 ((IntKind.wrap .i64 (t2.1 + (1 : Int))), ()) w3.drew))
  (X1 ((IntKind.wrap .i64 (t1.1 + (1 : Int))), ()) w3)) → X2 t2 w3) →
  X2 ((0 : Int), ()) w2)
  (Q ⟨none, 0, 0⟩ w2)) → X1 t1 w2) →
  X1 ((0 : Int), ()) w))
def G_ref24_Session_Changed (t : KTs [.c .ptr, .c .slice, .c .slice, .c .slice]) (w : World) (K : Value → World → Prop) : Prop := F_ref24_Session_Changed t.1 t.2.1 t.2.2.1 t.2.2.2.1 w fun (r0 : Sl) w1 => K (Value.slice r0.b r0.l r0.c) w1
abbrev T_ref24_Session_Changed : Tr := fun args w K => decK [.c .ptr, .c .slice, .c .slice, .c .slice] args fun t => G_ref24_Session_Changed t w K
theorem S_ref24_Session_Changed : Sound Tryz.prog 25 T_ref24_Session_Changed := sound_of (fn := Tryz.f25) Tryz.func25 (by kernel_rfl) mixed (by kernel_rfl) (.s .n (.s .n (.s .n (.s (.s .n (.b (.l [(10, .c (.int .i64))] [8, 10, 11, 33, 34, 35, 36, 37, 38, 39, 40, 41, 42, 43, 44, 45, 46, 47, 48, 49, 50, 51, 52, 53, 54, 55, 56, 57, 58, 59, 60, 61, 62] (.s .n (.s (.b (.s .n (.b (.l [(11, .c (.int .i64))] [8, 11, 42, 43, 44, 45, 46, 47, 48, 49, 50, 51, 52, 53, 54, 55, 56, 57, 58, 59, 60, 61, 62] (.s .n (.s (.b (.s (.r (.fl 0 (.fl 1 (.fl 2 (.fl 3 (.fl 4 (.fl 5 (.fl 6 (.fl 7 (.fl 8 (.fl 9 (.fl 10 (.fl 11 .fin))))))))))))) .n)) .n)))))) .n))))) .n)))) [(43, T_ref24_Session_asks)] ⟨⟨by kernel_rfl, S_ref24_Session_asks⟩, trivial⟩ [.c .ptr, .c .slice, .c .slice, .c .slice] (by kernel_rfl) G_ref24_Session_Changed fun t w K => by kernel_rfl

end Go.Proofs.YtjjgcimlmjnaeaaGreat
