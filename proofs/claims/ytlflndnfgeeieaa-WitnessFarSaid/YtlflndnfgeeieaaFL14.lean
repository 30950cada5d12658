import Derived.Test.YtlflndnfgeeieaaMpDenS
import Derived.Test.YtlflndnfgeeieaaFBase
import Derived.Test.YtlflndnfgeeieaaFNet
import Derived.Test.YtlflndnfgeeieaaFWit
namespace Go.Proofs.Ytlflndnfgeeieaa
open Go Go.Den
set_option maxRecDepth 100000
/-- milepost/milepostlaw14.arcs -/
def F_law14_arcs (n : Int) (l : Sl) (w : World) (Q : Sl → World → Prop) : Prop :=
  ∀ X1 : (Sl × Int × Unit) → World → Prop, (∀ (t1 : Sl × Int × Unit) (w1 : World), (
  cond (decide (t1.2.1 < ((l.l : Nat) : Int)))
  (cond (decide (n > (1 : Int)))
  ((0 ≤ t1.2.1 ∧ t1.2.1 < ((l.l : Nat) : Int)) ∧
  onSome l.b fun a1 =>
  (0 ≤ (0 : Int) ∧ (0 : Int) < ((3 : Nat) : Int)) ∧
  ld1 (.int .i64) w1.drew ((a1.add (Int.toNat t1.2.1 * 3)).add (Int.toNat (0 : Int) * 1)) fun (x1 : Int) =>
  (0 ≤ t1.2.1 ∧ t1.2.1 < ((l.l : Nat) : Int)) ∧
  onSome l.b fun a2 =>
  (0 ≤ (1 : Int) ∧ (1 : Int) < ((3 : Nat) : Int)) ∧
  ld1 (.int .i64) w1.drew ((a2.add (Int.toNat t1.2.1 * 3)).add (Int.toNat (1 : Int) * 1)) fun (x2 : Int) =>
  F_alike_Round x1 n w1.drew fun (x3 : Int) w2 =>
  w2.cell? ((a2.add (Int.toNat t1.2.1 * 3)).add (Int.toNat (1 : Int) * 1)) = some (Value.int .i64 x2) ∧
  F_alike_Round x2 n w2 fun (x4 : Int) w3 =>
  cond (x3 != x4)
  ((0 ≤ t1.2.1 ∧ t1.2.1 < ((l.l : Nat) : Int)) ∧
  onSome l.b fun a3 =>
  (0 ≤ (2 : Int) ∧ (2 : Int) < ((3 : Nat) : Int)) ∧
  ld1 (.int .i64) w3 ((a3.add (Int.toNat t1.2.1 * 3)).add (Int.toNat (2 : Int) * 1)) fun (x5 : Int) =>
  F_alike_Round x5 (20 : Int) w3 fun (x6 : Int) w4 =>
  allocD w4 #[Value.int .i64 x3, Value.int .i64 x4, Value.int .i64 (IntKind.wrap .i64 ((1 : Int) + x6)), Value.int .i64 (-1 : Int)] 37 fun a4 w5 =>
  appendD Try.prog 45 45 t1.1 (Value.slice (some a4) 1 1) w5 fun (s1 : Sl) w6 =>
  X1 (s1, (IntKind.wrap .i64 (t1.2.1 + (1 : Int))), ()) w6)
  (X1 (t1.1, (IntKind.wrap .i64 (t1.2.1 + (1 : Int))), ()) w3))
  (Q t1.1 w1))
  (Q t1.1 w1)) → X1 t1 w1) →
  X1 (⟨none, 0, 0⟩, (0 : Int), ()) w
def G_law14_arcs (t : KTs [.c (.int .i64), .c .slice]) (w : World) (K : Value → World → Prop) : Prop := F_law14_arcs t.1 t.2.1 w fun (r0 : Sl) w1 => K (Value.slice r0.b r0.l r0.c) w1
abbrev T_law14_arcs : Tr := fun args w K => decK [.c (.int .i64), .c .slice] args fun t => G_law14_arcs t w K
theorem S_law14_arcs : Sound Try.prog 15 T_law14_arcs := sound_of (fn := Try.f15) Try.func15 (by kernel_rfl) mixed (by kernel_rfl) (.s .n (.s .n (.s (.s .n (.b (.l [(5, .c .slice), (6, .c (.int .i64))] [5, 6, 7, 8, 9, 10, 11, 12, 13, 14, 15, 16, 17, 18, 19, 20, 21, 22, 23, 24, 25, 26, 27, 28, 29, 30, 31, 32, 33, 34, 35, 36, 37, 38, 39, 40, 41, 42, 43, 44, 45, 46, 47, 48] (.s .n (.s (.b (.s (.r (.fl 0 (.fl 1 (.fl 2 (.fl 3 (.fl 4 (.fl 5 (.fl 7 (.fl 8 (.fl 9 (.fl 10 (.fl 11 (.fl 12 (.mn 6 (.mn 13 (.fl 14 (.fl 15 .fin)) .no) .no)))))))))))))) .n)) .n))))) .n))) [(8, T_alike_Round)] ⟨⟨by kernel_rfl, S_alike_Round⟩, trivial⟩ [.c (.int .i64), .c .slice] (by kernel_rfl) G_law14_arcs fun t w K => by kernel_rfl

/-- milepost/milepostlaw14.made -/
def F_law14_made (n : Int) (l : Sl) (w : World) (Q : (Option Addr) → (Option Addr) → World → Prop) : Prop :=
  F_law14_arcs n l w fun (s1 : Sl) w1 =>
  F_net_New n s1 w1 fun (p1 : Option Addr) (x1 : Int) w2 =>
  cond (x1 != (0 : Int))
  (Q none none w2)
  (F_law14_arcs n l w2 fun (s2 : Sl) w3 =>
  F_ref4_NewNet n s2 w3 fun (p2 : Option Addr) w4 =>
  Q p1 p2 w4)
def G_law14_made (t : KTs [.c (.int .i64), .c .slice]) (w : World) (K : Value → World → Prop) : Prop := F_law14_made t.1 t.2.1 w fun (r0 : Option Addr) (r1 : Option Addr) w1 => K (Value.tuple #[(Value.pointer r0), (Value.pointer r1)]) w1
abbrev T_law14_made : Tr := fun args w K => decK [.c (.int .i64), .c .slice] args fun t => G_law14_made t w K
theorem S_law14_made : Sound Try.prog 7 T_law14_made := sound_of (fn := Try.f7) Try.func7 (by kernel_rfl) mixed (by kernel_rfl) (.n) [(14, T_net_New), (15, T_law14_arcs), (16, T_ref4_NewNet)] ⟨⟨by kernel_rfl, S_net_New⟩, ⟨by kernel_rfl, S_law14_arcs⟩, ⟨by kernel_rfl, S_ref4_NewNet⟩, trivial⟩ [.c (.int .i64), .c .slice] (by kernel_rfl) G_law14_made fun t w K => by kernel_rfl

/-- milepost/milepostlaw14.awake -/
def F_law14_awake  (w : World) (Q : Bool → World → Prop) : Prop :=
  allocD w #[Value.int .i64 (0 : Int), Value.int .i64 (1 : Int), Value.int .i64 (0 : Int), Value.int .i64 (1 : Int), Value.int .i64 (2 : Int), Value.int .i64 (0 : Int), Value.int .i64 (0 : Int), Value.int .i64 (3 : Int), Value.int .i64 (4 : Int), Value.int .i64 (3 : Int), Value.int .i64 (2 : Int), Value.int .i64 (4 : Int)] 41 fun a1 w1 =>
  F_law14_made (4 : Int) ⟨(some a1), 4, 4⟩ w1 fun (p1 : Option Addr) (_ : Option Addr) w2 =>
  cond (Option.isNone p1)
  (Q false w2)
  (F_witness_Far p1 (0 : Int) (2 : Int) w2 fun (x1 : Int) (b1 : Bool) w3 =>
  F_witness_Far p1 (2 : Int) (0 : Int) w3 fun (_ : Int) (b2 : Bool) w4 =>
  cond (x1 == (2 : Int))
  (cond b1
  (cond (!b2)
  (F_witness_Find p1 (0 : Int) (2 : Int) (1 : Int) (10 : Int) (30 : Int) w4 fun (b3 : Bool) w5 =>
  cond b3
  (F_witness_Find p1 (0 : Int) (2 : Int) (1 : Int) (9 : Int) (30 : Int) w5 fun (b4 : Bool) w6 =>
  cond (!b4)
  (F_witness_Find p1 (0 : Int) (2 : Int) (1 : Int) (10 : Int) (2 : Int) w6 fun (b5 : Bool) w7 =>
  cond (!b5)
  (F_witness_Find p1 (0 : Int) (0 : Int) (1 : Int) (0 : Int) (1 : Int) w7 fun (b6 : Bool) w8 =>
  cond b6
  (F_witness_Find none (0 : Int) (0 : Int) (1 : Int) (0 : Int) (1 : Int) w8 fun (b7 : Bool) w9 =>
  Q (!b7) w9)
  (Q false w8))
  (Q false w7))
  (Q false w6))
  (Q false w5))
  (Q false w4))
  (Q false w4))
  (Q false w4))
def G_law14_awake (_ : KTs []) (w : World) (K : Value → World → Prop) : Prop := F_law14_awake  w fun (r0 : Bool) w1 => K (Value.bool r0) w1
abbrev T_law14_awake : Tr := fun args w K => decK [] args fun t => G_law14_awake t w K
theorem S_law14_awake : Sound Try.prog 6 T_law14_awake := sound_of (fn := Try.f6) Try.func6 (by kernel_rfl) mixed (by kernel_rfl) (.n) [(7, T_law14_made), (11, T_witness_Find), (12, T_witness_Far)] ⟨⟨by kernel_rfl, S_law14_made⟩, ⟨by kernel_rfl, S_witness_Find⟩, ⟨by kernel_rfl, S_witness_Far⟩, trivial⟩ [] (by kernel_rfl) G_law14_awake fun t w K => by kernel_rfl

/-- milepost/milepostlaw14.WitnessTrue -/
def F_law14_WitnessTrue (n : Int) (l : Sl) (from_ : Int) (to : Int) (without : Int) (most : Int) (settle : Int) (w : World) (Q : Bool → World → Prop) : Prop :=
  cond (decide (n < (2 : Int)))
  (F_law14_awake  w fun (b1 : Bool) w1 =>
  Q b1 w1)
  (cond (decide (n > (40 : Int)))
  (F_law14_awake  w fun (b2 : Bool) w2 =>
  Q b2 w2)
  (cond (decide (((l.l : Nat) : Int) > (120 : Int)))
  (F_law14_awake  w fun (b3 : Bool) w3 =>
  Q b3 w3)
  (F_law14_made n l w fun (p1 : Option Addr) (p2 : Option Addr) w4 =>
  cond (Option.isNone p1)
  (Q false w4)
  (F_alike_Round from_ n w4 fun (x1 : Int) w5 =>
  F_alike_Round to n w5 fun (x2 : Int) w6 =>
  F_alike_Round without n w6 fun (x3 : Int) w7 =>
  cond (x1 == x3)
  (F_law14_awake  w7 fun (b4 : Bool) w8 =>
  Q b4 w8)
  (cond (x2 == x3)
  (F_law14_awake  w7 fun (b5 : Bool) w9 =>
  Q b5 w9)
  (F_ref4_Net_Cut p2 x3 w7 fun w10 =>
  F_ref4_Net_All p2 x1 w10 fun (s1 : Sl) w11 =>
  (0 ≤ x2 ∧ x2 < ((s1.l : Nat) : Int)) ∧
  onSome s1.b fun a1 =>
  ld1 (.int .i64) w11 (a1.add (Int.toNat x2 * 1)) fun (x4 : Int) =>
  F_alike_Round most (100 : Int) w11 fun (x5 : Int) w12 =>
  F_alike_Round settle (IntKind.wrap .i64 (n + (2 : Int))) w12 fun (x6 : Int) w13 =>
  F_witness_Find p1 x1 x2 x3 x5 x6 w13 fun (b6 : Bool) w14 =>
  ∀ J1 : (Unit) → World → Prop, (∀ (t1 : Unit) (w15 : World), (
  F_law14_awake  w15 fun (b7 : Bool) w16 =>
  Q b7 w16) → J1 t1 w15) →
  cond b6
  (cond (decide (x4 < (0 : Int)))
  (Q false w14)
  (cond (decide (x4 > x5))
  (Q false w14)
  (F_witness_Find p1 x1 x2 x3 x5 n w14 fun (b8 : Bool) w17 =>
  cond (decide (x4 ≥ (0 : Int)))
  (cond (!(b8 == (decide (x4 ≤ x5))))
  (Q false w17)
  (cond b6
  (F_witness_Find p1 x1 x2 x3 (IntKind.wrap .i64 (x5 + (1 : Int))) (IntKind.wrap .i64 (x6 + (1 : Int))) w17 fun (b9 : Bool) w18 =>
  cond (!b9)
  (Q false w18)
  (J1 (()) w18))
  (J1 (()) w17)))
  (cond (!(b8 == false))
  (Q false w17)
  (cond b6
  (F_witness_Find p1 x1 x2 x3 (IntKind.wrap .i64 (x5 + (1 : Int))) (IntKind.wrap .i64 (x6 + (1 : Int))) w17 fun (b10 : Bool) w19 =>
  cond (!b10)
  (Q false w19)
  (J1 (()) w19))
  (J1 (()) w17))))))
  (F_witness_Find p1 x1 x2 x3 x5 n w14 fun (b11 : Bool) w20 =>
  cond (decide (x4 ≥ (0 : Int)))
  (cond (!(b11 == (decide (x4 ≤ x5))))
  (Q false w20)
  (cond b6
  (F_witness_Find p1 x1 x2 x3 (IntKind.wrap .i64 (x5 + (1 : Int))) (IntKind.wrap .i64 (x6 + (1 : Int))) w20 fun (b12 : Bool) w21 =>
  cond (!b12)
  (Q false w21)
  (J1 (()) w21))
  (J1 (()) w20)))
  (cond (!(b11 == false))
  (Q false w20)
  (cond b6
  (F_witness_Find p1 x1 x2 x3 (IntKind.wrap .i64 (x5 + (1 : Int))) (IntKind.wrap .i64 (x6 + (1 : Int))) w20 fun (b13 : Bool) w22 =>
  cond (!b13)
  (Q false w22)
  (J1 (()) w22))
  (J1 (()) w20))))))))))
def G_law14_WitnessTrue (t : KTs [.c (.int .i64), .c .slice, .c (.int .i64), .c (.int .i64), .c (.int .i64), .c (.int .i64), .c (.int .i64)]) (w : World) (K : Value → World → Prop) : Prop := F_law14_WitnessTrue t.1 t.2.1 t.2.2.1 t.2.2.2.1 t.2.2.2.2.1 t.2.2.2.2.2.1 t.2.2.2.2.2.2.1 w fun (r0 : Bool) w1 => K (Value.bool r0) w1
abbrev T_law14_WitnessTrue : Tr := fun args w K => decK [.c (.int .i64), .c .slice, .c (.int .i64), .c (.int .i64), .c (.int .i64), .c (.int .i64), .c (.int .i64)] args fun t => G_law14_WitnessTrue t w K
theorem S_law14_WitnessTrue : Sound Try.prog 3 T_law14_WitnessTrue := sound_of (fn := Try.f3) Try.func3 (by kernel_rfl) mixed (by kernel_rfl) (.s .n (.s .n (.s .n (.s .n (.s .n (.s .n (.s .n (.s .n (.s .n (.s .n (.j [] [14, 84, 85, 86, 87, 88, 89, 90, 91, 92, 93, 94, 95, 96, 97, 98, 99, 100, 101, 102, 103, 104, 105, 106, 107, 108, 109, 110, 111, 112, 113, 114, 115, 116, 117, 118, 119, 120, 121, 122, 123, 124, 125] .n .n))))))))))) [(6, T_law14_awake), (7, T_law14_made), (8, T_alike_Round), (9, T_ref4_Net_Cut), (10, T_ref4_Net_All), (11, T_witness_Find)] ⟨⟨by kernel_rfl, S_law14_awake⟩, ⟨by kernel_rfl, S_law14_made⟩, ⟨by kernel_rfl, S_alike_Round⟩, ⟨by kernel_rfl, S_ref4_Net_Cut⟩, ⟨by kernel_rfl, S_ref4_Net_All⟩, ⟨by kernel_rfl, S_witness_Find⟩, trivial⟩ [.c (.int .i64), .c .slice, .c (.int .i64), .c (.int .i64), .c (.int .i64), .c (.int .i64), .c (.int .i64)] (by kernel_rfl) G_law14_WitnessTrue fun t w K => by kernel_rfl

/-- milepost/milepostlaw14.WitnessLess -/
def F_law14_WitnessLess (n : Int) (l : Sl) (from_ : Int) (to : Int) (without : Int) (most : Int) (more : Int) (w : World) (Q : Bool → World → Prop) : Prop :=
  cond (decide (n < (2 : Int)))
  (F_law14_awake  w fun (b1 : Bool) w1 =>
  Q b1 w1)
  (cond (decide (n > (30 : Int)))
  (F_law14_awake  w fun (b2 : Bool) w2 =>
  Q b2 w2)
  (cond (decide (((l.l : Nat) : Int) > (100 : Int)))
  (F_law14_awake  w fun (b3 : Bool) w3 =>
  Q b3 w3)
  (cond (decide (more < (0 : Int)))
  (F_law14_awake  w fun (b4 : Bool) w4 =>
  Q b4 w4)
  (cond (decide (more > (40 : Int)))
  (F_law14_awake  w fun (b5 : Bool) w5 =>
  Q b5 w5)
  (F_law14_made n l w fun (p1 : Option Addr) (p2 : Option Addr) w6 =>
  cond (Option.isNone p1)
  (Q false w6)
  (F_alike_Round from_ n w6 fun (x1 : Int) w7 =>
  F_alike_Round to n w7 fun (x2 : Int) w8 =>
  F_alike_Round without n w8 fun (x3 : Int) w9 =>
  F_alike_Round most (80 : Int) w9 fun (x4 : Int) w10 =>
  ∀ X1 : (Bool × Int × Unit) → World → Prop, (∀ (t1 : Bool × Int × Unit) (w11 : World), (
  cond (decide (t1.2.1 ≤ (IntKind.wrap .i64 (n + (1 : Int)))))
  (F_witness_Find p1 x1 x2 x3 x4 t1.2.1 w11 fun (b6 : Bool) w12 =>
  cond t1.1
  (cond (!b6)
  (Q false w12)
  (cond b6
  (F_witness_Find p1 x1 x2 x3 (IntKind.wrap .i64 (x4 + more)) t1.2.1 w12 fun (b7 : Bool) w13 =>
  cond (!b7)
  (Q false w13)
  (X1 (b6, (IntKind.wrap .i64 (t1.2.1 + (1 : Int))), ()) w13))
  (X1 (b6, (IntKind.wrap .i64 (t1.2.1 + (1 : Int))), ()) w12)))
  (cond b6
  (F_witness_Find p1 x1 x2 x3 (IntKind.wrap .i64 (x4 + more)) t1.2.1 w12 fun (b8 : Bool) w14 =>
  cond (!b8)
  (Q false w14)
  (X1 (b6, (IntKind.wrap .i64 (t1.2.1 + (1 : Int))), ()) w14))
  (X1 (b6, (IntKind.wrap .i64 (t1.2.1 + (1 : Int))), ()) w12)))
  (F_ref4_Net_All p2 x1 w11 fun (s1 : Sl) w15 =>
  (0 ≤ x2 ∧ x2 < ((s1.l : Nat) : Int)) ∧
  onSome s1.b fun a1 =>
  ld1 (.int .i64) w15 (a1.add (Int.toNat x2 * 1)) fun (x5 : Int) =>
  cond (!t1.1)
  (F_witness_Find p1 x1 x2 x1 x4 n w15 fun (b9 : Bool) w16 =>
  cond (!b9)
  (F_law14_awake  w16 fun (b10 : Bool) w17 =>
  Q b10 w17)
  (Q false w16))
  (cond (decide (x5 ≥ (0 : Int)))
  (cond (decide (x5 ≤ x4))
  (F_witness_Find p1 x1 x2 x1 x4 n w15 fun (b11 : Bool) w18 =>
  cond (!b11)
  (F_law14_awake  w18 fun (b12 : Bool) w19 =>
  Q b12 w19)
  (Q false w18))
  (Q false w15))
  (Q false w15)))) → X1 t1 w11) →
  X1 (false, (0 : Int), ()) w10))))))
def G_law14_WitnessLess (t : KTs [.c (.int .i64), .c .slice, .c (.int .i64), .c (.int .i64), .c (.int .i64), .c (.int .i64), .c (.int .i64)]) (w : World) (K : Value → World → Prop) : Prop := F_law14_WitnessLess t.1 t.2.1 t.2.2.1 t.2.2.2.1 t.2.2.2.2.1 t.2.2.2.2.2.1 t.2.2.2.2.2.2.1 w fun (r0 : Bool) w1 => K (Value.bool r0) w1
abbrev T_law14_WitnessLess : Tr := fun args w K => decK [.c (.int .i64), .c .slice, .c (.int .i64), .c (.int .i64), .c (.int .i64), .c (.int .i64), .c (.int .i64)] args fun t => G_law14_WitnessLess t w K
theorem S_law14_WitnessLess : Sound Try.prog 4 T_law14_WitnessLess := sound_of (fn := Try.f4) Try.func4 (by kernel_rfl) mixed (by kernel_rfl) (.s .n (.s .n (.s .n (.s .n (.s .n (.s .n (.s (.s .n (.b (.l [(21, .c .bool), (22, .c (.int .i64))] [14, 21, 22, 23, 64, 65, 66, 67, 68, 69, 70, 71, 72, 73, 74, 75, 76, 77, 78, 79, 80, 81, 82, 83, 84, 85, 86, 87, 88, 89, 90, 91, 92, 93, 94, 95, 96, 97] .n))) .n))))))) [(6, T_law14_awake), (7, T_law14_made), (8, T_alike_Round), (10, T_ref4_Net_All), (11, T_witness_Find)] ⟨⟨by kernel_rfl, S_law14_awake⟩, ⟨by kernel_rfl, S_law14_made⟩, ⟨by kernel_rfl, S_alike_Round⟩, ⟨by kernel_rfl, S_ref4_Net_All⟩, ⟨by kernel_rfl, S_witness_Find⟩, trivial⟩ [.c (.int .i64), .c .slice, .c (.int .i64), .c (.int .i64), .c (.int .i64), .c (.int .i64), .c (.int .i64)] (by kernel_rfl) G_law14_WitnessLess fun t w K => by kernel_rfl

/-- milepost/milepostlaw14.WitnessFar -/
def F_law14_WitnessFar (n : Int) (l : Sl) (a : Int) (b : Int) (c : Int) (w : World) (Q : Bool → World → Prop) : Prop :=
  cond (decide (n < (1 : Int)))
  (F_law14_awake  w fun (b1 : Bool) w1 =>
  Q b1 w1)
  (cond (decide (n > (40 : Int)))
  (F_law14_awake  w fun (b2 : Bool) w2 =>
  Q b2 w2)
  (cond (decide (((l.l : Nat) : Int) > (120 : Int)))
  (F_law14_awake  w fun (b3 : Bool) w3 =>
  Q b3 w3)
  (F_law14_made n l w fun (p1 : Option Addr) (_ : Option Addr) w4 =>
  cond (Option.isNone p1)
  (Q false w4)
  (F_alike_Round a n w4 fun (x1 : Int) w5 =>
  F_alike_Round b n w5 fun (x2 : Int) w6 =>
  F_alike_Round c n w6 fun (x3 : Int) w7 =>
  F_witness_Far p1 x1 x2 w7 fun (x4 : Int) (b4 : Bool) w8 =>
  F_witness_Far p1 x2 x3 w8 fun (x5 : Int) (b5 : Bool) w9 =>
  F_witness_Far p1 x1 x3 w9 fun (x6 : Int) (b6 : Bool) w10 =>
  F_witness_Far p1 x1 x1 w10 fun (x7 : Int) (b7 : Bool) w11 =>
  F_net_Net_Arc p1 x1 x2 w11 fun (t1 : Int × Int × Int × Int × Unit) (b8 : Bool) w12 =>
  allocD w12 #[Value.int .i64 (0 : Int), Value.int .i64 (0 : Int), Value.int .i64 (0 : Int), Value.int .i64 (0 : Int)] 37 fun a1 w13 =>
  storeD Try.prog 37 a1 (Value.agg #[(Value.int .i64 t1.1), (Value.int .i64 t1.2.1), (Value.int .i64 t1.2.2.1), (Value.int .i64 t1.2.2.2.1)]) w13 fun w14 =>
  cond (!b4)
  (cond (x7 == (0 : Int))
  (cond b7
  (cond (!b8)
  (cond b4
  (F_law14_awake  w14 fun (b9 : Bool) w15 =>
  Q b9 w15)
  (cond (x4 == (0 : Int))
  (F_law14_awake  w14 fun (b10 : Bool) w16 =>
  Q b10 w16)
  (Q false w14)))
  (cond b4
  (ld1 (.int .i64) w14 (a1.add 2) fun (x8 : Int) =>
  cond (decide (x4 ≤ x8))
  (cond b4
  (F_law14_awake  w14 fun (b11 : Bool) w17 =>
  Q b11 w17)
  (cond (x4 == (0 : Int))
  (F_law14_awake  w14 fun (b12 : Bool) w18 =>
  Q b12 w18)
  (Q false w14)))
  (Q false w14))
  (Q false w14)))
  (Q false w14))
  (Q false w14))
  (cond (!b5)
  (cond (x7 == (0 : Int))
  (cond b7
  (cond (!b8)
  (cond b4
  (F_law14_awake  w14 fun (b13 : Bool) w19 =>
  Q b13 w19)
  (cond (x4 == (0 : Int))
  (F_law14_awake  w14 fun (b14 : Bool) w20 =>
  Q b14 w20)
  (Q false w14)))
  (cond b4
  (ld1 (.int .i64) w14 (a1.add 2) fun (x9 : Int) =>
  cond (decide (x4 ≤ x9))
  (cond b4
  (F_law14_awake  w14 fun (b15 : Bool) w21 =>
  Q b15 w21)
  (cond (x4 == (0 : Int))
  (F_law14_awake  w14 fun (b16 : Bool) w22 =>
  Q b16 w22)
  (Q false w14)))
  (Q false w14))
  (Q false w14)))
  (Q false w14))
  (Q false w14))
  (cond b6
  (cond (decide (x6 ≤ (IntKind.wrap .i64 (x4 + x5))))
  (cond (x7 == (0 : Int))
  (cond b7
  (cond (!b8)
  (cond b4
  (F_law14_awake  w14 fun (b17 : Bool) w23 =>
  Q b17 w23)
  (cond (x4 == (0 : Int))
  (F_law14_awake  w14 fun (b18 : Bool) w24 =>
  Q b18 w24)
  (Q false w14)))
  (cond b4
  (ld1 (.int .i64) w14 (a1.add 2) fun (x10 : Int) =>
  cond (decide (x4 ≤ x10))
  (cond b4
  (F_law14_awake  w14 fun (b19 : Bool) w25 =>
  Q b19 w25)
  (cond (x4 == (0 : Int))
  (F_law14_awake  w14 fun (b20 : Bool) w26 =>
  Q b20 w26)
  (Q false w14)))
  (Q false w14))
  (Q false w14)))
  (Q false w14))
  (Q false w14))
  (Q false w14))
  (Q false w14)))))))
def G_law14_WitnessFar (t : KTs [.c (.int .i64), .c .slice, .c (.int .i64), .c (.int .i64), .c (.int .i64)]) (w : World) (K : Value → World → Prop) : Prop := F_law14_WitnessFar t.1 t.2.1 t.2.2.1 t.2.2.2.1 t.2.2.2.2.1 w fun (r0 : Bool) w1 => K (Value.bool r0) w1
abbrev T_law14_WitnessFar : Tr := fun args w K => decK [.c (.int .i64), .c .slice, .c (.int .i64), .c (.int .i64), .c (.int .i64)] args fun t => G_law14_WitnessFar t w K
theorem S_law14_WitnessFar : Sound Try.prog 5 T_law14_WitnessFar := sound_of (fn := Try.f5) Try.func5 (by kernel_rfl) mixed (by kernel_rfl) (.n) [(6, T_law14_awake), (7, T_law14_made), (8, T_alike_Round), (12, T_witness_Far), (13, T_net_Net_Arc)] ⟨⟨by kernel_rfl, S_law14_awake⟩, ⟨by kernel_rfl, S_law14_made⟩, ⟨by kernel_rfl, S_alike_Round⟩, ⟨by kernel_rfl, S_witness_Far⟩, ⟨by kernel_rfl, S_net_Net_Arc⟩, trivial⟩ [.c (.int .i64), .c .slice, .c (.int .i64), .c (.int .i64), .c (.int .i64)] (by kernel_rfl) G_law14_WitnessFar fun t w K => by kernel_rfl

end Go.Proofs.Ytlflndnfgeeieaa
