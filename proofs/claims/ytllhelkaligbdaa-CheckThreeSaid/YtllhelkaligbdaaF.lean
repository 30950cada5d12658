import Derived.Test.YtllhelkaligbdaaMpDenS
import Derived.Test.YtllhelkaligbdaaProg
namespace Go.Proofs.Ytllhelkaligbdaa
open Go Go.Den
set_option maxRecDepth 100000
theorem mixed : Try.prog.follows .mixedOrders = true := by kernel_rfl
/-- milepost/check.Sum -/
def F_check_Sum (parts : Sl) (w : World) (Q : Int → World → Prop) : Prop :=
  ∀ X1 : (Int × Int × Unit) → World → Prop, (∀ (t1 : Int × Int × Unit) (w1 : World), (
  cond (decide (t1.2.1 < ((parts.l : Nat) : Int)))
  ((0 ≤ t1.2.1 ∧ t1.2.1 < ((parts.l : Nat) : Int)) ∧
  onSome parts.b fun a1 =>
  ld1 .slice w1 (a1.add (Int.toNat t1.2.1 * 1)) fun (s1 : Sl) =>
  ∀ X2 : (Int × Int × Unit) → World → Prop, (∀ (t2 : Int × Int × Unit) (w2 : World), (
  cond (decide (t2.2.1 < ((s1.l : Nat) : Int)))
  ((0 ≤ t2.2.1 ∧ t2.2.1 < ((s1.l : Nat) : Int)) ∧
  onSome s1.b fun a2 =>
  ld1 (.int .u8) w2 (a2.add (Int.toNat t2.2.1 * 1)) fun (x1 : Int) =>
  ∀ X3 : (Int × Int × Unit) → World → Prop, (∀ (t3 : Int × Int × Unit) (w3 : World), (
  cond (decide (t3.2.1 < (8 : Int)))
  (0 ≤ (1 : Int) ∧
  cond (decide ((bitsV .and .u32 t3.1 (1 : Int)) > (0 : Int)))
  (X3 ((bitsV .xor .u32 (Int.fdiv t3.1 (2 ^ (min (Int.toNat (1 : Int)) (IntKind.bits .u32)))) (2197175160 : Int)), (IntKind.wrap .i64 (t3.2.1 + (1 : Int))), ()) w3)
  (X3 ((Int.fdiv t3.1 (2 ^ (min (Int.toNat (1 : Int)) (IntKind.bits .u32)))), (IntKind.wrap .i64 (t3.2.1 + (1 : Int))), ()) w3))
  (X2 (t3.1, (IntKind.wrap .i64 (t2.2.1 + (1 : Int))), ()) w3)) → X3 t3 w3) →
  X3 ((bitsV .xor .u32 t2.1 (IntKind.wrap .u32 (x1))), (0 : Int), ()) w2)
  (X1 (t2.1, (IntKind.wrap .i64 (t1.2.1 + (1 : Int))), ()) w2)) → X2 t2 w2) →
  X2 (t1.1, (0 : Int), ()) w1)
  (Q (bitsV .xor .u32 (if IntKind.signed .u32 then -1 else IntKind.max .u32) t1.1) w1)) → X1 t1 w1) →
  X1 ((4294967295 : Int), (0 : Int), ()) w
def G_check_Sum (t : KTs [.c .slice]) (w : World) (K : Value → World → Prop) : Prop := F_check_Sum t.1 w fun (r0 : Int) w1 => K (Value.int .u32 r0) w1
abbrev T_check_Sum : Tr := fun args w K => decK [.c .slice] args fun t => G_check_Sum t w K
theorem S_check_Sum : Sound Try.prog 9 T_check_Sum := sound_of (fn := Try.f9) Try.func9 (by kernel_rfl) mixed (by kernel_rfl) (.s .n (.s .n (.s (.s .n (.b (.l [(3, .c (.int .u32)), (11, .c (.int .i64))] [3, 5, 7, 8, 11, 12, 13, 14, 15, 16, 17, 18, 19, 20, 21, 22, 23, 24, 25, 26, 27, 28, 29, 30, 31, 32, 33, 34, 35, 36, 37] (.s .n (.s .n (.s (.b (.s .n (.s .n (.b (.l [(3, .c (.int .u32)), (17, .c (.int .i64))] [3, 7, 8, 17, 18, 19, 20, 21, 22, 23, 24, 25, 26, 27, 28, 29, 30, 31, 32, 33, 34, 35, 36] (.s .n (.s .n (.s (.b (.s .n (.s .n (.s .n (.b (.l [(3, .c (.int .u32)), (25, .c (.int .i64))] [3, 8, 25, 26, 27, 28, 29, 30, 31, 32, 33, 34, 35] .n)))))) .n)))))))) .n)))))) .n))) [] trivial [.c .slice] (by kernel_rfl) G_check_Sum fun t w K => by kernel_rfl

/-- milepost/milepostlaw2.awake -/
def F_law2_awake  (w : World) (Q : Bool → World → Prop) : Prop :=
  allocD w #[Value.int .u8 (49 : Int), Value.int .u8 (50 : Int), Value.int .u8 (51 : Int), Value.int .u8 (52 : Int), Value.int .u8 (53 : Int), Value.int .u8 (54 : Int), Value.int .u8 (55 : Int), Value.int .u8 (56 : Int), Value.int .u8 (57 : Int)] 5 fun a1 w1 =>
  convD Try.prog (.c .slice) 22 22 (Value.slice (some a1) 9 9) w1 fun (s1 : Sl) w2 =>
  allocD w2 #[Value.slice s1.b s1.l s1.c] 22 fun a2 w3 =>
  F_check_Sum ⟨(some a2), 1, 1⟩ w3 fun (x1 : Int) w4 =>
  cond (x1 == (3808858755 : Int))
  (F_check_Sum ⟨none, 0, 0⟩ w4 fun (x2 : Int) w5 =>
  cond (x2 == (0 : Int))
  (allocD w5 #[Value.int .u8 (49 : Int), Value.int .u8 (50 : Int), Value.int .u8 (51 : Int), Value.int .u8 (52 : Int), Value.int .u8 (53 : Int)] 5 fun a3 w6 =>
  convD Try.prog (.c .slice) 22 22 (Value.slice (some a3) 5 5) w6 fun (s2 : Sl) w7 =>
  allocD w7 #[Value.int .u8 (54 : Int), Value.int .u8 (55 : Int), Value.int .u8 (56 : Int), Value.int .u8 (57 : Int)] 5 fun a4 w8 =>
  convD Try.prog (.c .slice) 22 22 (Value.slice (some a4) 4 4) w8 fun (s3 : Sl) w9 =>
  allocD w9 #[Value.slice s2.b s2.l s2.c, Value.slice none 0 0, Value.slice s3.b s3.l s3.c] 22 fun a5 w10 =>
  F_check_Sum ⟨(some a5), 3, 3⟩ w10 fun (x3 : Int) w11 =>
  Q (x3 == (3808858755 : Int)) w11)
  (Q false w5))
  (Q false w4)
def G_law2_awake (_ : KTs []) (w : World) (K : Value → World → Prop) : Prop := F_law2_awake  w fun (r0 : Bool) w1 => K (Value.bool r0) w1
abbrev T_law2_awake : Tr := fun args w K => decK [] args fun t => G_law2_awake t w K
theorem S_law2_awake : Sound Try.prog 7 T_law2_awake := sound_of (fn := Try.f7) Try.func7 (by kernel_rfl) mixed (by kernel_rfl) (.n) [(9, T_check_Sum)] ⟨⟨by kernel_rfl, S_check_Sum⟩, trivial⟩ [] (by kernel_rfl) G_law2_awake fun t w K => by kernel_rfl

/-- milepost/milepostalike.Round -/
def F_alike_Round (k : Int) (n : Int) (w : World) (Q : Int → World → Prop) : Prop :=
  ¬ n = 0 ∧
  cond (decide ((Int.tmod k n) < (0 : Int)))
  (Q (IntKind.wrap .i64 ((Int.tmod k n) + n)) w)
  (Q (Int.tmod k n) w)
def G_alike_Round (t : KTs [.c (.int .i64), .c (.int .i64)]) (w : World) (K : Value → World → Prop) : Prop := F_alike_Round t.1 t.2.1 w fun (r0 : Int) w1 => K (Value.int .i64 r0) w1
abbrev T_alike_Round : Tr := fun args w K => decK [.c (.int .i64), .c (.int .i64)] args fun t => G_alike_Round t w K
theorem S_alike_Round : Sound Try.prog 8 T_alike_Round := sound_of (fn := Try.f8) Try.func8 (by kernel_rfl) mixed (by kernel_rfl) (.n) [] trivial [.c (.int .i64), .c (.int .i64)] (by kernel_rfl) G_alike_Round fun t w K => by kernel_rfl

/-- milepost/milepostref1.Sum -/
def F_ref1_Sum (b : Sl) (w : World) (Q : Int → World → Prop) : Prop :=
  ∀ X1 : (Int × Int × Unit) → World → Prop, (∀ (t1 : Int × Int × Unit) (w1 : World), (
  cond (decide (t1.2.1 < ((b.l : Nat) : Int)))
  ((0 ≤ t1.2.1 ∧ t1.2.1 < ((b.l : Nat) : Int)) ∧
  onSome b.b fun a1 =>
  ld1 (.int .u8) w1 (a1.add (Int.toNat t1.2.1 * 1)) fun (x1 : Int) =>
  ∀ X2 : (Int × Int × Unit) → World → Prop, (∀ (t2 : Int × Int × Unit) (w2 : World), (
  cond (decide (t2.2.1 < (8 : Int)))
  (cond ((bitsV .and .u32 t2.1 (1 : Int)) == (1 : Int))
  (0 ≤ (1 : Int) ∧
  X2 ((bitsV .xor .u32 (Int.fdiv t2.1 (2 ^ (min (Int.toNat (1 : Int)) (IntKind.bits .u32)))) (2197175160 : Int)), (IntKind.wrap .i64 (t2.2.1 + (1 : Int))), ()) w2)
  (0 ≤ (1 : Int) ∧
  X2 ((Int.fdiv t2.1 (2 ^ (min (Int.toNat (1 : Int)) (IntKind.bits .u32)))), (IntKind.wrap .i64 (t2.2.1 + (1 : Int))), ()) w2))
  (X1 (t2.1, (IntKind.wrap .i64 (t1.2.1 + (1 : Int))), ()) w2)) → X2 t2 w2) →
  X2 ((bitsV .xor .u32 t1.1 (IntKind.wrap .u32 (x1))), (0 : Int), ()) w1)
  (Q (bitsV .xor .u32 (if IntKind.signed .u32 then -1 else IntKind.max .u32) t1.1) w1)) → X1 t1 w1) →
  X1 ((4294967295 : Int), (0 : Int), ()) w
def G_ref1_Sum (t : KTs [.c .slice]) (w : World) (K : Value → World → Prop) : Prop := F_ref1_Sum t.1 w fun (r0 : Int) w1 => K (Value.int .u32 r0) w1
abbrev T_ref1_Sum : Tr := fun args w K => decK [.c .slice] args fun t => G_ref1_Sum t w K
theorem S_ref1_Sum : Sound Try.prog 10 T_ref1_Sum := sound_of (fn := Try.f10) Try.func10 (by kernel_rfl) mixed (by kernel_rfl) (.s .n (.s .n (.s (.s .n (.b (.l [(3, .c (.int .u32)), (4, .c (.int .i64))] [3, 4, 5, 6, 7, 8, 9, 10, 11, 12, 13, 14, 15, 16, 17, 18, 19, 20, 21, 22, 23, 24, 25, 26, 27, 28, 29, 30] (.s .n (.s (.b (.s .n (.s .n (.b (.l [(3, .c (.int .u32)), (5, .c (.int .i64))] [3, 5, 19, 20, 21, 22, 23, 24, 25, 26, 27, 28, 29, 30] .n))))) .n))))) .n))) [] trivial [.c .slice] (by kernel_rfl) G_ref1_Sum fun t w K => by kernel_rfl

/-- milepost/milepostlaw2.CheckTells -/
def F_law2_CheckTells (b : Sl) (cuts : Sl) (w : World) (Q : Bool → World → Prop) : Prop :=
  cond (decide (((b.l : Nat) : Int) > (1000 : Int)))
  (F_law2_awake  w fun (b1 : Bool) w1 =>
  Q b1 w1)
  (cond (decide (((cuts.l : Nat) : Int) > (20 : Int)))
  (F_law2_awake  w fun (b2 : Bool) w2 =>
  Q b2 w2)
  (∀ X1 : (Sl × Sl × Int × Unit) → World → Prop, (∀ (t1 : Sl × Sl × Int × Unit) (w3 : World), (
  cond (decide (t1.2.2.1 < ((cuts.l : Nat) : Int)))
  ((0 ≤ t1.2.2.1 ∧ t1.2.2.1 < ((cuts.l : Nat) : Int)) ∧
  onSome cuts.b fun a1 =>
  ld1 (.int .i64) w3 (a1.add (Int.toNat t1.2.2.1 * 1)) fun (x1 : Int) =>
  F_alike_Round x1 (IntKind.wrap .i64 (((t1.2.1.l : Nat) : Int) + (1 : Int))) w3 fun (x2 : Int) w4 =>
  (0 ≤ x2 ∧ x2 ≤ ((t1.2.1.c : Nat) : Int)) ∧
  allocD w4 #[Value.slice (sliceAddr t1.2.1.b t1.2.1.c 0 1) ((Int.toNat x2) - 0) (t1.2.1.c - 0)] 22 fun a2 w5 =>
  appendD Try.prog 25 25 t1.1 (Value.slice (some a2) 1 1) w5 fun (s1 : Sl) w6 =>
  (0 ≤ x2 ∧ x2 ≤ ((t1.2.1.l : Nat) : Int)) ∧
  X1 (s1, ⟨(sliceAddr t1.2.1.b t1.2.1.c (Int.toNat x2) 1), (t1.2.1.l - (Int.toNat x2)), (t1.2.1.c - (Int.toNat x2))⟩, (IntKind.wrap .i64 (t1.2.2.1 + (1 : Int))), ()) w6)
  (allocD w3 #[Value.slice b.b b.l b.c] 22 fun a3 w7 =>
  F_check_Sum ⟨(some a3), 1, 1⟩ w7 fun (x3 : Int) w8 =>
  F_ref1_Sum b w8 fun (x4 : Int) w9 =>
  cond (x3 == x4)
  (allocD w9 #[Value.slice t1.2.1.b t1.2.1.l t1.2.1.c] 22 fun a4 w10 =>
  appendD Try.prog 25 25 t1.1 (Value.slice (some a4) 1 1) w10 fun (s2 : Sl) w11 =>
  F_check_Sum s2 w11 fun (x5 : Int) w12 =>
  F_ref1_Sum b w12 fun (x6 : Int) w13 =>
  cond (x5 == x6)
  (F_law2_awake  w13 fun (b3 : Bool) w14 =>
  Q b3 w14)
  (Q false w13))
  (Q false w9))) → X1 t1 w3) →
  X1 (⟨none, 0, 0⟩, b, (0 : Int), ()) w))
def G_law2_CheckTells (t : KTs [.c .slice, .c .slice]) (w : World) (K : Value → World → Prop) : Prop := F_law2_CheckTells t.1 t.2.1 w fun (r0 : Bool) w1 => K (Value.bool r0) w1
abbrev T_law2_CheckTells : Tr := fun args w K => decK [.c .slice, .c .slice] args fun t => G_law2_CheckTells t w K
theorem S_law2_CheckTells : Sound Try.prog 3 T_law2_CheckTells := sound_of (fn := Try.f3) Try.func3 (by kernel_rfl) mixed (by kernel_rfl) (.s .n (.s .n (.s .n (.s .n (.s (.s .n (.b (.l [(5, .c .slice), (6, .c .slice), (7, .c (.int .i64))] [5, 6, 7, 8, 19, 20, 21, 22, 23, 24, 25, 26, 27, 28, 29, 30, 31, 32, 33, 34, 35, 36, 37, 38, 39, 40, 41] .n))) .n))))) [(7, T_law2_awake), (8, T_alike_Round), (9, T_check_Sum), (10, T_ref1_Sum)] ⟨⟨by kernel_rfl, S_law2_awake⟩, ⟨by kernel_rfl, S_alike_Round⟩, ⟨by kernel_rfl, S_check_Sum⟩, ⟨by kernel_rfl, S_ref1_Sum⟩, trivial⟩ [.c .slice, .c .slice] (by kernel_rfl) G_law2_CheckTells fun t w K => by kernel_rfl

/-- milepost/milepostlaw2.CheckEnds -/
def F_law2_CheckEnds (b : Sl) (n : Int) (x : Int) (y : Int) (w : World) (Q : Bool → World → Prop) : Prop :=
  cond (decide (((b.l : Nat) : Int) > (300 : Int)))
  (F_law2_awake  w fun (b1 : Bool) w1 =>
  Q b1 w1)
  (cond (decide (n < (1 : Int)))
  (F_law2_awake  w fun (b2 : Bool) w2 =>
  Q b2 w2)
  (cond (decide (n > (3 : Int)))
  (F_law2_awake  w fun (b3 : Bool) w3 =>
  Q b3 w3)
  (makeSliceD Try.prog 22 (Value.int .i64 n) (Value.int .i64 n) w fun (s1 : Sl) w4 =>
  0 ≤ (24 : Int) ∧
  0 ≤ (16 : Int) ∧
  0 ≤ (8 : Int) ∧
  allocD w4 #[Value.int .u8 (IntKind.wrap .u8 (Int.fdiv x (2 ^ (min (Int.toNat (24 : Int)) (IntKind.bits .u32))))), Value.int .u8 (IntKind.wrap .u8 (Int.fdiv x (2 ^ (min (Int.toNat (16 : Int)) (IntKind.bits .u32))))), Value.int .u8 (IntKind.wrap .u8 (Int.fdiv x (2 ^ (min (Int.toNat (8 : Int)) (IntKind.bits .u32))))), Value.int .u8 (IntKind.wrap .u8 (x))] 5 fun a1 w5 =>
  0 ≤ (24 : Int) ∧
  0 ≤ (16 : Int) ∧
  0 ≤ (8 : Int) ∧
  allocD w5 #[Value.int .u8 (IntKind.wrap .u8 (Int.fdiv y (2 ^ (min (Int.toNat (24 : Int)) (IntKind.bits .u32))))), Value.int .u8 (IntKind.wrap .u8 (Int.fdiv y (2 ^ (min (Int.toNat (16 : Int)) (IntKind.bits .u32))))), Value.int .u8 (IntKind.wrap .u8 (Int.fdiv y (2 ^ (min (Int.toNat (8 : Int)) (IntKind.bits .u32))))), Value.int .u8 (IntKind.wrap .u8 (y))] 5 fun a2 w6 =>
  allocD w6 #[Value.slice b.b b.l b.c, Value.slice s1.b s1.l s1.c] 22 fun a3 w7 =>
  F_check_Sum ⟨(some a3), 2, 2⟩ w7 fun (x1 : Int) w8 =>
  allocD w8 #[] 5 fun a4 w9 =>
  appendD Try.prog 22 22 ⟨(some a4), 0, 0⟩ (Value.slice b.b b.l b.c) w9 fun (s2 : Sl) w10 =>
  appendD Try.prog 22 22 s2 (Value.slice s1.b s1.l s1.c) w10 fun (s3 : Sl) w11 =>
  F_ref1_Sum s3 w11 fun (x2 : Int) w12 =>
  cond (x1 == x2)
  (allocD w12 #[Value.slice s1.b s1.l s1.c, Value.slice b.b b.l b.c] 22 fun a5 w13 =>
  F_check_Sum ⟨(some a5), 2, 2⟩ w13 fun (x3 : Int) w14 =>
  allocD w14 #[] 5 fun a6 w15 =>
  appendD Try.prog 22 22 ⟨(some a6), 0, 0⟩ (Value.slice s1.b s1.l s1.c) w15 fun (s4 : Sl) w16 =>
  appendD Try.prog 22 22 s4 (Value.slice b.b b.l b.c) w16 fun (s5 : Sl) w17 =>
  F_ref1_Sum s5 w17 fun (x4 : Int) w18 =>
  cond (x3 == x4)
  (allocD w18 #[Value.slice (some a1) 4 4] 22 fun a7 w19 =>
  F_check_Sum ⟨(some a7), 1, 1⟩ w19 fun (x5 : Int) w20 =>
  allocD w20 #[Value.slice (some a2) 4 4] 22 fun a8 w21 =>
  F_check_Sum ⟨(some a8), 1, 1⟩ w21 fun (x6 : Int) w22 =>
  cond ((x5 == x6) == (x == y))
  (F_law2_awake  w22 fun (b4 : Bool) w23 =>
  Q b4 w23)
  (Q false w22))
  (Q false w18))
  (Q false w12))))
def G_law2_CheckEnds (t : KTs [.c .slice, .c (.int .i64), .c (.int .u32), .c (.int .u32)]) (w : World) (K : Value → World → Prop) : Prop := F_law2_CheckEnds t.1 t.2.1 t.2.2.1 t.2.2.2.1 w fun (r0 : Bool) w1 => K (Value.bool r0) w1
abbrev T_law2_CheckEnds : Tr := fun args w K => decK [.c .slice, .c (.int .i64), .c (.int .u32), .c (.int .u32)] args fun t => G_law2_CheckEnds t w K
theorem S_law2_CheckEnds : Sound Try.prog 6 T_law2_CheckEnds := sound_of (fn := Try.f6) Try.func6 (by kernel_rfl) mixed (by kernel_rfl) (.n) [(7, T_law2_awake), (9, T_check_Sum), (10, T_ref1_Sum)] ⟨⟨by kernel_rfl, S_law2_awake⟩, ⟨by kernel_rfl, S_check_Sum⟩, ⟨by kernel_rfl, S_ref1_Sum⟩, trivial⟩ [.c .slice, .c (.int .i64), .c (.int .u32), .c (.int .u32)] (by kernel_rfl) G_law2_CheckEnds fun t w K => by kernel_rfl

noncomputable def C_law2_CheckThree : Ctx := ⟨Try.prog, Try.f4.ntmps, [(7, T_law2_awake), (8, T_alike_Round), (9, T_check_Sum)]⟩
/-- milepost/milepostlaw2.CheckThree -/
def F_law2_CheckThree (b : Sl) (l : Int × Int × Int × Unit) (w : World) (Q : Bool → World → Prop) : Prop :=
  allocD w #[Value.int .i64 l.1, Value.int .i64 l.2.1, Value.int .i64 l.2.2.1] 31 fun a1 w1 =>
  cond (decide (((b.l : Nat) : Int) < (1 : Int)))
  (F_law2_awake  w1 fun (b1 : Bool) w2 =>
  Q b1 w2)
  (cond (decide (((b.l : Nat) : Int) > (500 : Int)))
  (F_law2_awake  w1 fun (b2 : Bool) w3 =>
  Q b2 w3)
  (allocD w1 #[] 5 fun a2 w4 =>
  appendD Try.prog 22 22 ⟨(some a2), 0, 0⟩ (Value.slice b.b b.l b.c) w4 fun (s1 : Sl) w5 =>
  ∀ X1 : (Int × Unit) → World → Prop, (∀ (t1 : Int × Unit) (w6 : World), (
  cond (decide (t1.1 < (3 : Int)))
  ((0 ≤ t1.1 ∧ t1.1 < ((3 : Nat) : Int)) ∧
  ld1 (.int .i64) w6 (a1.add (Int.toNat t1.1 * 1)) fun (x1 : Int) =>
  F_alike_Round x1 (IntKind.wrap .i64 ((8 : Int) * ((b.l : Nat) : Int))) w6 fun (x2 : Int) w7 =>
  ¬ (8 : Int) = 0 ∧
  (0 ≤ IntKind.wrap .i64 (Int.tdiv x2 (8 : Int)) ∧ IntKind.wrap .i64 (Int.tdiv x2 (8 : Int)) < ((s1.l : Nat) : Int)) ∧
  onSome s1.b fun a3 =>
  ld1 (.int .u8) w7.drew (a3.add (Int.toNat (IntKind.wrap .i64 (Int.tdiv x2 (8 : Int))) * 1)) fun (x3 : Int) =>
  ¬ (8 : Int) = 0 ∧
  0 ≤ (Int.tmod x2 (8 : Int)) ∧
  (0 ≤ IntKind.wrap .i64 (Int.tdiv x2 (8 : Int)) ∧ IntKind.wrap .i64 (Int.tdiv x2 (8 : Int)) < ((s1.l : Nat) : Int)) ∧
  onSome s1.b fun a4 =>
  storeD Try.prog 5 (a4.add (Int.toNat (IntKind.wrap .i64 (Int.tdiv x2 (8 : Int))) * 1)) (Value.int .u8 (bitsV .xor .u8 x3 (IntKind.wrap .u8 ((1 : Int) * 2 ^ (min (Int.toNat (Int.tmod x2 (8 : Int))) (IntKind.bits .u8)))))) w7.drew fun w8 =>
  X1 ((IntKind.wrap .i64 (t1.1 + (1 : Int))), ()) w8)
  (∀ J1 : (Bool × Unit) → World → Prop, (∀ (t2 : Bool × Unit) (w9 : World), (
  Q t2.1 w9) → J1 t2 w9) →
  OrdP C_law2_CheckThree (opsAt (Try.f4.body.getD .skip) [1, 1, 1, 1, 0])
  [(0, (Value.slice b.b b.l b.c)), (5, (Value.slice s1.b s1.l s1.c))]
  (fun cur wo => decL [(4, .c .bool)] cur [] fun t => J1 t wo) w6.drew)) → X1 t1 w6) →
  X1 ((0 : Int), ()) w5))
def G_law2_CheckThree (t : KTs [.c .slice, .agg [.int .i64, .int .i64, .int .i64]]) (w : World) (K : Value → World → Prop) : Prop := F_law2_CheckThree t.1 t.2.1 w fun (r0 : Bool) w1 => K (Value.bool r0) w1
abbrev T_law2_CheckThree : Tr := fun args w K => decK [.c .slice, .agg [.int .i64, .int .i64, .int .i64]] args fun t => G_law2_CheckThree t w K
theorem S_law2_CheckThree : Sound Try.prog 4 T_law2_CheckThree := sound_of (fn := Try.f4) Try.func4 (by kernel_rfl) mixed (by kernel_rfl) (.s .n (.s .n (.s .n (.s (.s .n (.b (.l [(6, .c (.int .i64))] [6, 7, 20, 21, 22, 23, 24, 25, 26, 27, 28, 29, 30, 31, 32, 33, 34, 35, 36, 37, 38, 39, 40] (.s .n (.s (.b (.s .n (.r (.fl 0 (.fl 1 (.fl 2 (.fl 3 (.fl 4 (.fl 5 (.fl 6 (.fl 7 (.fl 8 (.fl 9 (.mn 10 .fin .no)))))))))))))) .n))))) (.j [(4, .c .bool)] [4, 41, 42, 43, 44, 45, 46, 47, 48, 49, 50, 51, 52, 53, 54, 55, 56] (.o [0, 5]) .n))))) [(7, T_law2_awake), (8, T_alike_Round), (9, T_check_Sum)] ⟨⟨by kernel_rfl, S_law2_awake⟩, ⟨by kernel_rfl, S_alike_Round⟩, ⟨by kernel_rfl, S_check_Sum⟩, trivial⟩ [.c .slice, .agg [.int .i64, .int .i64, .int .i64]] (by kernel_rfl) G_law2_CheckThree fun t w K => by kernel_rfl

noncomputable def C_law2_CheckMixes : Ctx := ⟨Try.prog, Try.f5.ntmps, [(7, T_law2_awake), (9, T_check_Sum)]⟩
/-- milepost/milepostlaw2.CheckMixes -/
def F_law2_CheckMixes (a : Sl) (b : Sl) (w : World) (Q : Bool → World → Prop) : Prop :=
  cond (decide (((a.l : Nat) : Int) > (500 : Int)))
  (F_law2_awake  w fun (b1 : Bool) w1 =>
  Q b1 w1)
  (cond (decide (((b.l : Nat) : Int) > (500 : Int)))
  (F_law2_awake  w fun (b2 : Bool) w2 =>
  Q b2 w2)
  (makeSliceD Try.prog 22 (Value.int .i64 (minInt ((a.l : Nat) : Int) ((b.l : Nat) : Int))) (Value.int .i64 (minInt ((a.l : Nat) : Int) ((b.l : Nat) : Int))) w fun (s1 : Sl) w3 =>
  ∀ X1 : (Int × Unit) → World → Prop, (∀ (t1 : Int × Unit) (w4 : World), (
  cond (decide (t1.1 < (minInt ((a.l : Nat) : Int) ((b.l : Nat) : Int))))
  ((0 ≤ t1.1 ∧ t1.1 < ((a.l : Nat) : Int)) ∧
  onSome a.b fun a1 =>
  ld1 (.int .u8) w4.drew (a1.add (Int.toNat t1.1 * 1)) fun (x1 : Int) =>
  (0 ≤ t1.1 ∧ t1.1 < ((b.l : Nat) : Int)) ∧
  onSome b.b fun a2 =>
  ld1 (.int .u8) w4.drew (a2.add (Int.toNat t1.1 * 1)) fun (x2 : Int) =>
  (0 ≤ t1.1 ∧ t1.1 < ((s1.l : Nat) : Int)) ∧
  onSome s1.b fun a3 =>
  storeD Try.prog 5 (a3.add (Int.toNat t1.1 * 1)) (Value.int .u8 (bitsV .xor .u8 x1 x2)) w4.drew fun w5 =>
  X1 ((IntKind.wrap .i64 (t1.1 + (1 : Int))), ()) w5)
  (∀ J1 : (Bool × Unit) → World → Prop, (∀ (t2 : Bool × Unit) (w6 : World), (
  Q t2.1 w6) → J1 t2 w6) →
  OrdP C_law2_CheckMixes (opsAt (Try.f5.body.getD .skip) [1, 1, 1, 1, 1, 0])
  [(0, (Value.slice a.b a.l a.c)), (1, (Value.slice b.b b.l b.c)), (5, (Value.int .i64 (minInt ((a.l : Nat) : Int) ((b.l : Nat) : Int)))), (6, (Value.slice s1.b s1.l s1.c))]
  (fun cur wo => decL [(4, .c .bool)] cur [] fun t => J1 t wo) w4.drew)) → X1 t1 w4) →
  X1 ((0 : Int), ()) w3))
def G_law2_CheckMixes (t : KTs [.c .slice, .c .slice]) (w : World) (K : Value → World → Prop) : Prop := F_law2_CheckMixes t.1 t.2.1 w fun (r0 : Bool) w1 => K (Value.bool r0) w1
abbrev T_law2_CheckMixes : Tr := fun args w K => decK [.c .slice, .c .slice] args fun t => G_law2_CheckMixes t w K
theorem S_law2_CheckMixes : Sound Try.prog 5 T_law2_CheckMixes := sound_of (fn := Try.f5) Try.func5 (by kernel_rfl) mixed (by kernel_rfl) (.s .n (.s .n (.s .n (.s .n (.s (.s .n (.b (.l [(7, .c (.int .i64))] [7, 24, 25, 26, 27, 28, 29, 30, 31, 32, 33, 34, 35, 36, 37, 38, 39, 40] (.s .n (.s (.b (.r (.fl 0 (.fl 1 (.fl 2 (.fl 3 (.fl 4 (.fl 5 (.fl 6 (.fl 7 (.fl 8 (.fl 9 (.fl 10 (.fl 11 (.mn 12 .fin .no))))))))))))))) .n))))) (.j [(4, .c .bool)] [4, 41, 42, 43, 44, 45, 46, 47, 48, 49, 50, 51, 52, 53, 54, 55, 56, 57, 58, 59, 60, 61, 62, 63] (.o [0, 1, 5, 6]) .n)))))) [(7, T_law2_awake), (9, T_check_Sum)] ⟨⟨by kernel_rfl, S_law2_awake⟩, ⟨by kernel_rfl, S_check_Sum⟩, trivial⟩ [.c .slice, .c .slice] (by kernel_rfl) G_law2_CheckMixes fun t w K => by kernel_rfl

end Go.Proofs.Ytllhelkaligbdaa
