import Derived.Test.YtjjgcimlmjnaeaaGreatA1
import Derived.Test.YtjjgcimlmjnaeaaGreatFBase
namespace Go.Proofs.YtjjgcimlmjnaeaaGreat
open Go Go.Den
set_option maxRecDepth 100000
/-- milepost/milepostref24.Round -/
def F_ref24_Round (k : Int) (n : Int) (w : World) (Q : Int → World → Prop) : Prop :=
  ¬ n = 0 ∧
  cond (decide ((Int.tmod k n) < (0 : Int)))
  (Q (IntKind.wrap .i64 ((Int.tmod k n) + n)) w)
  (Q (Int.tmod k n) w)
def G_ref24_Round (t : KTs [.c (.int .i64), .c (.int .i64)]) (w : World) (K : Value → World → Prop) : Prop := F_ref24_Round t.1 t.2.1 w fun (r0 : Int) w1 => K (Value.int .i64 r0) w1
abbrev T_ref24_Round : Tr := fun args w K => decK [.c (.int .i64), .c (.int .i64)] args fun t => G_ref24_Round t w K
theorem S_ref24_Round : Sound Tryz.prog 50 T_ref24_Round := sound_of (fn := Tryz.f50) Tryz.func50 (by kernel_rfl) mixed (by kernel_rfl) (.n) [] trivial [.c (.int .i64), .c (.int .i64)] (by kernel_rfl) G_ref24_Round fun t w K => by kernel_rfl

/-- milepost/milepostref24.at -/
def F_ref24_at (l : Sl) (i : Int) (n : Int) (w : World) (Q : Int → World → Prop) : Prop :=
  cond (((l.l : Nat) : Int) == (0 : Int))
  (Q (0 : Int) w)
  (¬ ((l.l : Nat) : Int) = 0 ∧
  (0 ≤ Int.tmod i ((l.l : Nat) : Int) ∧ Int.tmod i ((l.l : Nat) : Int) < ((l.l : Nat) : Int)) ∧
  onSome l.b fun a1 =>
  ld1 (.int .i64) w.drew (a1.add (Int.toNat (Int.tmod i ((l.l : Nat) : Int)) * 1)) fun (x1 : Int) =>
  ¬ (1000003 : Int) = 0 ∧
  ¬ ((l.l : Nat) : Int) = 0 ∧
  F_ref24_Round (IntKind.wrap .i64 ((Int.tmod x1 (1000003 : Int)) + (IntKind.wrap .i64 (Int.tdiv i ((l.l : Nat) : Int))))) n w.drew fun (x2 : Int) w1 =>
  Q x2 w1)
def G_ref24_at (t : KTs [.c .slice, .c (.int .i64), .c (.int .i64)]) (w : World) (K : Value → World → Prop) : Prop := F_ref24_at t.1 t.2.1 t.2.2.1 w fun (r0 : Int) w1 => K (Value.int .i64 r0) w1
abbrev T_ref24_at : Tr := fun args w K => decK [.c .slice, .c (.int .i64), .c (.int .i64)] args fun t => G_ref24_at t w K
theorem S_ref24_at : Sound Tryz.prog 52 T_ref24_at := sound_of (fn := Tryz.f52) Tryz.func52 (by kernel_rfl) mixed (by kernel_rfl) (.s .n (.s .n (.s (.r (.fl 0 (.fl 1 (.fl 2 (.fl 3 (.fl 4 (.fl 5 (.fl 6 (.fl 7 (.fl 8 (.fl 9 (.fl 10 (.fl 11 (.fl 12 (.fl 13 (.mn 14 (.fl 15 .fin) .no)))))))))))))))) .n))) [(50, T_ref24_Round)] ⟨⟨by kernel_rfl, S_ref24_Round⟩, trivial⟩ [.c .slice, .c (.int .i64), .c (.int .i64)] (by kernel_rfl) G_ref24_at fun t w K => by kernel_rfl

/-- milepost/milepostref24.Town -/
def F_ref24_Town (l : Sl) (w : World) (Q : (Sl × Sl × Sl × Unit) → World → Prop) : Prop :=
  allocD w #[Value.slice none 0 0, Value.slice none 0 0, Value.slice none 0 0] 28 fun a1 w1 =>
  allocD w1 #[Value.slice none 0 0, Value.slice none 0 0, Value.slice none 0 0] 28 fun a2 w2 =>
  F_ref24_at l (0 : Int) (4 : Int) w2 fun (x1 : Int) w3 =>
  F_ref24_at l (1 : Int) (4 : Int) w3 fun (x2 : Int) w4 =>
  ∀ X1 : (Int × Unit) → World → Prop, (∀ (t1 : Int × Unit) (w5 : World), (
  cond (decide (t1.1 < (IntKind.wrap .i64 ((IntKind.wrap .i64 ((1 : Int) + x1)) * (IntKind.wrap .i64 ((1 : Int) + x2))))))
  (ld1 .slice w5.drew (a2.add 0) fun (s1 : Sl) =>
  ¬ (IntKind.wrap .i64 ((1 : Int) + x1)) = 0 ∧
  ¬ (IntKind.wrap .i64 ((1 : Int) + x1)) = 0 ∧
  F_ref24_at l (IntKind.wrap .i64 ((2 : Int) + t1.1)) (30 : Int) w5.drew fun (x3 : Int) w6 =>
  w6.cell? (a2.add 0) = some (Value.slice s1.b s1.l s1.c) ∧
  allocD w6 #[Value.int .i64 (IntKind.wrap .i64 ((100 : Int) * (Int.tmod t1.1 (IntKind.wrap .i64 ((1 : Int) + x1))))), Value.int .i64 (IntKind.wrap .i64 ((IntKind.wrap .i64 ((100 : Int) * (IntKind.wrap .i64 (Int.tdiv t1.1 (IntKind.wrap .i64 ((1 : Int) + x1)))))) + x3))] 108 fun a3 w7 =>
  w7.cell? (a2.add 0) = some (Value.slice s1.b s1.l s1.c) ∧
  appendD Tryz.prog 24 24 s1 (Value.slice (some a3) 1 1) w7 fun (s2 : Sl) w8 =>
  storeD Tryz.prog 24 (a2.add 0) (Value.slice s2.b s2.l s2.c) w8 fun w9 =>
  X1 ((IntKind.wrap .i64 (t1.1 + (1 : Int))), ()) w9)
  (∀ X2 : (Int × Unit) → World → Prop, (∀ (t2 : Int × Unit) (w10 : World), (
  cond (decide (t2.1 < (IntKind.wrap .i64 ((IntKind.wrap .i64 ((1 : Int) + x1)) * (IntKind.wrap .i64 ((1 : Int) + x2))))))
  (allocD w10 #[Value.int .i64 (0 : Int), Value.int .i64 (0 : Int)] 109 fun a4 w11 =>
  storeD Tryz.prog 109 a4 (Value.agg #[(Value.int .i64 (-1 : Int)), (Value.int .i64 (-1 : Int))]) w11 fun w12 =>
  ∀ J1 : (Unit) → World → Prop, (∀ (t3 : Unit) (w13 : World), (
  ∀ J2 : (Unit) → World → Prop, (∀ (t4 : Unit) (w14 : World), (
  ∀ X3 : (Int × Unit) → World → Prop, (∀ (t5 : Int × Unit) (w15 : World), (
  cond (decide (t5.1 < (2 : Int)))
  ((0 ≤ t5.1 ∧ t5.1 < ((2 : Nat) : Int)) ∧
  ld1 (.int .i64) w15 (a4.add (Int.toNat t5.1 * 1)) fun (x4 : Int) =>
  cond (decide (x4 < (0 : Int)))
  (X3 ((IntKind.wrap .i64 (t5.1 + (1 : Int))), ()) w15)
  (F_ref24_at l (IntKind.wrap .i64 ((IntKind.wrap .i64 ((20 : Int) + (IntKind.wrap .i64 ((3 : Int) * t2.1)))) + t5.1)) (8 : Int) w15 fun (x5 : Int) w16 =>
  ∀ J3 : (Unit) → World → Prop, (∀ (t6 : Unit) (w17 : World), (
  cond (x5 != (2 : Int))
  (ld1 .slice w17.drew (a2.add 1) fun (s3 : Sl) =>
  (0 ≤ t5.1 ∧ t5.1 < ((2 : Nat) : Int)) ∧
  ld1 (.int .i64) w17.drew (a4.add (Int.toNat t5.1 * 1)) fun (x6 : Int) =>
  F_ref24_at l (IntKind.wrap .i64 ((IntKind.wrap .i64 ((90 : Int) + t2.1)) + t5.1)) (9 : Int) w17.drew fun (x7 : Int) w18 =>
  w18.cell? (a4.add (Int.toNat t5.1 * 1)) = some (Value.int .i64 x6) ∧
  w18.cell? (a2.add 1) = some (Value.slice s3.b s3.l s3.c) ∧
  allocD w18 #[Value.int .i64 x6, Value.int .i64 t2.1, Value.int .i64 (IntKind.wrap .i64 ((1 : Int) + x7))] 49 fun a5 w19 =>
  w19.cell? (a2.add 1) = some (Value.slice s3.b s3.l s3.c) ∧
  appendD Tryz.prog 25 25 s3 (Value.slice (some a5) 1 1) w19 fun (s4 : Sl) w20 =>
  storeD Tryz.prog 25 (a2.add 1) (Value.slice s4.b s4.l s4.c) w20 fun w21 =>
  X3 ((IntKind.wrap .i64 (t5.1 + (1 : Int))), ()) w21)
  (X3 ((IntKind.wrap .i64 (t5.1 + (1 : Int))), ()) w17)) → J3 t6 w17) →
  cond (x5 != (1 : Int))
  (ld1 .slice w16.drew (a2.add 1) fun (s5 : Sl) =>
  (0 ≤ t5.1 ∧ t5.1 < ((2 : Nat) : Int)) ∧
  ld1 (.int .i64) w16.drew (a4.add (Int.toNat t5.1 * 1)) fun (x8 : Int) =>
  F_ref24_at l (IntKind.wrap .i64 ((IntKind.wrap .i64 ((60 : Int) + t2.1)) + t5.1)) (9 : Int) w16.drew fun (x9 : Int) w22 =>
  w22.cell? (a4.add (Int.toNat t5.1 * 1)) = some (Value.int .i64 x8) ∧
  w22.cell? (a2.add 1) = some (Value.slice s5.b s5.l s5.c) ∧
  allocD w22 #[Value.int .i64 t2.1, Value.int .i64 x8, Value.int .i64 (IntKind.wrap .i64 ((1 : Int) + x9))] 49 fun a6 w23 =>
  w23.cell? (a2.add 1) = some (Value.slice s5.b s5.l s5.c) ∧
  appendD Tryz.prog 25 25 s5 (Value.slice (some a6) 1 1) w23 fun (s6 : Sl) w24 =>
  storeD Tryz.prog 25 (a2.add 1) (Value.slice s6.b s6.l s6.c) w24 fun w25 =>
  J3 (()) w25)
  (J3 (()) w16)))
  (X2 ((IntKind.wrap .i64 (t2.1 + (1 : Int))), ()) w15)) → X3 t5 w15) →
  X3 ((0 : Int), ()) w14) → J2 t4 w14) →
  ¬ (IntKind.wrap .i64 ((1 : Int) + x1)) = 0 ∧
  cond (decide ((IntKind.wrap .i64 (Int.tdiv t2.1 (IntKind.wrap .i64 ((1 : Int) + x1)))) < (IntKind.wrap .i64 ((IntKind.wrap .i64 ((1 : Int) + x2)) - (1 : Int)))))
  ((0 ≤ (1 : Int) ∧ (1 : Int) < ((2 : Nat) : Int)) ∧
  storeD Tryz.prog 3 (a4.add (Int.toNat (1 : Int) * 1)) (Value.int .i64 (IntKind.wrap .i64 (t2.1 + (IntKind.wrap .i64 ((1 : Int) + x1))))) w13 fun w26 =>
  J2 (()) w26)
  (J2 (()) w13)) → J1 t3 w13) →
  ¬ (IntKind.wrap .i64 ((1 : Int) + x1)) = 0 ∧
  cond (decide ((Int.tmod t2.1 (IntKind.wrap .i64 ((1 : Int) + x1))) < (IntKind.wrap .i64 ((IntKind.wrap .i64 ((1 : Int) + x1)) - (1 : Int)))))
  ((0 ≤ (0 : Int) ∧ (0 : Int) < ((2 : Nat) : Int)) ∧
  storeD Tryz.prog 3 (a4.add (Int.toNat (0 : Int) * 1)) (Value.int .i64 (IntKind.wrap .i64 (t2.1 + (1 : Int)))) w12 fun w27 =>
  J1 (()) w27)
  (J1 (()) w12))
  (∀ X4 : (Int × Unit) → World → Prop, (∀ (t7 : Int × Unit) (w28 : World), (
  F_ref24_at l (3 : Int) (4 : Int) w28 fun (x10 : Int) w29 =>
  cond (decide (t7.1 < x10))
  (ld1 .slice w29.drew (a2.add 1) fun (s7 : Sl) =>
  F_ref24_at l (IntKind.wrap .i64 ((4 : Int) + t7.1)) (IntKind.wrap .i64 ((IntKind.wrap .i64 ((1 : Int) + x1)) * (IntKind.wrap .i64 ((1 : Int) + x2)))) w29.drew fun (x11 : Int) w30 =>
  w30.cell? (a2.add 1) = some (Value.slice s7.b s7.l s7.c) ∧
  F_ref24_at l (IntKind.wrap .i64 ((8 : Int) + t7.1)) (IntKind.wrap .i64 ((IntKind.wrap .i64 ((1 : Int) + x1)) * (IntKind.wrap .i64 ((1 : Int) + x2)))) w30 fun (x12 : Int) w31 =>
  w31.cell? (a2.add 1) = some (Value.slice s7.b s7.l s7.c) ∧
  F_ref24_at l (IntKind.wrap .i64 ((12 : Int) + t7.1)) (40 : Int) w31 fun (x13 : Int) w32 =>
  w32.cell? (a2.add 1) = some (Value.slice s7.b s7.l s7.c) ∧
  allocD w32 #[Value.int .i64 x11, Value.int .i64 x12, Value.int .i64 (IntKind.wrap .i64 ((1 : Int) + x13))] 49 fun a7 w33 =>
  w33.cell? (a2.add 1) = some (Value.slice s7.b s7.l s7.c) ∧
  appendD Tryz.prog 25 25 s7 (Value.slice (some a7) 1 1) w33 fun (s8 : Sl) w34 =>
  storeD Tryz.prog 25 (a2.add 1) (Value.slice s8.b s8.l s8.c) w34 fun w35 =>
  X4 ((IntKind.wrap .i64 (t7.1 + (1 : Int))), ()) w35)
  (∀ J4 : (Unit) → World → Prop, (∀ (t8 : Unit) (w36 : World), (
  ∀ X5 : (Int × Unit) → World → Prop, (∀ (t9 : Int × Unit) (w37 : World), (
  ld1 .slice w37 (a2.add 1) fun (s9 : Sl) =>
  cond (decide (t9.1 < ((s9.l : Nat) : Int)))
  (∀ X6 : (Int × Unit) → World → Prop, (∀ (t10 : Int × Unit) (w38 : World), (
  ld1 .slice w38 (a2.add 1) fun (s10 : Sl) =>
  cond (decide (t10.1 < ((s10.l : Nat) : Int)))
  (ld1 .slice w38.drew (a2.add 1) fun (s11 : Sl) =>
  (0 ≤ t9.1 ∧ t9.1 < ((s11.l : Nat) : Int)) ∧
  onSome s11.b fun a8 =>
  ld1 (.int .i64) w38.drew ((a8.add (Int.toNat t9.1 * 3)).add 1) fun (x14 : Int) =>
  ld1 .slice w38.drew (a2.add 1) fun (s12 : Sl) =>
  (0 ≤ t10.1 ∧ t10.1 < ((s12.l : Nat) : Int)) ∧
  onSome s12.b fun a9 =>
  ld1 (.int .i64) w38.drew ((a9.add (Int.toNat t10.1 * 3)).add 0) fun (x15 : Int) =>
  cond (x14 == x15)
  (F_ref24_at l (IntKind.wrap .i64 ((IntKind.wrap .i64 ((7 : Int) * t9.1)) + t10.1)) (9 : Int) w38.drew fun (x16 : Int) w39 =>
  cond (x16 == (0 : Int))
  (ld1 .slice w39 (a2.add 2) fun (s13 : Sl) =>
  allocD w39 #[Value.int .i64 t9.1, Value.int .i64 t10.1] 111 fun a10 w40 =>
  appendD Tryz.prog 26 26 s13 (Value.slice (some a10) 1 1) w40 fun (s14 : Sl) w41 =>
  storeD Tryz.prog 26 (a2.add 2) (Value.slice s14.b s14.l s14.c) w41 fun w42 =>
  X6 ((IntKind.wrap .i64 (t10.1 + (1 : Int))), ()) w42)
  (X6 ((IntKind.wrap .i64 (t10.1 + (1 : Int))), ()) w39))
  (X6 ((IntKind.wrap .i64 (t10.1 + (1 : Int))), ()) w38.drew))
  (X5 ((IntKind.wrap .i64 (t9.1 + (1 : Int))), ()) w38)) → X6 t10 w38) →
  X6 ((0 : Int), ()) w37)
  (ldN [.slice, .slice, .slice] w37 a2 fun (t11 : Sl × Sl × Sl × Unit) =>
  storeD Tryz.prog 28 a1 (Value.agg #[(Value.slice t11.1.b t11.1.l t11.1.c), (Value.slice t11.2.1.b t11.2.1.l t11.2.1.c), (Value.slice t11.2.2.1.b t11.2.2.1.l t11.2.2.1.c)]) w37 fun w43 =>
  ldN [.slice, .slice, .slice] w43 a1 fun (t12 : Sl × Sl × Sl × Unit) =>
  Q (t12.1, t12.2.1, t12.2.2.1, ()) w43)) → X5 t9 w37) →
  X5 ((0 : Int), ()) w36) → J4 t8 w36) →
  ld1 .slice w29 (a2.add 1) fun (s15 : Sl) =>
  cond (((s15.l : Nat) : Int) == (0 : Int))
  (allocD w29 #[Value.int .i64 (0 : Int), Value.int .i64 (0 : Int), Value.int .i64 (3 : Int)] 49 fun a11 w44 =>
  storeD Tryz.prog 25 (a2.add 1) (Value.slice (some a11) 1 1) w44 fun w45 =>
  J4 (()) w45)
  (J4 (()) w29))) → X4 t7 w28) →
  X4 ((0 : Int), ()) w10)) → X2 t2 w10) →
  X2 ((0 : Int), ()) w5)) → X1 t1 w5) →
  X1 ((0 : Int), ()) w4
def G_ref24_Town (t : KTs [.c .slice]) (w : World) (K : Value → World → Prop) : Prop := F_ref24_Town t.1 w fun (r0 : Sl × Sl × Sl × Unit) w1 => K (Value.agg #[(Value.slice r0.1.b r0.1.l r0.1.c), (Value.slice r0.2.1.b r0.2.1.l r0.2.1.c), (Value.slice r0.2.2.1.b r0.2.2.1.l r0.2.2.1.c)]) w1
abbrev T_ref24_Town : Tr := fun args w K => decK [.c .slice] args fun t => G_ref24_Town t w K
theorem S_ref24_Town : Sound Tryz.prog 31 T_ref24_Town := sound_of (fn := Tryz.f31) Tryz.func31 (by kernel_rfl) mixed (by kernel_rfl) (.s .n (.s .n (.s .n (.s (.s .n (.b (.l [(6, .c (.int .i64))] [6, 20, 21, 22, 23, 24, 25, 26, 27, 28, 29, 30, 31, 32, 33, 34, 35, 36, 37, 38, 39, 40, 41, 42, 43, 44, 45] (.s .n (.s (.b (.r (.fl 0 (.fl 1 (.fl 2 (.fl 3 (.fl 4 (.fl 5 (.fl 6 (.fl 7 (.fl 8 (.fl 9 (.fl 10 (.fl 11 (.fl 12 (.mn 13 (.fl 14 (.fl 15 (.mn 16 (.mn 17 (.fl 18 (.mn 19 .fin .no)) .no) .no))) .no)))))))))))))))) .n))))) (.s (.s .n (.b (.l [(7, .c (.int .i64))] [7, 8, 9, 10, 46, 47, 48, 49, 50, 51, 52, 53, 54, 55, 56, 57, 58, 59, 60, 61, 62, 63, 64, 65, 66, 67, 68, 69, 70, 71, 72, 73, 74, 75, 76, 77, 78, 79, 80, 81, 82, 83, 84, 85, 86, 87, 88, 89, 90, 91, 92, 93, 94, 95, 96, 97, 98, 99, 100, 101, 102, 103, 104, 105, 106, 107, 108, 109, 110, 111, 112, 113, 114, 115, 116, 117, 118, 119, 120, 121, 122, 123, 124, 125] (.s .n (.s (.b (.s .n (.j [] [54, 55, 56, 57, 58, 59, 60, 61, 62] .n (.j [] [63, 64, 65, 66, 67, 68, 69, 70, 71, 72] .n (.s .n (.b (.l [(9, .c (.int .i64))] [9, 10, 73, 74, 75, 76, 77, 78, 79, 80, 81, 82, 83, 84, 85, 86, 87, 88, 89, 90, 91, 92, 93, 94, 95, 96, 97, 98, 99, 100, 101, 102, 103, 104, 105, 106, 107, 108, 109, 110, 111, 112, 113, 114, 115, 116, 117, 118, 119, 120, 121, 122, 123, 124, 125] (.s .n (.s (.b (.s .n (.s .n (.j [] [88, 89, 90, 91, 92, 93, 94, 95, 96, 97, 98, 99, 100, 101, 102, 103, 104, 105, 106] (.s .n (.c (.r (.fl 0 (.fl 1 (.fl 2 (.fl 3 (.fl 4 (.fl 5 (.fl 6 (.fl 7 (.fl 8 (.fl 9 (.fl 10 (.mn 11 (.fl 12 (.fl 13 (.mn 14 (.mn 15 (.fl 16 (.mn 17 .fin .no)) .no) .no))) .no))))))))))))) .n)) (.s .n (.c (.r (.fl 0 (.fl 1 (.fl 2 (.fl 3 (.fl 4 (.fl 5 (.fl 6 (.fl 7 (.fl 8 (.fl 9 (.fl 10 (.mn 11 (.fl 12 (.fl 13 (.mn 14 (.mn 15 (.fl 16 (.mn 17 .fin .no)) .no) .no))) .no))))))))))))) .n)))))) .n))))))))) .n))))) (.s (.s .n (.b (.l [(11, .c (.int .i64))] [11, 126, 127, 128, 129, 130, 131, 132, 133, 134, 135, 136, 137, 138, 139, 140, 141, 142, 143, 144, 145, 146, 147, 148, 149, 150, 151, 152, 153, 154, 155, 156] (.s .n (.s (.b (.r (.fl 0 (.fl 1 (.fl 2 (.fl 3 (.fl 4 (.fl 5 (.fl 6 (.fl 7 (.fl 9 (.fl 10 (.fl 11 (.fl 12 (.fl 13 (.fl 14 (.fl 16 (.fl 17 (.fl 18 (.mn 8 (.mn 15 (.mn 19 (.fl 20 (.fl 21 (.mn 22 (.mn 23 (.fl 24 (.mn 25 .fin .no)) .no) .no))) .no) .no) .no)))))))))))))))))))) .n))))) (.j [] [157, 158, 159, 160, 161, 162, 163] .n (.s (.s .n (.b (.l [(12, .c (.int .i64))] [12, 13, 164, 165, 166, 167, 168, 169, 170, 171, 172, 173, 174, 175, 176, 177, 178, 179, 180, 181, 182, 183, 184, 185, 186, 187, 188, 189, 190, 191, 192, 193, 194, 195, 196, 197, 198, 199, 200, 201, 202, 203, 204, 205, 206, 207] (.s .n (.s (.b (.s .n (.b (.l [(13, .c (.int .i64))] [13, 171, 172, 173, 174, 175, 176, 177, 178, 179, 180, 181, 182, 183, 184, 185, 186, 187, 188, 189, 190, 191, 192, 193, 194, 195, 196, 197, 198, 199, 200, 201, 202, 203, 204, 205, 206, 207] (.s .n (.s (.b (.s (.r (.fl 0 (.fl 1 (.fl 2 (.fl 3 (.fl 4 (.fl 5 (.fl 6 (.fl 7 (.fl 8 (.fl 9 (.fl 10 (.fl 11 (.fl 12 (.fl 13 (.fl 14 (.fl 15 (.fl 16 (.fl 17 (.fl 18 (.mn 19 (.fl 20 (.fl 21 .fin)) .no))))))))))))))))))))) .n)) .n)))))) .n))))) .n)))))))) [(52, T_ref24_at)] ⟨⟨by kernel_rfl, S_ref24_at⟩, trivial⟩ [.c .slice] (by kernel_rfl) G_ref24_Town fun t w K => by kernel_rfl

end Go.Proofs.YtjjgcimlmjnaeaaGreat
