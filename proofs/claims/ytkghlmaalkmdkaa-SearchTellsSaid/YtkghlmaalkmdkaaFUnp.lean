import Derived.Test.YtkghlmaalkmdkaaA1
import Derived.Test.YtkghlmaalkmdkaaFBase
import Derived.Test.YtkghlmaalkmdkaaFNet
namespace Go.Proofs.Ytkghlmaalkmdkaa
open Go Go.Den
set_option maxRecDepth 100000
/-- slices.Clone[[]int,int] -/
def F_slices_Clone_sint_int (s : Sl) (w : World) (Q : Sl → World → Prop) : Prop :=
  cond (Option.isNone s.b)
  (Q ⟨none, 0, 0⟩ w)
  (allocD w #[] 3 fun a1 w1 =>
  appendD Try.prog 23 23 ⟨(some a1), 0, 0⟩ (Value.slice s.b s.l s.c) w1 fun (s1 : Sl) w2 =>
  Q s1 w2)
def G_slices_Clone_sint_int (t : KTs [.c .slice]) (w : World) (K : Value → World → Prop) : Prop := F_slices_Clone_sint_int t.1 w fun (r0 : Sl) w1 => K (Value.slice r0.b r0.l r0.c) w1
abbrev T_slices_Clone_sint_int : Tr := fun args w K => decK [.c .slice] args fun t => G_slices_Clone_sint_int t w K
theorem S_slices_Clone_sint_int : Sound Try.prog 50 T_slices_Clone_sint_int := sound_of (fn := Try.f50) Try.func50 (by kernel_rfl) mixed (by kernel_rfl) (.n) [] trivial [.c .slice] (by kernel_rfl) G_slices_Clone_sint_int fun t w K => by kernel_rfl

/-- milepost/unpack.Arc -/
def F_unpack_Arc (l : Option Addr) (from_ : Int) (to : Int) (w : World) (Q : Sl → Int → World → Prop) : Prop :=
  cond (Option.isNone l)
  (Q ⟨none, 0, 0⟩ (4 : Int) w)
  (allocD w #[Value.int .i64 from_] 3 fun a1 w1 =>
  allocD w1 #[Value.int .i64 from_, Value.int .i64 to] 110 fun a2 w2 =>
  onSome l fun a3 =>
  ld1 .ptr w2 (a3.add 0) fun (p1 : Option Addr) =>
  F_net_Net_Len p1 w2 fun (x1 : Int) w3 =>
  ∀ X1 : (Sl × Sl × Int × Unit) → World → Prop, (∀ (t1 : Sl × Sl × Int × Unit) (w4 : World), (
  cond (decide (((t1.2.1.l : Nat) : Int) > (0 : Int)))
  ((0 ≤ IntKind.wrap .i64 (((t1.2.1.l : Nat) : Int) - (1 : Int)) ∧ IntKind.wrap .i64 (((t1.2.1.l : Nat) : Int) - (1 : Int)) < ((t1.2.1.l : Nat) : Int)) ∧
  onSome t1.2.1.b fun a4 =>
  ldN [.int .i64, .int .i64] w4 (a4.add (Int.toNat (IntKind.wrap .i64 (((t1.2.1.l : Nat) : Int) - (1 : Int))) * 2)) fun (t2 : Int × Int × Unit) =>
  allocD w4 #[Value.int .i64 (0 : Int), Value.int .i64 (0 : Int)] 110 fun a5 w5 =>
  storeD Try.prog 110 a5 (Value.agg #[(Value.int .i64 t2.1), (Value.int .i64 t2.2.1)]) w5 fun w6 =>
  (0 ≤ IntKind.wrap .i64 (((t1.2.1.l : Nat) : Int) - (1 : Int)) ∧ IntKind.wrap .i64 (((t1.2.1.l : Nat) : Int) - (1 : Int)) ≤ ((t1.2.1.c : Nat) : Int)) ∧
  ∀ J1 : ((Option Addr) × Bool × Unit) → World → Prop, (∀ (t3 : (Option Addr) × Bool × Unit) (w7 : World), (
  cond (!t3.2.1)
  (Q ⟨none, 0, 0⟩ (4 : Int) w7)
  (cond (decide (t1.2.2.1 < (0 : Int)))
  (Q ⟨none, 0, 0⟩ (4 : Int) w7)
  (onSome t3.1 fun a6 =>
  ld1 (.int .i64) w7 (a6.add 3) fun (x2 : Int) =>
  cond (decide (x2 < (0 : Int)))
  (onSome t3.1 fun a7 =>
  ld1 (.int .i64) w7 (a7.add 1) fun (x3 : Int) =>
  allocD w7 #[Value.int .i64 x3] 3 fun a8 w8 =>
  appendD Try.prog 23 23 t1.1 (Value.slice (some a8) 1 1) w8 fun (s1 : Sl) w9 =>
  X1 (s1, ⟨(sliceAddr t1.2.1.b t1.2.1.c 0 2), ((Int.toNat (IntKind.wrap .i64 (((t1.2.1.l : Nat) : Int) - (1 : Int)))) - 0), (t1.2.1.c - 0)⟩, (IntKind.wrap .i64 (t1.2.2.1 - (1 : Int))), ()) w9)
  (onSome t3.1 fun a9 =>
  ld1 (.int .i64) w7 (a9.add 3) fun (x4 : Int) =>
  onSome t3.1 fun a10 =>
  ld1 (.int .i64) w7 (a10.add 1) fun (x5 : Int) =>
  onSome t3.1 fun a11 =>
  ld1 (.int .i64) w7 (a11.add 0) fun (x6 : Int) =>
  onSome t3.1 fun a12 =>
  ld1 (.int .i64) w7 (a12.add 3) fun (x7 : Int) =>
  allocD w7 #[Value.int .i64 x4, Value.int .i64 x5, Value.int .i64 x6, Value.int .i64 x7] 110 fun a13 w10 =>
  appendD Try.prog 111 111 ⟨(sliceAddr t1.2.1.b t1.2.1.c 0 2), ((Int.toNat (IntKind.wrap .i64 (((t1.2.1.l : Nat) : Int) - (1 : Int)))) - 0), (t1.2.1.c - 0)⟩ (Value.slice (some a13) 2 2) w10 fun (s2 : Sl) w11 =>
  X1 (t1.1, s2, (IntKind.wrap .i64 (t1.2.2.1 - (1 : Int))), ()) w11)))) → J1 t3 w7) →
  onSome l fun a14 =>
  ld1 .ptr w6.drew (a14.add 0) fun (p2 : Option Addr) =>
  (0 ≤ (0 : Int) ∧ (0 : Int) < ((2 : Nat) : Int)) ∧
  ld1 (.int .i64) w6.drew (a5.add (Int.toNat (0 : Int) * 1)) fun (x8 : Int) =>
  (0 ≤ (1 : Int) ∧ (1 : Int) < ((2 : Nat) : Int)) ∧
  ld1 (.int .i64) w6.drew (a5.add (Int.toNat (1 : Int) * 1)) fun (x9 : Int) =>
  (F_net_Net_Arc p2 x8 x9 w6.drew fun (t4 : Int × Int × Int × Int × Unit) (b1 : Bool) w12 =>
  allocD w12 #[Value.int .i64 (0 : Int), Value.int .i64 (0 : Int), Value.int .i64 (0 : Int), Value.int .i64 (0 : Int)] 38 fun a15 w13 =>
  storeD Try.prog 38 a15 (Value.agg #[(Value.int .i64 t4.1), (Value.int .i64 t4.2.1), (Value.int .i64 t4.2.2.1), (Value.int .i64 t4.2.2.2.1)]) w13 fun w14 =>
  J1 ((some a15), b1, ()) w14) ∧
  (allocD w6.drew #[Value.int .i64 (0 : Int), Value.int .i64 (0 : Int), Value.int .i64 (0 : Int), Value.int .i64 (0 : Int)] 38 fun a16 w15 =>
  w15.cell? (a5.add (Int.toNat (1 : Int) * 1)) = some (Value.int .i64 x9) ∧
  w15.cell? (a5.add (Int.toNat (0 : Int) * 1)) = some (Value.int .i64 x8) ∧
  w15.cell? (a14.add 0) = some (Value.pointer p2) ∧
  F_net_Net_Arc p2 x8 x9 w15 fun (t5 : Int × Int × Int × Int × Unit) (b2 : Bool) w16 =>
  storeD Try.prog 38 a16 (Value.agg #[(Value.int .i64 t5.1), (Value.int .i64 t5.2.1), (Value.int .i64 t5.2.2.1), (Value.int .i64 t5.2.2.2.1)]) w16 fun w17 =>
  J1 ((some a16), b2, ()) w17))
  (Q t1.1 (0 : Int) w4)) → X1 t1 w4) →
  X1 (⟨(some a1), 1, 1⟩, ⟨(some a2), 1, 1⟩, (IntKind.wrap .i64 ((2 : Int) * x1)), ()) w3)
def G_unpack_Arc (t : KTs [.c .ptr, .c (.int .i64), .c (.int .i64)]) (w : World) (K : Value → World → Prop) : Prop := F_unpack_Arc t.1 t.2.1 t.2.2.1 w fun (r0 : Sl) (r1 : Int) w1 => K (Value.tuple #[(Value.slice r0.b r0.l r0.c), (Value.int .i64 r1)]) w1
abbrev T_unpack_Arc : Tr := fun args w K => decK [.c .ptr, .c (.int .i64), .c (.int .i64)] args fun t => G_unpack_Arc t w K
theorem S_unpack_Arc : Sound Try.prog 51 T_unpack_Arc := sound_of (fn := Try.f51) Try.func51 (by kernel_rfl) mixed (by kernel_rfl) (.s .n (.s .n (.s .n (.s (.s .n (.b (.l [(8, .c .slice), (9, .c .slice), (10, .c (.int .i64))] [6, 7, 8, 9, 10, 11, 12, 13, 28, 29, 30, 31, 32, 33, 34, 35, 36, 37, 38, 39, 40, 41, 42, 43, 44, 45, 46, 47, 48, 49, 50, 51, 52, 53, 54, 55, 56, 57, 58, 59, 60, 61, 62, 63, 64, 65, 66, 67, 68, 69, 70, 71, 72, 73, 74, 75, 76, 77, 78, 79, 80, 81, 82, 83, 84] (.s .n (.s (.b (.s .n (.s .n (.j [(12, .c .ptr), (13, .c .bool)] [12, 13, 44, 45, 46, 47, 48, 49, 50, 51, 52, 53, 54, 55] (.r (.fl 0 (.fl 1 (.fl 2 (.fl 3 (.fl 4 (.fl 5 (.fl 6 (.fl 7 (.mn 8 (.fl 9 (.fl 10 (.fl 11 (.mn 12 (.mn 13 (.fl 14 .fin) .no) .no)))) (.mn 12 (.mn 8 (.fl 9 (.fl 10 (.fl 11 (.mn 13 (.fl 14 .fin) .no)))) .no) .no))))))))))) .n)))) .n))))) .n)))) [(35, T_net_Net_Len), (77, T_net_Net_Arc)] ⟨⟨by kernel_rfl, S_net_Net_Len⟩, ⟨by kernel_rfl, S_net_Net_Arc⟩, trivial⟩ [.c .ptr, .c (.int .i64), .c (.int .i64)] (by kernel_rfl) G_unpack_Arc fun t w K => by kernel_rfl

/-- milepost/unpack.Row -/
def F_unpack_Row (l : Option Addr) (stops : Sl) (w : World) (Q : Sl → Int → World → Prop) : Prop :=
  (0 ≤ minInt (1 : Int) ((stops.l : Nat) : Int) ∧ minInt (1 : Int) ((stops.l : Nat) : Int) ≤ ((stops.c : Nat) : Int)) ∧
  F_slices_Clone_sint_int ⟨(sliceAddr stops.b stops.c 0 1), ((Int.toNat (minInt (1 : Int) ((stops.l : Nat) : Int))) - 0), (stops.c - 0)⟩ w fun (s1 : Sl) w1 =>
  ∀ X1 : (Sl × Int × Unit) → World → Prop, (∀ (t1 : Sl × Int × Unit) (w2 : World), (
  cond (decide (t1.2.1 < ((stops.l : Nat) : Int)))
  ((0 ≤ IntKind.wrap .i64 (t1.2.1 - (1 : Int)) ∧ IntKind.wrap .i64 (t1.2.1 - (1 : Int)) < ((stops.l : Nat) : Int)) ∧
  onSome stops.b fun a1 =>
  ld1 (.int .i64) w2.drew (a1.add (Int.toNat (IntKind.wrap .i64 (t1.2.1 - (1 : Int))) * 1)) fun (x1 : Int) =>
  (0 ≤ t1.2.1 ∧ t1.2.1 < ((stops.l : Nat) : Int)) ∧
  onSome stops.b fun a2 =>
  ld1 (.int .i64) w2.drew (a2.add (Int.toNat t1.2.1 * 1)) fun (x2 : Int) =>
  F_unpack_Arc l x1 x2 w2.drew fun (s2 : Sl) (x3 : Int) w3 =>
  cond (x3 != (0 : Int))
  (Q ⟨none, 0, 0⟩ x3 w3)
  ((0 ≤ (1 : Int) ∧ (1 : Int) ≤ ((s2.l : Nat) : Int)) ∧
  appendD Try.prog 23 23 t1.1 (Value.slice (sliceAddr s2.b s2.c (Int.toNat (1 : Int)) 1) (s2.l - (Int.toNat (1 : Int))) (s2.c - (Int.toNat (1 : Int)))) w3 fun (s3 : Sl) w4 =>
  X1 (s3, (IntKind.wrap .i64 (t1.2.1 + (1 : Int))), ()) w4))
  (Q t1.1 (0 : Int) w2)) → X1 t1 w2) →
  X1 (s1, (1 : Int), ()) w1
def G_unpack_Row (t : KTs [.c .ptr, .c .slice]) (w : World) (K : Value → World → Prop) : Prop := F_unpack_Row t.1 t.2.1 w fun (r0 : Sl) (r1 : Int) w1 => K (Value.tuple #[(Value.slice r0.b r0.l r0.c), (Value.int .i64 r1)]) w1
abbrev T_unpack_Row : Tr := fun args w K => decK [.c .ptr, .c .slice] args fun t => G_unpack_Row t w K
theorem S_unpack_Row : Sound Try.prog 29 T_unpack_Row := sound_of (fn := Try.f29) Try.func29 (by kernel_rfl) mixed (by kernel_rfl) (.s .n (.s .n (.s (.s .n (.b (.l [(6, .c .slice), (7, .c (.int .i64))] [4, 5, 6, 7, 8, 9, 16, 17, 18, 19, 20, 21, 22, 23, 24, 25, 26, 27, 28, 29, 30, 31, 32, 33, 34, 35, 36, 37, 38, 39, 40, 41, 42] (.s .n (.s (.b (.s (.r (.fl 0 (.fl 1 (.fl 2 (.fl 3 (.fl 4 (.fl 5 (.fl 6 (.fl 7 (.fl 8 (.fl 9 (.mn 10 (.fl 11 (.fl 12 (.fl 13 (.fl 14 (.fl 15 .fin))))) .no)))))))))))) .n)) .n))))) .n))) [(50, T_slices_Clone_sint_int), (51, T_unpack_Arc)] ⟨⟨by kernel_rfl, S_slices_Clone_sint_int⟩, ⟨by kernel_rfl, S_unpack_Arc⟩, trivial⟩ [.c .ptr, .c .slice] (by kernel_rfl) G_unpack_Row fun t w K => by kernel_rfl

end Go.Proofs.Ytkghlmaalkmdkaa
