import Derived.Test.YtkghlmaalkmdkaaA1
import Derived.Test.YtkghlmaalkmdkaaFBase
import Derived.Test.YtkghlmaalkmdkaaFNet
import Derived.Test.YtkghlmaalkmdkaaFHeap
namespace Go.Proofs.Ytkghlmaalkmdkaa
open Go Go.Den
set_option maxRecDepth 100000
/-- (*milepost/milepostref4.Net).All -/
def F_ref4_Net_All (t : Option Addr) (from_ : Int) (w : World) (Q : Sl → World → Prop) : Prop :=
  onSome t fun a1 =>
  ld1 (.int .i64) w (a1.add 0) fun (x1 : Int) =>
  makeSliceD Try.prog 23 (Value.int .i64 x1) (Value.int .i64 x1) w fun (s1 : Sl) w1 =>
  ∀ X1 : (Int × Unit) → World → Prop, (∀ (t1 : Int × Unit) (w2 : World), (
  onSome t fun a2 =>
  ld1 (.int .i64) w2 (a2.add 0) fun (x2 : Int) =>
  cond (decide (t1.1 < x2))
  ((0 ≤ t1.1 ∧ t1.1 < ((s1.l : Nat) : Int)) ∧
  onSome s1.b fun a3 =>
  storeD Try.prog 3 (a3.add (Int.toNat t1.1 * 1)) (Value.int .i64 (-1 : Int)) w2 fun w3 =>
  X1 ((IntKind.wrap .i64 (t1.1 + (1 : Int))), ()) w3)
  (onSome t fun a4 =>
  ld1 (.int .i64) w2 (a4.add 0) fun (x3 : Int) =>
  F_ref4_within from_ (0 : Int) (IntKind.wrap .i64 (x3 - (1 : Int))) w2 fun (b1 : Bool) w4 =>
  cond (!b1)
  (Q s1 w4)
  ((0 ≤ from_ ∧ from_ < ((s1.l : Nat) : Int)) ∧
  onSome s1.b fun a5 =>
  storeD Try.prog 3 (a5.add (Int.toNat from_ * 1)) (Value.int .i64 (0 : Int)) w4 fun w5 =>
  ∀ X2 : (Bool × Unit) → World → Prop, (∀ (t2 : Bool × Unit) (w6 : World), (
  cond t2.1
  (∀ X3 : (Bool × Int × Unit) → World → Prop, (∀ (t3 : Bool × Int × Unit) (w7 : World), (
  onSome t fun a6 =>
  ld1 .slice w7 (a6.add 1) fun (s2 : Sl) =>
  cond (decide (t3.2.1 < ((s2.l : Nat) : Int)))
  (onSome t fun a7 =>
  ld1 .slice w7 (a7.add 1) fun (s3 : Sl) =>
  (0 ≤ t3.2.1 ∧ t3.2.1 < ((s3.l : Nat) : Int)) ∧
  onSome s3.b fun a8 =>
  ldN [.int .i64, .int .i64, .int .i64, .int .i64] w7 (a8.add (Int.toNat t3.2.1 * 4)) fun (t4 : Int × Int × Int × Int × Unit) =>
  allocD w7 #[Value.int .i64 (0 : Int), Value.int .i64 (0 : Int), Value.int .i64 (0 : Int), Value.int .i64 (0 : Int)] 38 fun a9 w8 =>
  storeD Try.prog 38 a9 (Value.agg #[(Value.int .i64 t4.1), (Value.int .i64 t4.2.1), (Value.int .i64 t4.2.2.1), (Value.int .i64 t4.2.2.2.1)]) w8 fun w9 =>
  ld1 (.int .i64) w9.drew (a9.add 0) fun (x4 : Int) =>
  (0 ≤ x4 ∧ x4 < ((s1.l : Nat) : Int)) ∧
  onSome s1.b fun a10 =>
  ld1 (.int .i64) w9.drew (a10.add (Int.toNat x4 * 1)) fun (x5 : Int) =>
  cond (decide (x5 ≥ (0 : Int)))
  (ld1 (.int .i64) w9.drew (a9.add 1) fun (x6 : Int) =>
  (0 ≤ x6 ∧ x6 < ((s1.l : Nat) : Int)) ∧
  onSome s1.b fun a11 =>
  ld1 (.int .i64) w9.drew (a11.add (Int.toNat x6 * 1)) fun (x7 : Int) =>
  cond (decide (x7 < (0 : Int)))
  (ld1 (.int .i64) w9.drew.drew (a9.add 1) fun (x8 : Int) =>
  ld1 (.int .i64) w9.drew.drew (a9.add 0) fun (x9 : Int) =>
  (0 ≤ x9 ∧ x9 < ((s1.l : Nat) : Int)) ∧
  onSome s1.b fun a12 =>
  ld1 (.int .i64) w9.drew.drew (a12.add (Int.toNat x9 * 1)) fun (x10 : Int) =>
  ld1 (.int .i64) w9.drew.drew (a9.add 2) fun (x11 : Int) =>
  (0 ≤ x8 ∧ x8 < ((s1.l : Nat) : Int)) ∧
  onSome s1.b fun a13 =>
  storeD Try.prog 3 (a13.add (Int.toNat x8 * 1)) (Value.int .i64 (IntKind.wrap .i64 (x10 + x11))) w9.drew.drew fun w10 =>
  X3 (true, (IntKind.wrap .i64 (t3.2.1 + (1 : Int))), ()) w10)
  (ld1 (.int .i64) w9.drew (a9.add 1) fun (x12 : Int) =>
  (0 ≤ x12 ∧ x12 < ((s1.l : Nat) : Int)) ∧
  onSome s1.b fun a14 =>
  ld1 (.int .i64) w9.drew (a14.add (Int.toNat x12 * 1)) fun (x13 : Int) =>
  ld1 (.int .i64) w9.drew (a9.add 0) fun (x14 : Int) =>
  (0 ≤ x14 ∧ x14 < ((s1.l : Nat) : Int)) ∧
  onSome s1.b fun a15 =>
  ld1 (.int .i64) w9.drew (a15.add (Int.toNat x14 * 1)) fun (x15 : Int) =>
  ld1 (.int .i64) w9.drew (a9.add 2) fun (x16 : Int) =>
  cond (decide (x13 > (IntKind.wrap .i64 (x15 + x16))))
  (ld1 (.int .i64) w9.drew.drew (a9.add 1) fun (x17 : Int) =>
  ld1 (.int .i64) w9.drew.drew (a9.add 0) fun (x18 : Int) =>
  (0 ≤ x18 ∧ x18 < ((s1.l : Nat) : Int)) ∧
  onSome s1.b fun a16 =>
  ld1 (.int .i64) w9.drew.drew (a16.add (Int.toNat x18 * 1)) fun (x19 : Int) =>
  ld1 (.int .i64) w9.drew.drew (a9.add 2) fun (x20 : Int) =>
  (0 ≤ x17 ∧ x17 < ((s1.l : Nat) : Int)) ∧
  onSome s1.b fun a17 =>
  storeD Try.prog 3 (a17.add (Int.toNat x17 * 1)) (Value.int .i64 (IntKind.wrap .i64 (x19 + x20))) w9.drew.drew fun w11 =>
  X3 (true, (IntKind.wrap .i64 (t3.2.1 + (1 : Int))), ()) w11)
  (X3 (t3.1, (IntKind.wrap .i64 (t3.2.1 + (1 : Int))), ()) w9.drew)))
  (X3 (t3.1, (IntKind.wrap .i64 (t3.2.1 + (1 : Int))), ()) w9.drew))
  (X2 (t3.1, ()) w7)) → X3 t3 w7) →
  X3 (false, (0 : Int), ()) w6)
  (Q s1 w6)) → X2 t2 w6) →
  X2 (true, ()) w5))) → X1 t1 w2) →
  X1 ((0 : Int), ()) w1
def G_ref4_Net_All (t : KTs [.c .ptr, .c (.int .i64)]) (w : World) (K : Value → World → Prop) : Prop := F_ref4_Net_All t.1 t.2.1 w fun (r0 : Sl) w1 => K (Value.slice r0.b r0.l r0.c) w1
abbrev T_ref4_Net_All : Tr := fun args w K => decK [.c .ptr, .c (.int .i64)] args fun t => G_ref4_Net_All t w K
theorem S_ref4_Net_All : Sound Try.prog 10 T_ref4_Net_All := sound_of (fn := Try.f10) Try.func10 (by kernel_rfl) mixed (by kernel_rfl) (.s .n (.s .n (.s (.s .n (.b (.l [(6, .c (.int .i64))] [6, 15, 16, 17, 18, 19, 20, 21, 22, 23, 24, 25] .n))) (.s .n (.s .n (.s (.s .n (.b (.l [(7, .c .bool)] [7, 8, 9, 38, 39, 40, 41, 42, 43, 44, 45, 46, 47, 48, 49, 50, 51, 52, 53, 54, 55, 56, 57, 58, 59, 60, 61, 62, 63, 64, 65, 66, 67, 68, 69, 70, 71, 72, 73, 74, 75, 76, 77, 78, 79, 80, 81, 82, 83, 84, 85, 86, 87, 88, 89, 90, 91, 92, 93, 94, 95, 96] (.s .n (.b (.s .n (.s .n (.b (.l [(7, .c .bool), (8, .c (.int .i64))] [7, 8, 9, 39, 40, 41, 42, 43, 44, 45, 46, 47, 48, 49, 50, 51, 52, 53, 54, 55, 56, 57, 58, 59, 60, 61, 62, 63, 64, 65, 66, 67, 68, 69, 70, 71, 72, 73, 74, 75, 76, 77, 78, 79, 80, 81, 82, 83, 84, 85, 86, 87, 88, 89, 90, 91, 92, 93, 94, 95, 96] (.s .n (.s (.b (.s .n (.s (.r (.fl 0 (.fl 1 (.fl 2 (.fl 3 (.fl 4 (.fl 5 (.fl 6 (.fl 7 (.fl 8 (.fl 9 (.fl 10 (.fl 11 (.fl 12 (.fl 13 (.fl 14 (.fl 15 (.fl 16 (.fl 17 (.fl 18 (.fl 19 (.fl 20 (.fl 21 (.fl 22 (.fl 23 (.fl 24 (.fl 25 (.fl 26 (.fl 27 (.fl 28 (.fl 29 .fin))))))))))))))))))))))))))))))) (.c (.s (.r (.fl 0 (.fl 1 (.fl 2 (.fl 3 (.fl 4 (.fl 5 (.fl 6 (.fl 7 (.fl 8 (.fl 9 (.fl 10 (.fl 11 (.mn 12 .fin .no)))))))))))))) .n) .n)))) .n))))))))))) .n)))))) [(24, T_ref4_within)] ⟨⟨by kernel_rfl, S_ref4_within⟩, trivial⟩ [.c .ptr, .c (.int .i64)] (by kernel_rfl) G_ref4_Net_All fun t w K => by kernel_rfl

/-- milepost/witness.has -/
def F_witness_has (t : Option Addr) (v : Int) (w : World) (Q : Bool → World → Prop) : Prop :=
  cond (decide (v ≥ (0 : Int)))
  (F_net_Net_Len t w fun (x1 : Int) w1 =>
  Q (decide (v < x1)) w1)
  (Q false w)
def G_witness_has (t : KTs [.c .ptr, .c (.int .i64)]) (w : World) (K : Value → World → Prop) : Prop := F_witness_has t.1 t.2.1 w fun (r0 : Bool) w1 => K (Value.bool r0) w1
abbrev T_witness_has : Tr := fun args w K => decK [.c .ptr, .c (.int .i64)] args fun t => G_witness_has t w K
theorem S_witness_has : Sound Try.prog 80 T_witness_has := sound_of (fn := Try.f80) Try.func80 (by kernel_rfl) mixed (by kernel_rfl) (.n) [(35, T_net_Net_Len)] ⟨⟨by kernel_rfl, S_net_Net_Len⟩, trivial⟩ [.c .ptr, .c (.int .i64)] (by kernel_rfl) G_witness_has fun t w K => by kernel_rfl

/-- milepost/witness.seek -/
def F_witness_seek (t : Option Addr) (from_ : Int) (without : Int) (done : Value) (w : World) (Q : World → Prop) : Prop :=
  allocD w #[Value.slice none 0 0, Value.map none] 105 fun a1 w1 =>
  mapNewD w1 fun m1 w2 =>
  F_heap_Heap_Push (some a1) from_ (0 : Int) w2 fun (_ : Bool) w3 =>
  ∀ X1 : (Unit) → World → Prop, (∀ (t1 : Unit) (w4 : World), (
  F_heap_Heap_Len (some a1) w4 fun (x1 : Int) w5 =>
  cond (decide (x1 > (0 : Int)))
  (F_heap_Heap_Pop (some a1) w5 fun (x2 : Int) (x3 : Int) (_ : Int) w6 =>
  mapUpdateD Try.prog 134 (Value.map (some m1)) (Value.int .i64 x2) (Value.bool true) w6 fun w7 =>
  callV Try.prog done [(Value.int .i64 x2), (Value.int .i64 x3)] w7 fun v1 w8 =>
  ∃ b2 : Bool, v1 = (Value.bool b2) ∧
  cond b2
  (Q w8)
  (F_net_Net_Out t x2 w8 fun (s1 : Sl) w9 =>
  ∀ X2 : (Int × Unit) → World → Prop, (∀ (t2 : Int × Unit) (w10 : World), (
  cond (decide (t2.1 < ((s1.l : Nat) : Int)))
  ((0 ≤ t2.1 ∧ t2.1 < ((s1.l : Nat) : Int)) ∧
  onSome s1.b fun a2 =>
  ldN [.int .i64, .int .i64, .int .i64, .int .i64] w10 (a2.add (Int.toNat t2.1 * 4)) fun (t3 : Int × Int × Int × Int × Unit) =>
  allocD w10 #[Value.int .i64 (0 : Int), Value.int .i64 (0 : Int), Value.int .i64 (0 : Int), Value.int .i64 (0 : Int)] 38 fun a3 w11 =>
  storeD Try.prog 38 a3 (Value.agg #[(Value.int .i64 t3.1), (Value.int .i64 t3.2.1), (Value.int .i64 t3.2.2.1), (Value.int .i64 t3.2.2.2.1)]) w11 fun w12 =>
  ld1 (.int .i64) w12 (a3.add 1) fun (x5 : Int) =>
  cond (x5 != without)
  (ld1 (.int .i64) w12 (a3.add 1) fun (x6 : Int) =>
  lookup1D Try.prog (.c .bool) 134 (Value.map (some m1)) (Value.int .i64 x6) w12 fun (x7 : Bool) w13 =>
  cond (!x7)
  (ld1 (.int .i64) w13 (a3.add 1) fun (x8 : Int) =>
  ld1 (.int .i64) w13 (a3.add 2) fun (x9 : Int) =>
  F_heap_Heap_Push (some a1) x8 (IntKind.wrap .i64 (x3 + x9)) w13 fun (_ : Bool) w14 =>
  X2 ((IntKind.wrap .i64 (t2.1 + (1 : Int))), ()) w14)
  (X2 ((IntKind.wrap .i64 (t2.1 + (1 : Int))), ()) w13))
  (X2 ((IntKind.wrap .i64 (t2.1 + (1 : Int))), ()) w12))
  (X1 (()) w10)) → X2 t2 w10) →
  X2 ((0 : Int), ()) w9))
  (Q w5)) → X1 t1 w4) →
  X1 (()) w3
def G_witness_seek (t : KTs [.c .ptr, .c (.int .i64), .c (.int .i64), .c .any]) (w : World) (K : Value → World → Prop) : Prop := F_witness_seek t.1 t.2.1 t.2.2.1 t.2.2.2.1 w fun  w1 => K (Value.tuple #[]) w1
abbrev T_witness_seek : Tr := fun args w K => decK [.c .ptr, .c (.int .i64), .c (.int .i64), .c .any] args fun t => G_witness_seek t w K
theorem S_witness_seek : Sound Try.prog 81 T_witness_seek := sound_of (fn := Try.f81) Try.func81 (by kernel_rfl) mixed (by kernel_rfl) (.s .n (.s .n (.b (.l [] [10, 11, 12, 14, 21, 22, 23, 24, 25, 26, 27, 28, 29, 30, 31, 32, 33, 34, 35, 36, 37, 38, 39, 40, 41, 42, 43, 44, 45, 46, 47, 48, 49, 50, 51, 52, 53, 54, 55, 56, 57, 58, 59, 60, 61, 62, 63] (.s .n (.b (.s .n (.s .n (.s .n (.s .n (.b (.l [(40, .c (.int .i64))] [14, 40, 41, 42, 43, 44, 45, 46, 47, 48, 49, 50, 51, 52, 53, 54, 55, 56, 57, 58, 59, 60, 61, 62, 63] .n)))))))))))) [(58, T_net_Net_Out), (71, T_heap_Heap_Push), (72, T_heap_Heap_Len), (73, T_heap_Heap_Pop)] ⟨⟨by kernel_rfl, S_net_Net_Out⟩, ⟨by kernel_rfl, S_heap_Heap_Push⟩, ⟨by kernel_rfl, S_heap_Heap_Len⟩, ⟨by kernel_rfl, S_heap_Heap_Pop⟩, trivial⟩ [.c .ptr, .c (.int .i64), .c (.int .i64), .c .any] (by kernel_rfl) G_witness_seek fun t w K => by kernel_rfl

/-- milepost/witness.Find -/
def F_witness_Find (t : Option Addr) (from_ : Int) (to : Int) (without : Int) (most : Int) (settle : Int) (w : World) (Q : Bool → World → Prop) : Prop :=
  allocD w #[Value.int .i64 to] 3 fun a1 w1 =>
  allocD w1 #[Value.int .i64 most] 3 fun a2 w2 =>
  allocD w2 #[Value.int .i64 settle] 3 fun a3 w3 =>
  allocD w3 #[Value.bool false] 4 fun a4 w4 =>
  F_witness_has t from_ w4 fun (b1 : Bool) w5 =>
  cond (!b1)
  (storeD Try.prog 4 a4 (Value.bool false) w5 fun w6 =>
  ld1 .bool w6 a4 fun (b2 : Bool) =>
  Q b2 w6)
  (ld1 (.int .i64) w5 a1 fun (x1 : Int) =>
  F_witness_has t x1 w5 fun (b3 : Bool) w7 =>
  cond (!b3)
  (storeD Try.prog 4 a4 (Value.bool false) w7 fun w8 =>
  ld1 .bool w8 a4 fun (b4 : Bool) =>
  Q b4 w8)
  (cond (from_ == without)
  (storeD Try.prog 4 a4 (Value.bool false) w7 fun w9 =>
  ld1 .bool w9 a4 fun (b5 : Bool) =>
  Q b5 w9)
  (ld1 (.int .i64) w7 a3 fun (x2 : Int) =>
  cond (decide (x2 < (1 : Int)))
  (storeD Try.prog 4 a4 (Value.bool false) w7 fun w10 =>
  ld1 .bool w10 a4 fun (b6 : Bool) =>
  Q b6 w10)
  (F_witness_seek t from_ without (Value.func (.func 82) #[] #[(Value.pointer (some a3)), (Value.pointer (some a1)), (Value.pointer (some a2)), (Value.pointer (some a4))]) w7 fun w11 =>
  ld1 .bool w11 a4 fun (b7 : Bool) =>
  storeD Try.prog 4 a4 (Value.bool b7) w11 fun w12 =>
  ld1 .bool w12 a4 fun (b8 : Bool) =>
  Q b8 w12))))
def G_witness_Find (t : KTs [.c .ptr, .c (.int .i64), .c (.int .i64), .c (.int .i64), .c (.int .i64), .c (.int .i64)]) (w : World) (K : Value → World → Prop) : Prop := F_witness_Find t.1 t.2.1 t.2.2.1 t.2.2.2.1 t.2.2.2.2.1 t.2.2.2.2.2.1 w fun (r0 : Bool) w1 => K (Value.bool r0) w1
abbrev T_witness_Find : Tr := fun args w K => decK [.c .ptr, .c (.int .i64), .c (.int .i64), .c (.int .i64), .c (.int .i64), .c (.int .i64)] args fun t => G_witness_Find t w K
theorem S_witness_Find : Sound Try.prog 60 T_witness_Find := sound_of (fn := Try.f60) Try.func60 (by kernel_rfl) mixed (by kernel_rfl) (.n) [(80, T_witness_has), (81, T_witness_seek)] ⟨⟨by kernel_rfl, S_witness_has⟩, ⟨by kernel_rfl, S_witness_seek⟩, trivial⟩ [.c .ptr, .c (.int .i64), .c (.int .i64), .c (.int .i64), .c (.int .i64), .c (.int .i64)] (by kernel_rfl) G_witness_Find fun t w K => by kernel_rfl

/-- (*milepost/milepostref4.Net).Witness -/
def F_ref4_Net_Witness (t : Option Addr) (from_ : Int) (to : Int) (without : Int) (most : Int) (settle : Int) (w : World) (Q : Bool → World → Prop) : Prop :=
  onSome t fun a1 =>
  ld1 (.int .i64) w (a1.add 0) fun (x1 : Int) =>
  F_ref4_within from_ (0 : Int) (IntKind.wrap .i64 (x1 - (1 : Int))) w fun (b1 : Bool) w1 =>
  cond (!b1)
  (Q false w1)
  (onSome t fun a2 =>
  ld1 (.int .i64) w1 (a2.add 0) fun (x2 : Int) =>
  F_ref4_within to (0 : Int) (IntKind.wrap .i64 (x2 - (1 : Int))) w1 fun (b2 : Bool) w2 =>
  cond (!b2)
  (Q false w2)
  (cond (from_ == without)
  (Q false w2)
  (allocD w2 #[Value.slice none 0 0] 123 fun a3 w3 =>
  F_ref4_Heap_Push (some a3) from_ (0 : Int) w3 fun (_ : Bool) w4 =>
  onSome t fun a4 =>
  ld1 (.int .i64) w4 (a4.add 0) fun (x3 : Int) =>
  makeSliceD Try.prog 75 (Value.int .i64 x3) (Value.int .i64 x3) w4 fun (s1 : Sl) w5 =>
  ∀ X1 : (Int × Unit) → World → Prop, (∀ (t1 : Int × Unit) (w6 : World), (
  cond (decide (t1.1 < settle))
  (F_ref4_Heap_Pop (some a3) w6 fun (t2 : Int × Int × Unit) (b4 : Bool) w7 =>
  allocD w7 #[Value.int .i64 (0 : Int), Value.int .i64 (0 : Int)] 125 fun a5 w8 =>
  storeD Try.prog 125 a5 (Value.agg #[(Value.int .i64 t2.1), (Value.int .i64 t2.2.1)]) w8 fun w9 =>
  cond (!b4)
  (Q false w9)
  (ld1 (.int .i64) w9 (a5.add 0) fun (x4 : Int) =>
  cond (x4 == to)
  (ld1 (.int .i64) w9 (a5.add 1) fun (x5 : Int) =>
  Q (decide (x5 ≤ most)) w9)
  (ld1 (.int .i64) w9 (a5.add 0) fun (x6 : Int) =>
  (0 ≤ x6 ∧ x6 < ((s1.l : Nat) : Int)) ∧
  onSome s1.b fun a6 =>
  storeD Try.prog 4 (a6.add (Int.toNat x6 * 1)) (Value.bool true) w9 fun w10 =>
  ld1 (.int .i64) w10 (a5.add 0) fun (x7 : Int) =>
  F_ref4_Net_Out t x7 w10 fun (s2 : Sl) w11 =>
  ∀ X2 : (Int × Unit) → World → Prop, (∀ (t3 : Int × Unit) (w12 : World), (
  cond (decide (t3.1 < ((s2.l : Nat) : Int)))
  ((0 ≤ t3.1 ∧ t3.1 < ((s2.l : Nat) : Int)) ∧
  onSome s2.b fun a7 =>
  ld1 (.int .i64) w12 ((a7.add (Int.toNat t3.1 * 4)).add 1) fun (x8 : Int) =>
  cond (x8 != without)
  ((0 ≤ t3.1 ∧ t3.1 < ((s2.l : Nat) : Int)) ∧
  onSome s2.b fun a8 =>
  ld1 (.int .i64) w12 ((a8.add (Int.toNat t3.1 * 4)).add 1) fun (x9 : Int) =>
  (0 ≤ x9 ∧ x9 < ((s1.l : Nat) : Int)) ∧
  onSome s1.b fun a9 =>
  ld1 .bool w12 (a9.add (Int.toNat x9 * 1)) fun (b5 : Bool) =>
  cond (!b5)
  ((0 ≤ t3.1 ∧ t3.1 < ((s2.l : Nat) : Int)) ∧
  onSome s2.b fun a10 =>
  ld1 (.int .i64) w12.drew ((a10.add (Int.toNat t3.1 * 4)).add 1) fun (x10 : Int) =>
  ld1 (.int .i64) w12.drew (a5.add 1) fun (x11 : Int) =>
  (0 ≤ t3.1 ∧ t3.1 < ((s2.l : Nat) : Int)) ∧
  onSome s2.b fun a11 =>
  ld1 (.int .i64) w12.drew ((a11.add (Int.toNat t3.1 * 4)).add 2) fun (x12 : Int) =>
  F_ref4_Heap_Push (some a3) x10 (IntKind.wrap .i64 (x11 + x12)) w12.drew fun (_ : Bool) w13 =>
  X2 ((IntKind.wrap .i64 (t3.1 + (1 : Int))), ()) w13)
  (X2 ((IntKind.wrap .i64 (t3.1 + (1 : Int))), ()) w12))
  (X2 ((IntKind.wrap .i64 (t3.1 + (1 : Int))), ()) w12))
  (X1 ((IntKind.wrap .i64 (t1.1 + (1 : Int))), ()) w12)) → X2 t3 w12) →
  X2 ((0 : Int), ()) w11)))
  (Q false w6)) → X1 t1 w6) →
  X1 ((0 : Int), ()) w5)))
def G_ref4_Net_Witness (t : KTs [.c .ptr, .c (.int .i64), .c (.int .i64), .c (.int .i64), .c (.int .i64), .c (.int .i64)]) (w : World) (K : Value → World → Prop) : Prop := F_ref4_Net_Witness t.1 t.2.1 t.2.2.1 t.2.2.2.1 t.2.2.2.2.1 t.2.2.2.2.2.1 w fun (r0 : Bool) w1 => K (Value.bool r0) w1
abbrev T_ref4_Net_Witness : Tr := fun args w K => decK [.c .ptr, .c (.int .i64), .c (.int .i64), .c (.int .i64), .c (.int .i64), .c (.int .i64)] args fun t => G_ref4_Net_Witness t w K
theorem S_ref4_Net_Witness : Sound Try.prog 69 T_ref4_Net_Witness := sound_of (fn := Try.f69) Try.func69 (by kernel_rfl) mixed (by kernel_rfl) (.s .n (.s .n (.s .n (.s .n (.s .n (.s (.s .n (.b (.l [(15, .c (.int .i64))] [12, 15, 16, 17, 18, 19, 53, 54, 55, 56, 57, 58, 59, 60, 61, 62, 63, 64, 65, 66, 67, 68, 69, 70, 71, 72, 73, 74, 75, 76, 77, 78, 79, 80, 81, 82, 83, 84, 85, 86, 87, 88, 89, 90, 91, 92, 93, 94, 95, 96, 97, 98, 99, 100, 101, 102, 103, 104, 105, 106, 107, 108, 109, 110, 111, 112, 113, 114, 115, 116, 117, 118, 119] (.s .n (.s (.b (.s .n (.s .n (.s .n (.s .n (.s .n (.s .n (.b (.l [(19, .c (.int .i64))] [19, 81, 82, 83, 84, 85, 86, 87, 88, 89, 90, 91, 92, 93, 94, 95, 96, 97, 98, 99, 100, 101, 102, 103, 104, 105, 106, 107, 108, 109, 110, 111, 112, 113, 114, 115, 116, 117, 118, 119] (.s .n (.s (.b (.s .n (.c (.r (.fl 0 (.fl 1 (.fl 2 (.fl 3 (.fl 4 (.fl 5 (.fl 6 (.fl 7 (.fl 8 (.fl 9 (.fl 10 (.fl 11 (.fl 12 (.fl 13 (.mn 14 .fin .no)))))))))))))))) .n))) .n))))))))))) .n))))) .n)))))) [(24, T_ref4_within), (68, T_ref4_Net_Out), (88, T_ref4_Heap_Push), (89, T_ref4_Heap_Pop)] ⟨⟨by kernel_rfl, S_ref4_within⟩, ⟨by kernel_rfl, S_ref4_Net_Out⟩, ⟨by kernel_rfl, S_ref4_Heap_Push⟩, ⟨by kernel_rfl, S_ref4_Heap_Pop⟩, trivial⟩ [.c .ptr, .c (.int .i64), .c (.int .i64), .c (.int .i64), .c (.int .i64), .c (.int .i64)] (by kernel_rfl) G_ref4_Net_Witness fun t w K => by kernel_rfl

/-- milepost/witness.Find$1 -/
def F_witness_Find_c1 (v : Int) (d : Int) (cap0 : Option Addr) (cap1 : Option Addr) (cap2 : Option Addr) (cap3 : Option Addr) (w : World) (Q : Bool → World → Prop) : Prop :=
  onSome cap0 fun a1 =>
  ld1 (.int .i64) w a1 fun (x1 : Int) =>
  onSome cap0 fun a2 =>
  storeD Try.prog 3 a2 (Value.int .i64 (IntKind.wrap .i64 (x1 - (1 : Int)))) w fun w1 =>
  onSome cap1 fun a3 =>
  ld1 (.int .i64) w1 a3 fun (x2 : Int) =>
  cond (v == x2)
  (onSome cap2 fun a4 =>
  ld1 (.int .i64) w1 a4 fun (x3 : Int) =>
  onSome cap3 fun a5 =>
  storeD Try.prog 4 a5 (Value.bool (decide (d ≤ x3))) w1 fun w2 =>
  onSome cap1 fun a6 =>
  ld1 (.int .i64) w2 a6 fun (x4 : Int) =>
  cond (v == x4)
  (Q true w2)
  (onSome cap0 fun a7 =>
  ld1 (.int .i64) w2 a7 fun (x5 : Int) =>
  Q (x5 == (0 : Int)) w2))
  (onSome cap3 fun a8 =>
  storeD Try.prog 4 a8 (Value.bool false) w1 fun w3 =>
  onSome cap1 fun a9 =>
  ld1 (.int .i64) w3 a9 fun (x6 : Int) =>
  cond (v == x6)
  (Q true w3)
  (onSome cap0 fun a10 =>
  ld1 (.int .i64) w3 a10 fun (x7 : Int) =>
  Q (x7 == (0 : Int)) w3))
def G_witness_Find_c1 (t : KTs [.c (.int .i64), .c (.int .i64), .c .ptr, .c .ptr, .c .ptr, .c .ptr]) (w : World) (K : Value → World → Prop) : Prop := F_witness_Find_c1 t.1 t.2.1 t.2.2.1 t.2.2.2.1 t.2.2.2.2.1 t.2.2.2.2.2.1 w fun (r0 : Bool) w1 => K (Value.bool r0) w1
abbrev T_witness_Find_c1 : Tr := fun args w K => decK [.c (.int .i64), .c (.int .i64), .c .ptr, .c .ptr, .c .ptr, .c .ptr] args fun t => G_witness_Find_c1 t w K
theorem S_witness_Find_c1 : Sound Try.prog 82 T_witness_Find_c1 := sound_of (fn := Try.f82) Try.func82 (by kernel_rfl) mixed (by kernel_rfl) (.n) [] trivial [.c (.int .i64), .c (.int .i64), .c .ptr, .c .ptr, .c .ptr, .c .ptr] (by kernel_rfl) G_witness_Find_c1 fun t w K => by kernel_rfl

end Go.Proofs.Ytkghlmaalkmdkaa
