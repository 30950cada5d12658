import Derived.Test.YtjjgcimlmjnaeaaGreatA1
import Derived.Test.YtjjgcimlmjnaeaaGreatFBase
import Derived.Test.YtjjgcimlmjnaeaaGreatFHeap
import Derived.Test.YtjjgcimlmjnaeaaGreatFSea
import Derived.Test.YtjjgcimlmjnaeaaGreatFGra
import Derived.Test.YtjjgcimlmjnaeaaGreatFTur
namespace Go.Proofs.YtjjgcimlmjnaeaaGreat
open Go Go.Den
set_option maxRecDepth 100000
/-- milepost/least.step -/
def F_least_step (t : Option Addr) (e_ : Int) (far : Sl) (closed : Sl) (w : World) (Q : Int → World → Prop) : Prop :=
  F_turns_Turns_Next t e_ w fun (s1 : Sl) w1 =>
  ∀ X1 : (Int × Unit) → World → Prop, (∀ (t1 : Int × Unit) (w2 : World), (
  cond (decide (t1.1 < ((s1.l : Nat) : Int)))
  ((0 ≤ t1.1 ∧ t1.1 < ((s1.l : Nat) : Int)) ∧
  onSome s1.b fun a1 =>
  ld1 (.int .i64) w2 (a1.add (Int.toNat t1.1 * 1)) fun (x1 : Int) =>
  onSome t fun a2 =>
  ld1 .ptr w2 (a2.add 0) fun (p1 : Option Addr) =>
  F_graph_Graph_Edge p1 x1 w2 fun (t2 : Int × Int × Int × Unit) (_ : Bool) w3 =>
  allocD w3 #[Value.int .i64 (0 : Int), Value.int .i64 (0 : Int), Value.int .i64 (0 : Int)] 49 fun a3 w4 =>
  storeD Tryz.prog 49 a3 (Value.agg #[(Value.int .i64 t2.1), (Value.int .i64 t2.2.1), (Value.int .i64 t2.2.2.1)]) w4 fun w5 =>
  ∀ J1 : (Bool × Unit) → World → Prop, (∀ (t3 : Bool × Unit) (w6 : World), (
  cond (!t3.1)
  (cond (decide (x1 < ((far.l : Nat) : Int)))
  ((0 ≤ x1 ∧ x1 < ((far.l : Nat) : Int)) ∧
  onSome far.b fun a4 =>
  ld1 (.int .i64) w6.drew (a4.add (Int.toNat x1 * 1)) fun (x2 : Int) =>
  cond (decide (x2 ≥ (0 : Int)))
  ((0 ≤ x1 ∧ x1 < ((far.l : Nat) : Int)) ∧
  onSome far.b fun a5 =>
  ld1 (.int .i64) w6.drew (a5.add (Int.toNat x1 * 1)) fun (x3 : Int) =>
  (0 ≤ e_ ∧ e_ < ((far.l : Nat) : Int)) ∧
  onSome far.b fun a6 =>
  ld1 (.int .i64) w6.drew (a6.add (Int.toNat e_ * 1)) fun (x4 : Int) =>
  cond (decide (x3 < x4))
  ((0 ≤ x1 ∧ x1 < ((far.l : Nat) : Int)) ∧
  onSome far.b fun a7 =>
  ld1 (.int .i64) w6.drew (a7.add (Int.toNat x1 * 1)) fun (x5 : Int) =>
  (0 ≤ e_ ∧ e_ < ((far.l : Nat) : Int)) ∧
  onSome far.b fun a8 =>
  ld1 (.int .i64) w6.drew (a8.add (Int.toNat e_ * 1)) fun (x6 : Int) =>
  ld1 (.int .i64) w6.drew (a3.add 2) fun (x7 : Int) =>
  cond (x5 == (IntKind.wrap .i64 (x6 - x7)))
  (Q x1 w6.drew)
  (X1 ((IntKind.wrap .i64 (t1.1 + (1 : Int))), ()) w6.drew))
  (X1 ((IntKind.wrap .i64 (t1.1 + (1 : Int))), ()) w6.drew))
  (X1 ((IntKind.wrap .i64 (t1.1 + (1 : Int))), ()) w6.drew))
  (X1 ((IntKind.wrap .i64 (t1.1 + (1 : Int))), ()) w6.drew))
  (X1 ((IntKind.wrap .i64 (t1.1 + (1 : Int))), ()) w6.drew)) → J1 t3 w6) →
  cond (decide (x1 < ((closed.l : Nat) : Int)))
  ((0 ≤ x1 ∧ x1 < ((closed.l : Nat) : Int)) ∧
  onSome closed.b fun a9 =>
  ld1 .bool w5 (a9.add (Int.toNat x1 * 1)) fun (b2 : Bool) =>
  J1 (b2, ()) w5)
  (J1 (false, ()) w5))
  (Q (-1 : Int) w2)) → X1 t1 w2) →
  X1 ((0 : Int), ()) w1
def G_least_step (t : KTs [.c .ptr, .c (.int .i64), .c .slice, .c .slice]) (w : World) (K : Value → World → Prop) : Prop := F_least_step t.1 t.2.1 t.2.2.1 t.2.2.2.1 w fun (r0 : Int) w1 => K (Value.int .i64 r0) w1
abbrev T_least_step : Tr := fun args w K => decK [.c .ptr, .c (.int .i64), .c .slice, .c .slice] args fun t => G_least_step t w K
theorem S_least_step : Sound Tryz.prog 111 T_least_step := sound_of (fn := Tryz.f111) Tryz.func111 (by kernel_rfl) mixed (by kernel_rfl) (.s .n (.s (.s .n (.b (.l [(18, .c (.int .i64))] [8, 10, 11, 12, 13, 18, 19, 20, 21, 22, 23, 24, 25, 26, 27, 28, 29, 30, 31, 32, 33, 34, 35, 36, 37, 38, 39, 40, 41, 42, 43, 44, 45, 46, 47, 48, 49, 50, 51, 52, 53, 54, 55, 56, 57, 58, 59, 60, 61, 62, 63, 64, 65, 66, 67, 68, 69, 70, 71, 72, 73, 74, 75, 76, 77, 78, 79, 80, 81, 82] (.s .n (.s .n (.s (.b (.s .n (.s .n (.j [(13, .c .bool)] [13, 31, 32, 33, 34, 35, 36, 37, 38, 39, 40] .n (.s (.r (.fl 0 (.fl 1 (.fl 2 (.fl 3 (.fl 4 (.fl 5 (.fl 6 (.fl 7 (.fl 8 (.fl 9 (.fl 10 (.fl 11 (.fl 12 (.fl 13 (.fl 14 (.fl 15 (.fl 16 (.fl 17 (.fl 18 (.fl 19 (.fl 20 (.fl 21 (.fl 22 (.fl 23 (.fl 24 (.fl 25 (.fl 26 (.fl 27 (.fl 28 (.fl 29 (.fl 30 (.fl 31 (.fl 32 (.fl 33 (.fl 34 (.fl 35 (.fl 36 (.fl 37 (.fl 38 (.fl 39 .fin))))))))))))))))))))))))))))))))))))))))) .n))))) .n)))))) .n)) [(41, T_graph_Graph_Edge), (123, T_turns_Turns_Next)] ⟨⟨by kernel_rfl, S_graph_Graph_Edge⟩, ⟨by kernel_rfl, S_turns_Turns_Next⟩, trivial⟩ [.c .ptr, .c (.int .i64), .c .slice, .c .slice] (by kernel_rfl) G_least_step fun t w K => by kernel_rfl

/-- milepost/least.Along -/
def F_least_Along (t : Option Addr) (e_ : Int) (far : Sl) (closed : Sl) (w : World) (Q : Sl → Bool → World → Prop) : Prop :=
  cond (Option.isNone t)
  (Q ⟨none, 0, 0⟩ false w)
  (cond (decide (e_ < (0 : Int)))
  (Q ⟨none, 0, 0⟩ false w)
  (onSome t fun a1 =>
  ld1 .ptr w (a1.add 0) fun (p1 : Option Addr) =>
  F_graph_Graph_Edges p1 w fun (x1 : Int) w1 =>
  cond (decide (e_ ≥ (minInt ((far.l : Nat) : Int) x1)))
  (Q ⟨none, 0, 0⟩ false w1)
  ((0 ≤ e_ ∧ e_ < ((far.l : Nat) : Int)) ∧
  onSome far.b fun a2 =>
  ld1 (.int .i64) w1 (a2.add (Int.toNat e_ * 1)) fun (x2 : Int) =>
  cond (decide (x2 < (0 : Int)))
  (Q ⟨none, 0, 0⟩ false w1)
  (∀ X1 : (Int × Sl × Unit) → World → Prop, (∀ (t1 : Int × Sl × Unit) (w2 : World), (
  (0 ≤ t1.1 ∧ t1.1 < ((far.l : Nat) : Int)) ∧
  onSome far.b fun a3 =>
  ld1 (.int .i64) w2 (a3.add (Int.toNat t1.1 * 1)) fun (x3 : Int) =>
  cond (decide (x3 > (0 : Int)))
  (F_least_step t t1.1 far closed w2 fun (x4 : Int) w3 =>
  cond (decide (x4 < (0 : Int)))
  (Q ⟨none, 0, 0⟩ false w3)
  (allocD w3 #[Value.int .i64 x4] 3 fun a4 w4 =>
  appendD Tryz.prog 22 22 t1.2.1 (Value.slice (some a4) 1 1) w4 fun (s1 : Sl) w5 =>
  X1 (x4, s1, ()) w5))
  (Q t1.2.1 true w2)) → X1 t1 w2) →
  X1 (e_, ⟨none, 0, 0⟩, ()) w1))))
def G_least_Along (t : KTs [.c .ptr, .c (.int .i64), .c .slice, .c .slice]) (w : World) (K : Value → World → Prop) : Prop := F_least_Along t.1 t.2.1 t.2.2.1 t.2.2.2.1 w fun (r0 : Sl) (r1 : Bool) w1 => K (Value.tuple #[(Value.slice r0.b r0.l r0.c), (Value.bool r1)]) w1
abbrev T_least_Along : Tr := fun args w K => decK [.c .ptr, .c (.int .i64), .c .slice, .c .slice] args fun t => G_least_Along t w K
theorem S_least_Along : Sound Tryz.prog 85 T_least_Along := sound_of (fn := Tryz.f85) Tryz.func85 (by kernel_rfl) mixed (by kernel_rfl) (.s .n (.s .n (.s (.b (.l [(1, .c (.int .i64)), (8, .c .slice)] [1, 8, 9, 35, 36, 37, 38, 39, 40, 41, 42, 43, 44, 45, 46, 47, 48, 49, 50] .n)) .n))) [(33, T_graph_Graph_Edges), (111, T_least_step)] ⟨⟨by kernel_rfl, S_graph_Graph_Edges⟩, ⟨by kernel_rfl, S_least_step⟩, trivial⟩ [.c .ptr, .c (.int .i64), .c .slice, .c .slice] (by kernel_rfl) G_least_Along fun t w K => by kernel_rfl

/-- milepost/dist.none -/
def F_dist_none (t : Option Addr) (w : World) (Q : Sl → World → Prop) : Prop :=
  allocD w #[Value.int .i64 (-1 : Int)] 3 fun a1 w1 =>
  onSome t fun a2 =>
  ld1 .ptr w1 (a2.add 0) fun (p1 : Option Addr) =>
  F_graph_Graph_Edges p1 w1 fun (x1 : Int) w2 =>
  F_slices_Repeat_sint_int ⟨(some a1), 1, 1⟩ x1 w2 fun (s1 : Sl) w3 =>
  Q s1 w3
def G_dist_none (t : KTs [.c .ptr]) (w : World) (K : Value → World → Prop) : Prop := F_dist_none t.1 w fun (r0 : Sl) w1 => K (Value.slice r0.b r0.l r0.c) w1
abbrev T_dist_none : Tr := fun args w K => decK [.c .ptr] args fun t => G_dist_none t w K
theorem S_dist_none : Sound Tryz.prog 115 T_dist_none := sound_of (fn := Tryz.f115) Tryz.func115 (by kernel_rfl) mixed (by kernel_rfl) (.n) [(33, T_graph_Graph_Edges), (138, T_slices_Repeat_sint_int)] ⟨⟨by kernel_rfl, S_graph_Graph_Edges⟩, ⟨by kernel_rfl, S_slices_Repeat_sint_int⟩, trivial⟩ [.c .ptr] (by kernel_rfl) G_dist_none fun t w K => by kernel_rfl

/-- milepost/dist.shut -/
def F_dist_shut (closed : Sl) (e_ : Int) (w : World) (Q : Bool → World → Prop) : Prop :=
  cond (decide (e_ < ((closed.l : Nat) : Int)))
  ((0 ≤ e_ ∧ e_ < ((closed.l : Nat) : Int)) ∧
  onSome closed.b fun a1 =>
  ld1 .bool w (a1.add (Int.toNat e_ * 1)) fun (b1 : Bool) =>
  Q b1 w)
  (Q false w)
def G_dist_shut (t : KTs [.c .slice, .c (.int .i64)]) (w : World) (K : Value → World → Prop) : Prop := F_dist_shut t.1 t.2.1 w fun (r0 : Bool) w1 => K (Value.bool r0) w1
abbrev T_dist_shut : Tr := fun args w K => decK [.c .slice, .c (.int .i64)] args fun t => G_dist_shut t w K
theorem S_dist_shut : Sound Tryz.prog 119 T_dist_shut := sound_of (fn := Tryz.f119) Tryz.func119 (by kernel_rfl) mixed (by kernel_rfl) (.n) [] trivial [.c .slice, .c (.int .i64)] (by kernel_rfl) G_dist_shut fun t w K => by kernel_rfl

/-- milepost/dist.weight -/
def F_dist_weight (t : Option Addr) (e_ : Int) (w : World) (Q : Int → World → Prop) : Prop :=
  onSome t fun a1 =>
  ld1 .ptr w (a1.add 0) fun (p1 : Option Addr) =>
  F_graph_Graph_Edge p1 e_ w fun (t1 : Int × Int × Int × Unit) (_ : Bool) w1 =>
  allocD w1 #[Value.int .i64 (0 : Int), Value.int .i64 (0 : Int), Value.int .i64 (0 : Int)] 49 fun a2 w2 =>
  storeD Tryz.prog 49 a2 (Value.agg #[(Value.int .i64 t1.1), (Value.int .i64 t1.2.1), (Value.int .i64 t1.2.2.1)]) w2 fun w3 =>
  ld1 (.int .i64) w3 (a2.add 2) fun (x1 : Int) =>
  Q x1 w3
def G_dist_weight (t : KTs [.c .ptr, .c (.int .i64)]) (w : World) (K : Value → World → Prop) : Prop := F_dist_weight t.1 t.2.1 w fun (r0 : Int) w1 => K (Value.int .i64 r0) w1
abbrev T_dist_weight : Tr := fun args w K => decK [.c .ptr, .c (.int .i64)] args fun t => G_dist_weight t w K
theorem S_dist_weight : Sound Tryz.prog 121 T_dist_weight := sound_of (fn := Tryz.f121) Tryz.func121 (by kernel_rfl) mixed (by kernel_rfl) (.n) [(41, T_graph_Graph_Edge)] ⟨⟨by kernel_rfl, S_graph_Graph_Edge⟩, trivial⟩ [.c .ptr, .c (.int .i64)] (by kernel_rfl) G_dist_weight fun t w K => by kernel_rfl

/-- milepost/dist.To -/
def F_dist_To (t : Option Addr) (node : Int) (closed : Sl) (w : World) (Q : Sl → World → Prop) : Prop :=
  cond (Option.isNone t)
  (Q ⟨none, 0, 0⟩ w)
  (cond (decide (node < (0 : Int)))
  (Q ⟨none, 0, 0⟩ w)
  (onSome t fun a1 =>
  ld1 .ptr w (a1.add 0) fun (p1 : Option Addr) =>
  F_graph_Graph_Nodes p1 w fun (x1 : Int) w1 =>
  cond (decide (node ≥ x1))
  (Q ⟨none, 0, 0⟩ w1)
  (F_dist_none t w1 fun (s1 : Sl) w2 =>
  allocD w2 #[Value.slice none 0 0, Value.map none] 181 fun a2 w3 =>
  onSome t fun a3 =>
  ld1 .ptr w3 (a3.add 0) fun (p2 : Option Addr) =>
  F_graph_Graph_In p2 node w3 fun (s2 : Sl) w4 =>
  ∀ X1 : (Int × Unit) → World → Prop, (∀ (t1 : Int × Unit) (w5 : World), (
  cond (decide (t1.1 < ((s2.l : Nat) : Int)))
  ((0 ≤ t1.1 ∧ t1.1 < ((s2.l : Nat) : Int)) ∧
  onSome s2.b fun a4 =>
  ld1 (.int .i64) w5 (a4.add (Int.toNat t1.1 * 1)) fun (x2 : Int) =>
  F_heap_Heap_Push (some a2) x2 (0 : Int) w5 fun (_ : Bool) w6 =>
  X1 ((IntKind.wrap .i64 (t1.1 + (1 : Int))), ()) w6)
  (∀ X2 : (Unit) → World → Prop, (∀ (t2 : Unit) (w7 : World), (
  F_heap_Heap_Len (some a2) w7 fun (x3 : Int) w8 =>
  cond (decide (x3 > (0 : Int)))
  (F_heap_Heap_Pop (some a2) w8 fun (x4 : Int) (x5 : Int) (_ : Int) w9 =>
  (0 ≤ x4 ∧ x4 < ((s1.l : Nat) : Int)) ∧
  onSome s1.b fun a5 =>
  storeD Tryz.prog 3 (a5.add (Int.toNat x4 * 1)) (Value.int .i64 x5) w9 fun w10 =>
  F_dist_shut closed x4 w10 fun (b2 : Bool) w11 =>
  cond b2
  (X2 (()) w11)
  (F_turns_Turns_Prev t x4 w11 fun (s3 : Sl) w12 =>
  ∀ X3 : (Int × Unit) → World → Prop, (∀ (t3 : Int × Unit) (w13 : World), (
  cond (decide (t3.1 < ((s3.l : Nat) : Int)))
  ((0 ≤ t3.1 ∧ t3.1 < ((s3.l : Nat) : Int)) ∧
  onSome s3.b fun a6 =>
  ld1 (.int .i64) w13 (a6.add (Int.toNat t3.1 * 1)) fun (x7 : Int) =>
  (0 ≤ x7 ∧ x7 < ((s1.l : Nat) : Int)) ∧
  onSome s1.b fun a7 =>
  ld1 (.int .i64) w13 (a7.add (Int.toNat x7 * 1)) fun (x8 : Int) =>
  cond (decide (x8 < (0 : Int)))
  (F_dist_weight t x4 w13 fun (x9 : Int) w14 =>
  F_heap_Heap_Push (some a2) x7 (IntKind.wrap .i64 (x5 + x9)) w14 fun (_ : Bool) w15 =>
  X3 ((IntKind.wrap .i64 (t3.1 + (1 : Int))), ()) w15)
  (X3 ((IntKind.wrap .i64 (t3.1 + (1 : Int))), ()) w13))
  (X2 (()) w13)) → X3 t3 w13) →
  X3 ((0 : Int), ()) w12))
  (Q s1 w8)) → X2 t2 w7) →
  X2 (()) w5)) → X1 t1 w5) →
  X1 ((0 : Int), ()) w4)))
def G_dist_To (t : KTs [.c .ptr, .c (.int .i64), .c .slice]) (w : World) (K : Value → World → Prop) : Prop := F_dist_To t.1 t.2.1 t.2.2.1 w fun (r0 : Sl) w1 => K (Value.slice r0.b r0.l r0.c) w1
abbrev T_dist_To : Tr := fun args w K => decK [.c .ptr, .c (.int .i64), .c .slice] args fun t => G_dist_To t w K
theorem S_dist_To : Sound Tryz.prog 88 T_dist_To := sound_of (fn := Tryz.f88) Tryz.func88 (by kernel_rfl) mixed (by kernel_rfl) (.s .n (.s .n (.s .n (.s (.s .n (.b (.l [(42, .c (.int .i64))] [10, 42, 43, 44, 45, 46, 47, 48, 49] .n))) (.s (.b (.l [] [11, 12, 13, 15, 50, 51, 52, 53, 54, 55, 56, 57, 58, 59, 60, 61, 62, 63, 64, 65, 66, 67, 68, 69, 70, 71, 72, 73, 74, 75, 76, 77, 78, 79, 80, 81, 82, 83, 84, 85, 86, 87] (.s .n (.b (.s .n (.s .n (.s .n (.s .n (.b (.l [(70, .c (.int .i64))] [15, 70, 71, 72, 73, 74, 75, 76, 77, 78, 79, 80, 81, 82, 83, 84, 85, 86, 87] .n)))))))))) .n))))) [(34, T_graph_Graph_Nodes), (113, T_graph_Graph_In), (115, T_dist_none), (116, T_heap_Heap_Push), (117, T_heap_Heap_Len), (118, T_heap_Heap_Pop), (119, T_dist_shut), (120, T_turns_Turns_Prev), (121, T_dist_weight)] ⟨⟨by kernel_rfl, S_graph_Graph_Nodes⟩, ⟨by kernel_rfl, S_graph_Graph_In⟩, ⟨by kernel_rfl, S_dist_none⟩, ⟨by kernel_rfl, S_heap_Heap_Push⟩, ⟨by kernel_rfl, S_heap_Heap_Len⟩, ⟨by kernel_rfl, S_heap_Heap_Pop⟩, ⟨by kernel_rfl, S_dist_shut⟩, ⟨by kernel_rfl, S_turns_Turns_Prev⟩, ⟨by kernel_rfl, S_dist_weight⟩, trivial⟩ [.c .ptr, .c (.int .i64), .c .slice] (by kernel_rfl) G_dist_To fun t w K => by kernel_rfl

end Go.Proofs.YtjjgcimlmjnaeaaGreat
