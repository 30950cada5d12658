import Derived.Test.YtjjgcimlmjnaeaaGreatA1
import Derived.Test.YtjjgcimlmjnaeaaGreatFBase
import Derived.Test.YtjjgcimlmjnaeaaGreatFGra
namespace Go.Proofs.YtjjgcimlmjnaeaaGreat
open Go Go.Den
set_option maxRecDepth 100000
/-- milepost/turns.New -/
def F_turns_New (g : Option Addr) (w : World) (Q : (Option Addr) → World → Prop) : Prop :=
  cond (Option.isNone g)
  (Q none w)
  (F_graph_Graph_Edges g w fun (x1 : Int) w1 =>
  ∀ J1 : ((Option Addr) × Unit) → World → Prop, (∀ (t1 : (Option Addr) × Unit) (w2 : World), (
  ∀ X1 : (Int × Unit) → World → Prop, (∀ (t2 : Int × Unit) (w3 : World), (
  cond (decide (t2.1 < x1))
  (F_graph_Graph_Edge g t2.1 w3 fun (t3 : Int × Int × Int × Unit) (_ : Bool) w4 =>
  allocD w4 #[Value.int .i64 (0 : Int), Value.int .i64 (0 : Int), Value.int .i64 (0 : Int)] 49 fun a1 w5 =>
  storeD Tryz.prog 49 a1 (Value.agg #[(Value.int .i64 t3.1), (Value.int .i64 t3.2.1), (Value.int .i64 t3.2.2.1)]) w5 fun w6 =>
  ld1 (.int .i64) w6 (a1.add 1) fun (x2 : Int) =>
  F_graph_Graph_Out g x2 w6 fun (s1 : Sl) w7 =>
  ∀ X2 : (Int × Unit) → World → Prop, (∀ (t4 : Int × Unit) (w8 : World), (
  cond (decide (t4.1 < ((s1.l : Nat) : Int)))
  ((0 ≤ t4.1 ∧ t4.1 < ((s1.l : Nat) : Int)) ∧
  onSome s1.b fun a2 =>
  ld1 (.int .i64) w8 (a2.add (Int.toNat t4.1 * 1)) fun (x3 : Int) =>
  F_graph_Graph_Banned g t2.1 x3 w8 fun (b2 : Bool) w9 =>
  cond (!b2)
  (onSome t1.1 fun a3 =>
  ld1 .slice w9.drew (a3.add 1) fun (s2 : Sl) =>
  onSome t1.1 fun a4 =>
  ld1 .slice w9.drew (a4.add 1) fun (s3 : Sl) =>
  (0 ≤ t2.1 ∧ t2.1 < ((s3.l : Nat) : Int)) ∧
  onSome s3.b fun a5 =>
  ld1 .slice w9.drew (a5.add (Int.toNat t2.1 * 1)) fun (s4 : Sl) =>
  allocD w9.drew #[Value.int .i64 x3] 3 fun a6 w10 =>
  w10.cell? (a5.add (Int.toNat t2.1 * 1)) = some (Value.slice s4.b s4.l s4.c) ∧
  w10.cell? (a4.add 1) = some (Value.slice s3.b s3.l s3.c) ∧
  w10.cell? (a3.add 1) = some (Value.slice s2.b s2.l s2.c) ∧
  appendD Tryz.prog 22 22 s4 (Value.slice (some a6) 1 1) w10 fun (s5 : Sl) w11 =>
  w11.cell? (a3.add 1) = some (Value.slice s2.b s2.l s2.c) ∧
  (0 ≤ t2.1 ∧ t2.1 < ((s2.l : Nat) : Int)) ∧
  onSome s2.b fun a7 =>
  storeD Tryz.prog 22 (a7.add (Int.toNat t2.1 * 1)) (Value.slice s5.b s5.l s5.c) w11 fun w12 =>
  onSome t1.1 fun a8 =>
  ld1 .slice w12.drew (a8.add 2) fun (s6 : Sl) =>
  onSome t1.1 fun a9 =>
  ld1 .slice w12.drew (a9.add 2) fun (s7 : Sl) =>
  (0 ≤ x3 ∧ x3 < ((s7.l : Nat) : Int)) ∧
  onSome s7.b fun a10 =>
  ld1 .slice w12.drew (a10.add (Int.toNat x3 * 1)) fun (s8 : Sl) =>
  allocD w12.drew #[Value.int .i64 t2.1] 3 fun a11 w13 =>
  w13.cell? (a10.add (Int.toNat x3 * 1)) = some (Value.slice s8.b s8.l s8.c) ∧
  w13.cell? (a9.add 2) = some (Value.slice s7.b s7.l s7.c) ∧
  w13.cell? (a8.add 2) = some (Value.slice s6.b s6.l s6.c) ∧
  appendD Tryz.prog 22 22 s8 (Value.slice (some a11) 1 1) w13 fun (s9 : Sl) w14 =>
  w14.cell? (a8.add 2) = some (Value.slice s6.b s6.l s6.c) ∧
  (0 ≤ x3 ∧ x3 < ((s6.l : Nat) : Int)) ∧
  onSome s6.b fun a12 =>
  storeD Tryz.prog 22 (a12.add (Int.toNat x3 * 1)) (Value.slice s9.b s9.l s9.c) w14 fun w15 =>
  X2 ((IntKind.wrap .i64 (t4.1 + (1 : Int))), ()) w15)
  (X2 ((IntKind.wrap .i64 (t4.1 + (1 : Int))), ()) w9))
  (X1 ((IntKind.wrap .i64 (t2.1 + (1 : Int))), ()) w8)) → X2 t4 w8) →
  X2 ((0 : Int), ()) w7)
  (Q t1.1 w3)) → X1 t2 w3) →
  X1 ((0 : Int), ()) w2) → J1 t1 w2) →
  (makeSliceD Tryz.prog 82 (Value.int .i64 x1) (Value.int .i64 x1) w1.drew fun (s10 : Sl) w16 =>
  makeSliceD Tryz.prog 82 (Value.int .i64 x1) (Value.int .i64 x1) w16 fun (s11 : Sl) w17 =>
  allocD w17 #[Value.pointer g, Value.slice s10.b s10.l s10.c, Value.slice s11.b s11.l s11.c] 84 fun a13 w18 =>
  J1 ((some a13), ()) w18) ∧
  (makeSliceD Tryz.prog 82 (Value.int .i64 x1) (Value.int .i64 x1) w1.drew fun (s12 : Sl) w19 =>
  makeSliceD Tryz.prog 82 (Value.int .i64 x1) (Value.int .i64 x1) w19 fun (s13 : Sl) w20 =>
  allocD w20 #[Value.pointer g, Value.slice s13.b s13.l s13.c, Value.slice s12.b s12.l s12.c] 84 fun a14 w21 =>
  J1 ((some a14), ()) w21))
def G_turns_New (t : KTs [.c .ptr]) (w : World) (K : Value → World → Prop) : Prop := F_turns_New t.1 w fun (r0 : Option Addr) w1 => K (Value.pointer r0) w1
abbrev T_turns_New : Tr := fun args w K => decK [.c .ptr] args fun t => G_turns_New t w K
theorem S_turns_New : Sound Tryz.prog 54 T_turns_New := sound_of (fn := Tryz.f54) Tryz.func54 (by kernel_rfl) mixed (by kernel_rfl) (.s .n (.s .n (.s .n (.j [(4, .c .ptr)] [4, 14, 15, 16, 17, 18, 19, 20] (.r (.fl 0 (.fl 1 (.fl 3 (.mn 2 (.mn 4 (.fl 5 (.mn 6 (.fl 7 .fin) .no)) .no) (.mn 4 (.mn 2 (.fl 5 (.mn 6 (.fl 7 .fin) .no)) .no) .no)))))) (.s (.s .n (.b (.l [(22, .c (.int .i64))] [5, 6, 7, 9, 22, 23, 24, 25, 26, 27, 28, 29, 30, 31, 32, 33, 34, 35, 36, 37, 38, 39, 40, 41, 42, 43, 44, 45, 46, 47, 48, 49, 50, 51, 52, 53, 54, 55, 56, 57, 58, 59, 60, 61, 62, 63, 64, 65, 66, 67, 68, 69, 70, 71, 72, 73, 74, 75, 76, 77, 78] (.s .n (.s .n (.s (.b (.s .n (.s .n (.s .n (.b (.l [(36, .c (.int .i64))] [9, 36, 37, 38, 39, 40, 41, 42, 43, 44, 45, 46, 47, 48, 49, 50, 51, 52, 53, 54, 55, 56, 57, 58, 59, 60, 61, 62, 63, 64, 65, 66, 67, 68, 69, 70, 71, 72, 73, 74, 75, 76, 77] (.s .n (.s .n (.s (.b (.s .n (.s .n (.c (.s (.r (.fl 0 (.fl 1 (.fl 2 (.fl 3 (.fl 4 (.fl 5 (.fl 6 (.fl 7 (.fl 8 (.fl 9 (.fl 10 (.fl 11 (.fl 12 (.mn 13 (.mn 14 (.fl 15 (.mn 16 .fin .no)) .no) .no))))))))))))))) (.r (.fl 0 (.fl 1 (.fl 2 (.fl 3 (.fl 4 (.fl 5 (.fl 6 (.fl 7 (.fl 8 (.fl 9 (.fl 10 (.fl 11 (.fl 12 (.mn 13 (.mn 14 (.fl 15 (.mn 16 .fin .no)) .no) .no)))))))))))))))) .n)))) .n))))))))) .n)))))) .n))))) [(33, T_graph_Graph_Edges), (41, T_graph_Graph_Edge), (75, T_graph_Graph_Out), (76, T_graph_Graph_Banned)] ⟨⟨by kernel_rfl, S_graph_Graph_Edges⟩, ⟨by kernel_rfl, S_graph_Graph_Edge⟩, ⟨by kernel_rfl, S_graph_Graph_Out⟩, ⟨by kernel_rfl, S_graph_Graph_Banned⟩, trivial⟩ [.c .ptr] (by kernel_rfl) G_turns_New fun t w K => by kernel_rfl

/-- (*milepost/turns.Turns).Arcs -/
def F_turns_Turns_Arcs (t : Option Addr) (w : World) (Q : Sl → World → Prop) : Prop :=
  cond (Option.isNone t)
  (Q ⟨none, 0, 0⟩ w)
  (onSome t fun a1 =>
  ld1 .slice w (a1.add 1) fun (s1 : Sl) =>
  ∀ X1 : (Sl × Int × Unit) → World → Prop, (∀ (t1 : Sl × Int × Unit) (w1 : World), (
  cond (decide (t1.2.1 < ((s1.l : Nat) : Int)))
  ((0 ≤ t1.2.1 ∧ t1.2.1 < ((s1.l : Nat) : Int)) ∧
  onSome s1.b fun a2 =>
  ld1 .slice w1 (a2.add (Int.toNat t1.2.1 * 1)) fun (s2 : Sl) =>
  ∀ X2 : (Sl × Int × Unit) → World → Prop, (∀ (t2 : Sl × Int × Unit) (w2 : World), (
  cond (decide (t2.2.1 < ((s2.l : Nat) : Int)))
  ((0 ≤ t2.2.1 ∧ t2.2.1 < ((s2.l : Nat) : Int)) ∧
  onSome s2.b fun a3 =>
  ld1 (.int .i64) w2 (a3.add (Int.toNat t2.2.1 * 1)) fun (x1 : Int) =>
  onSome t fun a4 =>
  ld1 .ptr w2 (a4.add 0) fun (p1 : Option Addr) =>
  F_graph_Graph_Edge p1 x1 w2 fun (t3 : Int × Int × Int × Unit) (_ : Bool) w3 =>
  allocD w3 #[Value.int .i64 (0 : Int), Value.int .i64 (0 : Int), Value.int .i64 (0 : Int)] 49 fun a5 w4 =>
  storeD Tryz.prog 49 a5 (Value.agg #[(Value.int .i64 t3.1), (Value.int .i64 t3.2.1), (Value.int .i64 t3.2.2.1)]) w4 fun w5 =>
  ld1 (.int .i64) w5 (a5.add 2) fun (x2 : Int) =>
  allocD w5 #[Value.int .i64 t1.2.1, Value.int .i64 x1, Value.int .i64 x2, Value.int .i64 (-1 : Int)] 91 fun a6 w6 =>
  appendD Tryz.prog 88 88 t2.1 (Value.slice (some a6) 1 1) w6 fun (s3 : Sl) w7 =>
  X2 (s3, (IntKind.wrap .i64 (t2.2.1 + (1 : Int))), ()) w7)
  (X1 (t2.1, (IntKind.wrap .i64 (t1.2.1 + (1 : Int))), ()) w2)) → X2 t2 w2) →
  X2 (t1.1, (0 : Int), ()) w1)
  (Q t1.1 w1)) → X1 t1 w1) →
  X1 (⟨none, 0, 0⟩, (0 : Int), ()) w)
def G_turns_Turns_Arcs (t : KTs [.c .ptr]) (w : World) (K : Value → World → Prop) : Prop := F_turns_Turns_Arcs t.1 w fun (r0 : Sl) w1 => K (Value.slice r0.b r0.l r0.c) w1
abbrev T_turns_Turns_Arcs : Tr := fun args w K => decK [.c .ptr] args fun t => G_turns_Turns_Arcs t w K
theorem S_turns_Turns_Arcs : Sound Tryz.prog 57 T_turns_Turns_Arcs := sound_of (fn := Tryz.f57) Tryz.func57 (by kernel_rfl) mixed (by kernel_rfl) (.s .n (.s .n (.s (.s .n (.b (.l [(2, .c .slice), (16, .c (.int .i64))] [2, 3, 4, 6, 7, 8, 16, 17, 18, 19, 20, 21, 22, 23, 24, 25, 26, 27, 28, 29, 30, 31, 32, 33, 34, 35, 36, 37, 38, 39, 40, 41, 42, 43, 44, 45] (.s .n (.s .n (.s (.b (.s .n (.s .n (.b (.l [(2, .c .slice), (23, .c (.int .i64))] [2, 6, 7, 8, 23, 24, 25, 26, 27, 28, 29, 30, 31, 32, 33, 34, 35, 36, 37, 38, 39, 40, 41, 42, 43, 44] .n))))) .n)))))) .n))) [(41, T_graph_Graph_Edge)] ⟨⟨by kernel_rfl, S_graph_Graph_Edge⟩, trivial⟩ [.c .ptr] (by kernel_rfl) G_turns_Turns_Arcs fun t w K => by kernel_rfl

/-- milepost/walk.Weight -/
def F_walk_Weight (t : Option Addr) (edges : Sl) (w : World) (Q : Int → Bool → World → Prop) : Prop :=
  ∀ X1 : (Int × Int × Unit) → World → Prop, (∀ (t1 : Int × Int × Unit) (w1 : World), (
  cond (decide (t1.2.1 < ((edges.l : Nat) : Int)))
  ((0 ≤ t1.2.1 ∧ t1.2.1 < ((edges.l : Nat) : Int)) ∧
  onSome edges.b fun a1 =>
  ld1 (.int .i64) w1 (a1.add (Int.toNat t1.2.1 * 1)) fun (x1 : Int) =>
  cond (Option.isNone t)
  (Q (0 : Int) false w1)
  (onSome t fun a2 =>
  ld1 .ptr w1 (a2.add 0) fun (p1 : Option Addr) =>
  F_graph_Graph_Edge p1 x1 w1 fun (t2 : Int × Int × Int × Unit) (b1 : Bool) w2 =>
  allocD w2 #[Value.int .i64 (0 : Int), Value.int .i64 (0 : Int), Value.int .i64 (0 : Int)] 49 fun a3 w3 =>
  storeD Tryz.prog 49 a3 (Value.agg #[(Value.int .i64 t2.1), (Value.int .i64 t2.2.1), (Value.int .i64 t2.2.2.1)]) w3 fun w4 =>
  cond (!b1)
  (Q (0 : Int) false w4)
  (ld1 (.int .i64) w4 (a3.add 2) fun (x2 : Int) =>
  X1 ((IntKind.wrap .i64 (t1.1 + x2)), (IntKind.wrap .i64 (t1.2.1 + (1 : Int))), ()) w4)))
  (Q t1.1 true w1)) → X1 t1 w1) →
  X1 ((0 : Int), (0 : Int), ()) w
def G_walk_Weight (t : KTs [.c .ptr, .c .slice]) (w : World) (K : Value → World → Prop) : Prop := F_walk_Weight t.1 t.2.1 w fun (r0 : Int) (r1 : Bool) w1 => K (Value.tuple #[(Value.int .i64 r0), (Value.bool r1)]) w1
abbrev T_walk_Weight : Tr := fun args w K => decK [.c .ptr, .c .slice] args fun t => G_walk_Weight t w K
theorem S_walk_Weight : Sound Tryz.prog 89 T_walk_Weight := sound_of (fn := Tryz.f89) Tryz.func89 (by kernel_rfl) mixed (by kernel_rfl) (.s .n (.s (.s .n (.b (.l [(4, .c (.int .i64)), (12, .c (.int .i64))] [4, 5, 7, 8, 9, 12, 13, 14, 15, 16, 17, 18, 19, 20, 21, 22, 23, 24, 25, 26, 27, 28, 29, 30, 31, 32, 33] .n))) .n)) [(41, T_graph_Graph_Edge)] ⟨⟨by kernel_rfl, S_graph_Graph_Edge⟩, trivial⟩ [.c .ptr, .c .slice] (by kernel_rfl) G_walk_Weight fun t w K => by kernel_rfl

/-- (*milepost/turns.Turns).May -/
def F_turns_Turns_May (t : Option Addr) (a : Int) (b : Int) (w : World) (Q : Bool → World → Prop) : Prop :=
  cond (Option.isNone t)
  (Q false w)
  (onSome t fun a1 =>
  ld1 .ptr w (a1.add 0) fun (p1 : Option Addr) =>
  F_graph_Graph_Edge p1 a w fun (t1 : Int × Int × Int × Unit) (b1 : Bool) w1 =>
  allocD w1 #[Value.int .i64 (0 : Int), Value.int .i64 (0 : Int), Value.int .i64 (0 : Int)] 49 fun a2 w2 =>
  storeD Tryz.prog 49 a2 (Value.agg #[(Value.int .i64 t1.1), (Value.int .i64 t1.2.1), (Value.int .i64 t1.2.2.1)]) w2 fun w3 =>
  onSome t fun a3 =>
  ld1 .ptr w3 (a3.add 0) fun (p2 : Option Addr) =>
  F_graph_Graph_Edge p2 b w3 fun (t2 : Int × Int × Int × Unit) (b2 : Bool) w4 =>
  allocD w4 #[Value.int .i64 (0 : Int), Value.int .i64 (0 : Int), Value.int .i64 (0 : Int)] 49 fun a4 w5 =>
  storeD Tryz.prog 49 a4 (Value.agg #[(Value.int .i64 t2.1), (Value.int .i64 t2.2.1), (Value.int .i64 t2.2.2.1)]) w5 fun w6 =>
  cond b1
  (cond b2
  (ld1 (.int .i64) w6 (a2.add 1) fun (x1 : Int) =>
  ld1 (.int .i64) w6 (a4.add 0) fun (x2 : Int) =>
  cond (x1 == x2)
  (onSome t fun a5 =>
  ld1 .ptr w6 (a5.add 0) fun (p3 : Option Addr) =>
  F_graph_Graph_Banned p3 a b w6 fun (b3 : Bool) w7 =>
  Q (!b3) w7)
  (Q false w6))
  (Q false w6))
  (Q false w6))
def G_turns_Turns_May (t : KTs [.c .ptr, .c (.int .i64), .c (.int .i64)]) (w : World) (K : Value → World → Prop) : Prop := F_turns_Turns_May t.1 t.2.1 t.2.2.1 w fun (r0 : Bool) w1 => K (Value.bool r0) w1
abbrev T_turns_Turns_May : Tr := fun args w K => decK [.c .ptr, .c (.int .i64), .c (.int .i64)] args fun t => G_turns_Turns_May t w K
theorem S_turns_Turns_May : Sound Tryz.prog 122 T_turns_Turns_May := sound_of (fn := Tryz.f122) Tryz.func122 (by kernel_rfl) mixed (by kernel_rfl) (.n) [(41, T_graph_Graph_Edge), (76, T_graph_Graph_Banned)] ⟨⟨by kernel_rfl, S_graph_Graph_Edge⟩, ⟨by kernel_rfl, S_graph_Graph_Banned⟩, trivial⟩ [.c .ptr, .c (.int .i64), .c (.int .i64)] (by kernel_rfl) G_turns_Turns_May fun t w K => by kernel_rfl

/-- milepost/walk.Valid -/
def F_walk_Valid (t : Option Addr) (from_ : Int) (edges : Sl) (w : World) (Q : Bool → World → Prop) : Prop :=
  cond (Option.isNone t)
  (Q false w)
  (cond (decide (from_ < (0 : Int)))
  (Q false w)
  (onSome t fun a1 =>
  ld1 .ptr w (a1.add 0) fun (p1 : Option Addr) =>
  F_graph_Graph_Edges p1 w fun (x1 : Int) w1 =>
  cond (decide (from_ ≥ x1))
  (Q false w1)
  (∀ X1 : (Int × Int × Unit) → World → Prop, (∀ (t1 : Int × Int × Unit) (w2 : World), (
  cond (decide (t1.2.1 < ((edges.l : Nat) : Int)))
  ((0 ≤ t1.2.1 ∧ t1.2.1 < ((edges.l : Nat) : Int)) ∧
  onSome edges.b fun a2 =>
  ld1 (.int .i64) w2 (a2.add (Int.toNat t1.2.1 * 1)) fun (x2 : Int) =>
  F_turns_Turns_May t t1.1 x2 w2 fun (b1 : Bool) w3 =>
  cond (!b1)
  (Q false w3)
  (X1 (x2, (IntKind.wrap .i64 (t1.2.1 + (1 : Int))), ()) w3))
  (Q true w2)) → X1 t1 w2) →
  X1 (from_, (0 : Int), ()) w1)))
def G_walk_Valid (t : KTs [.c .ptr, .c (.int .i64), .c .slice]) (w : World) (K : Value → World → Prop) : Prop := F_walk_Valid t.1 t.2.1 t.2.2.1 w fun (r0 : Bool) w1 => K (Value.bool r0) w1
abbrev T_walk_Valid : Tr := fun args w K => decK [.c .ptr, .c (.int .i64), .c .slice] args fun t => G_walk_Valid t w K
theorem S_walk_Valid : Sound Tryz.prog 90 T_walk_Valid := sound_of (fn := Tryz.f90) Tryz.func90 (by kernel_rfl) mixed (by kernel_rfl) (.s .n (.s .n (.s (.s .n (.b (.l [(1, .c (.int .i64)), (26, .c (.int .i64))] [1, 6, 8, 26, 27, 28, 29, 30, 31, 32, 33, 34, 35, 36] .n))) .n))) [(33, T_graph_Graph_Edges), (122, T_turns_Turns_May)] ⟨⟨by kernel_rfl, S_graph_Graph_Edges⟩, ⟨by kernel_rfl, S_turns_Turns_May⟩, trivial⟩ [.c .ptr, .c (.int .i64), .c .slice] (by kernel_rfl) G_walk_Valid fun t w K => by kernel_rfl

/-- milepost/turns.some -/
def F_turns_some (l : Sl) (e_ : Int) (w : World) (Q : Sl → World → Prop) : Prop :=
  cond (decide (e_ < (0 : Int)))
  (Q ⟨none, 0, 0⟩ w)
  (cond (decide (e_ ≥ ((l.l : Nat) : Int)))
  (Q ⟨none, 0, 0⟩ w)
  ((0 ≤ e_ ∧ e_ < ((l.l : Nat) : Int)) ∧
  onSome l.b fun a1 =>
  ld1 .slice w (a1.add (Int.toNat e_ * 1)) fun (s1 : Sl) =>
  appendD Tryz.prog 22 22 ⟨none, 0, 0⟩ (Value.slice s1.b s1.l s1.c) w fun (s2 : Sl) w1 =>
  Q s2 w1))
def G_turns_some (t : KTs [.c .slice, .c (.int .i64)]) (w : World) (K : Value → World → Prop) : Prop := F_turns_some t.1 t.2.1 w fun (r0 : Sl) w1 => K (Value.slice r0.b r0.l r0.c) w1
abbrev T_turns_some : Tr := fun args w K => decK [.c .slice, .c (.int .i64)] args fun t => G_turns_some t w K
theorem S_turns_some : Sound Tryz.prog 141 T_turns_some := sound_of (fn := Tryz.f141) Tryz.func141 (by kernel_rfl) mixed (by kernel_rfl) (.n) [] trivial [.c .slice, .c (.int .i64)] (by kernel_rfl) G_turns_some fun t w K => by kernel_rfl

/-- (*milepost/turns.Turns).Prev -/
def F_turns_Turns_Prev (t : Option Addr) (e_ : Int) (w : World) (Q : Sl → World → Prop) : Prop :=
  cond (Option.isNone t)
  (Q ⟨none, 0, 0⟩ w)
  (onSome t fun a1 =>
  ld1 .slice w (a1.add 2) fun (s1 : Sl) =>
  F_turns_some s1 e_ w fun (s2 : Sl) w1 =>
  Q s2 w1)
def G_turns_Turns_Prev (t : KTs [.c .ptr, .c (.int .i64)]) (w : World) (K : Value → World → Prop) : Prop := F_turns_Turns_Prev t.1 t.2.1 w fun (r0 : Sl) w1 => K (Value.slice r0.b r0.l r0.c) w1
abbrev T_turns_Turns_Prev : Tr := fun args w K => decK [.c .ptr, .c (.int .i64)] args fun t => G_turns_Turns_Prev t w K
theorem S_turns_Turns_Prev : Sound Tryz.prog 120 T_turns_Turns_Prev := sound_of (fn := Tryz.f120) Tryz.func120 (by kernel_rfl) mixed (by kernel_rfl) (.n) [(141, T_turns_some)] ⟨⟨by kernel_rfl, S_turns_some⟩, trivial⟩ [.c .ptr, .c (.int .i64)] (by kernel_rfl) G_turns_Turns_Prev fun t w K => by kernel_rfl

/-- (*milepost/turns.Turns).Next -/
def F_turns_Turns_Next (t : Option Addr) (e_ : Int) (w : World) (Q : Sl → World → Prop) : Prop :=
  cond (Option.isNone t)
  (Q ⟨none, 0, 0⟩ w)
  (onSome t fun a1 =>
  ld1 .slice w (a1.add 1) fun (s1 : Sl) =>
  F_turns_some s1 e_ w fun (s2 : Sl) w1 =>
  Q s2 w1)
def G_turns_Turns_Next (t : KTs [.c .ptr, .c (.int .i64)]) (w : World) (K : Value → World → Prop) : Prop := F_turns_Turns_Next t.1 t.2.1 w fun (r0 : Sl) w1 => K (Value.slice r0.b r0.l r0.c) w1
abbrev T_turns_Turns_Next : Tr := fun args w K => decK [.c .ptr, .c (.int .i64)] args fun t => G_turns_Turns_Next t w K
theorem S_turns_Turns_Next : Sound Tryz.prog 123 T_turns_Turns_Next := sound_of (fn := Tryz.f123) Tryz.func123 (by kernel_rfl) mixed (by kernel_rfl) (.n) [(141, T_turns_some)] ⟨⟨by kernel_rfl, S_turns_some⟩, trivial⟩ [.c .ptr, .c (.int .i64)] (by kernel_rfl) G_turns_Turns_Next fun t w K => by kernel_rfl

end Go.Proofs.YtjjgcimlmjnaeaaGreat
