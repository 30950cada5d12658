import Derived.Test.YtjjgcimlmjnaeaaGreatA1
import Derived.Test.YtjjgcimlmjnaeaaGreatFBase
import Derived.Test.YtjjgcimlmjnaeaaGreatFNet
import Derived.Test.YtjjgcimlmjnaeaaGreatFSea
namespace Go.Proofs.YtjjgcimlmjnaeaaGreat
open Go Go.Den
set_option maxRecDepth 100000
/-- (*milepost/graph.Graph).Edges -/
def F_graph_Graph_Edges (g : Option Addr) (w : World) (Q : Int → World → Prop) : Prop :=
  cond (Option.isNone g)
  (Q (0 : Int) w)
  (onSome g fun a1 =>
  ld1 .slice w ((a1.add 0).add 1) fun (s1 : Sl) =>
  Q ((s1.l : Nat) : Int) w)
def G_graph_Graph_Edges (t : KTs [.c .ptr]) (w : World) (K : Value → World → Prop) : Prop := F_graph_Graph_Edges t.1 w fun (r0 : Int) w1 => K (Value.int .i64 r0) w1
abbrev T_graph_Graph_Edges : Tr := fun args w K => decK [.c .ptr] args fun t => G_graph_Graph_Edges t w K
theorem S_graph_Graph_Edges : Sound Tryz.prog 33 T_graph_Graph_Edges := sound_of (fn := Tryz.f33) Tryz.func33 (by kernel_rfl) mixed (by kernel_rfl) (.n) [] trivial [.c .ptr] (by kernel_rfl) G_graph_Graph_Edges fun t w K => by kernel_rfl

/-- (*milepost/graph.Graph).Nodes -/
def F_graph_Graph_Nodes (g : Option Addr) (w : World) (Q : Int → World → Prop) : Prop :=
  cond (Option.isNone g)
  (Q (0 : Int) w)
  (onSome g fun a1 =>
  ld1 .slice w ((a1.add 0).add 0) fun (s1 : Sl) =>
  Q ((s1.l : Nat) : Int) w)
def G_graph_Graph_Nodes (t : KTs [.c .ptr]) (w : World) (K : Value → World → Prop) : Prop := F_graph_Graph_Nodes t.1 w fun (r0 : Int) w1 => K (Value.int .i64 r0) w1
abbrev T_graph_Graph_Nodes : Tr := fun args w K => decK [.c .ptr] args fun t => G_graph_Graph_Nodes t w K
theorem S_graph_Graph_Nodes : Sound Tryz.prog 34 T_graph_Graph_Nodes := sound_of (fn := Tryz.f34) Tryz.func34 (by kernel_rfl) mixed (by kernel_rfl) (.n) [] trivial [.c .ptr] (by kernel_rfl) G_graph_Graph_Nodes fun t w K => by kernel_rfl

/-- (*milepost/graph.Graph).Edge -/
def F_graph_Graph_Edge (g : Option Addr) (i : Int) (w : World) (Q : (Int × Int × Int × Unit) → Bool → World → Prop) : Prop :=
  allocD w #[Value.int .i64 (0 : Int), Value.int .i64 (0 : Int), Value.int .i64 (0 : Int)] 49 fun a1 w1 =>
  cond (decide (i < (0 : Int)))
  (storeD Tryz.prog 49 a1 (Value.agg #[(Value.int .i64 (0 : Int)), (Value.int .i64 (0 : Int)), (Value.int .i64 (0 : Int))]) w1 fun w2 =>
  ldN [.int .i64, .int .i64, .int .i64] w2 a1 fun (t1 : Int × Int × Int × Unit) =>
  Q (t1.1, t1.2.1, t1.2.2.1, ()) false w2)
  (F_graph_Graph_Edges g w1 fun (x1 : Int) w3 =>
  cond (decide (i ≥ x1))
  (storeD Tryz.prog 49 a1 (Value.agg #[(Value.int .i64 (0 : Int)), (Value.int .i64 (0 : Int)), (Value.int .i64 (0 : Int))]) w3 fun w4 =>
  ldN [.int .i64, .int .i64, .int .i64] w4 a1 fun (t2 : Int × Int × Int × Unit) =>
  Q (t2.1, t2.2.1, t2.2.2.1, ()) false w4)
  (onSome g fun a2 =>
  ld1 .slice w3 ((a2.add 0).add 1) fun (s1 : Sl) =>
  (0 ≤ i ∧ i < ((s1.l : Nat) : Int)) ∧
  onSome s1.b fun a3 =>
  ldN [.int .i64, .int .i64, .int .i64] w3 (a3.add (Int.toNat i * 3)) fun (t3 : Int × Int × Int × Unit) =>
  storeD Tryz.prog 49 a1 (Value.agg #[(Value.int .i64 t3.1), (Value.int .i64 t3.2.1), (Value.int .i64 t3.2.2.1)]) w3 fun w5 =>
  ldN [.int .i64, .int .i64, .int .i64] w5 a1 fun (t4 : Int × Int × Int × Unit) =>
  Q (t4.1, t4.2.1, t4.2.2.1, ()) true w5))
def G_graph_Graph_Edge (t : KTs [.c .ptr, .c (.int .i64)]) (w : World) (K : Value → World → Prop) : Prop := F_graph_Graph_Edge t.1 t.2.1 w fun (r0 : Int × Int × Int × Unit) (r1 : Bool) w1 => K (Value.tuple #[(Value.agg #[(Value.int .i64 r0.1), (Value.int .i64 r0.2.1), (Value.int .i64 r0.2.2.1)]), (Value.bool r1)]) w1
abbrev T_graph_Graph_Edge : Tr := fun args w K => decK [.c .ptr, .c (.int .i64)] args fun t => G_graph_Graph_Edge t w K
theorem S_graph_Graph_Edge : Sound Tryz.prog 41 T_graph_Graph_Edge := sound_of (fn := Tryz.f41) Tryz.func41 (by kernel_rfl) mixed (by kernel_rfl) (.n) [(33, T_graph_Graph_Edges)] ⟨⟨by kernel_rfl, S_graph_Graph_Edges⟩, trivial⟩ [.c .ptr, .c (.int .i64)] (by kernel_rfl) G_graph_Graph_Edge fun t w K => by kernel_rfl

/-- milepost/graph.within -/
def F_graph_within (n : Int) (low : Int) (high : Int) (w : World) (Q : Bool → World → Prop) : Prop :=
  cond (decide (n ≥ low))
  (Q (decide (n ≤ high)) w)
  (Q false w)
def G_graph_within (t : KTs [.c (.int .i64), .c (.int .i64), .c (.int .i64)]) (w : World) (K : Value → World → Prop) : Prop := F_graph_within t.1 t.2.1 t.2.2.1 w fun (r0 : Bool) w1 => K (Value.bool r0) w1
abbrev T_graph_within : Tr := fun args w K => decK [.c (.int .i64), .c (.int .i64), .c (.int .i64)] args fun t => G_graph_within t w K
theorem S_graph_within : Sound Tryz.prog 97 T_graph_within := sound_of (fn := Tryz.f97) Tryz.func97 (by kernel_rfl) mixed (by kernel_rfl) (.n) [] trivial [.c (.int .i64), .c (.int .i64), .c (.int .i64)] (by kernel_rfl) G_graph_within fun t w K => by kernel_rfl

/-- cmp.Or[int] -/
def F_cmp_Or_int (vals : Sl) (w : World) (Q : Int → World → Prop) : Prop :=
  ∀ X1 : (Int × Unit) → World → Prop, (∀ (t1 : Int × Unit) (w1 : World), (
  cond (decide (t1.1 < ((vals.l : Nat) : Int)))
  ((0 ≤ t1.1 ∧ t1.1 < ((vals.l : Nat) : Int)) ∧
  onSome vals.b fun a1 =>
  ld1 (.int .i64) w1 (a1.add (Int.toNat t1.1 * 1)) fun (x1 : Int) =>
  cond (x1 != (0 : Int))
  (Q x1 w1)
  (X1 ((IntKind.wrap .i64 (t1.1 + (1 : Int))), ()) w1))
  (Q (0 : Int) w1)) → X1 t1 w1) →
  X1 ((0 : Int), ()) w
def G_cmp_Or_int (t : KTs [.c .slice]) (w : World) (K : Value → World → Prop) : Prop := F_cmp_Or_int t.1 w fun (r0 : Int) w1 => K (Value.int .i64 r0) w1
abbrev T_cmp_Or_int : Tr := fun args w K => decK [.c .slice] args fun t => G_cmp_Or_int t w K
theorem S_cmp_Or_int : Sound Tryz.prog 126 T_cmp_Or_int := sound_of (fn := Tryz.f126) Tryz.func126 (by kernel_rfl) mixed (by kernel_rfl) (.s .n (.s .n (.s (.s .n (.b (.l [(8, .c (.int .i64))] [2, 5, 8, 9, 10, 11, 12, 13, 14, 15, 16] .n))) .n))) [] trivial [.c .slice] (by kernel_rfl) G_cmp_Or_int fun t w K => by kernel_rfl

/-- milepost/graph.order -/
def F_graph_order (a : Int × Int × Unit) (b : Int × Int × Unit) (w : World) (Q : Int → World → Prop) : Prop :=
  allocD w #[Value.int .i64 a.1, Value.int .i64 a.2.1] 111 fun a1 w1 =>
  allocD w1 #[Value.int .i64 b.1, Value.int .i64 b.2.1] 111 fun a2 w2 =>
  ld1 (.int .i64) w2.drew (a1.add 0) fun (x1 : Int) =>
  ld1 (.int .i64) w2.drew (a2.add 0) fun (x2 : Int) =>
  ld1 (.int .i64) w2.drew (a1.add 1) fun (x3 : Int) =>
  ld1 (.int .i64) w2.drew (a2.add 1) fun (x4 : Int) =>
  F_cmp_Compare_int x1 x2 w2.drew fun (x5 : Int) w3 =>
  w3.cell? (a2.add 1) = some (Value.int .i64 x4) ∧
  w3.cell? (a1.add 1) = some (Value.int .i64 x3) ∧
  F_cmp_Compare_int x3 x4 w3 fun (x6 : Int) w4 =>
  allocD w4 #[Value.int .i64 x5, Value.int .i64 x6] 3 fun a3 w5 =>
  F_cmp_Or_int ⟨(some a3), 2, 2⟩ w5 fun (x7 : Int) w6 =>
  Q x7 w6
def G_graph_order (t : KTs [.agg [.int .i64, .int .i64], .agg [.int .i64, .int .i64]]) (w : World) (K : Value → World → Prop) : Prop := F_graph_order t.1 t.2.1 w fun (r0 : Int) w1 => K (Value.int .i64 r0) w1
abbrev T_graph_order : Tr := fun args w K => decK [.agg [.int .i64, .int .i64], .agg [.int .i64, .int .i64]] args fun t => G_graph_order t w K
theorem S_graph_order : Sound Tryz.prog 98 T_graph_order := sound_of (fn := Tryz.f98) Tryz.func98 (by kernel_rfl) mixed (by kernel_rfl) (.s .n (.s (.r (.fl 0 (.fl 1 (.fl 2 (.fl 3 (.fl 5 (.fl 6 (.fl 7 (.fl 8 (.mn 4 (.mn 9 (.mn 10 (.mn 11 (.fl 12 .fin) .no) .no) .no) .no)))))))))) .n)) [(126, T_cmp_Or_int), (127, T_cmp_Compare_int)] ⟨⟨by kernel_rfl, S_cmp_Or_int⟩, ⟨by kernel_rfl, S_cmp_Compare_int⟩, trivial⟩ [.agg [.int .i64, .int .i64], .agg [.int .i64, .int .i64]] (by kernel_rfl) G_graph_order fun t w K => by kernel_rfl

/-- milepost/graph.may -/
def F_graph_may (g : Sl × Sl × Sl × Unit) (w : World) (Q : Bool → World → Prop) : Prop :=
  allocD w #[Value.slice g.1.b g.1.l g.1.c, Value.slice g.2.1.b g.2.1.l g.2.1.c, Value.slice g.2.2.1.b g.2.2.1.l g.2.2.1.c] 28 fun a1 w1 =>
  ld1 .slice w1 (a1.add 0) fun (s1 : Sl) =>
  F_graph_within ((s1.l : Nat) : Int) (1 : Int) (256 : Int) w1 fun (b1 : Bool) w2 =>
  cond (!b1)
  (Q false w2)
  (ld1 .slice w2 (a1.add 1) fun (s2 : Sl) =>
  cond (decide (((s2.l : Nat) : Int) > (512 : Int)))
  (Q false w2)
  (ld1 .slice w2 (a1.add 2) fun (s3 : Sl) =>
  cond (decide (((s3.l : Nat) : Int) > (1024 : Int)))
  (Q false w2)
  (ld1 .slice w2 (a1.add 0) fun (s4 : Sl) =>
  ∀ X1 : (Int × Unit) → World → Prop, (∀ (t1 : Int × Unit) (w3 : World), (
  cond (decide (t1.1 < ((s4.l : Nat) : Int)))
  ((0 ≤ t1.1 ∧ t1.1 < ((s4.l : Nat) : Int)) ∧
  onSome s4.b fun a2 =>
  ldN [.int .i64, .int .i64] w3 (a2.add (Int.toNat t1.1 * 2)) fun (t2 : Int × Int × Unit) =>
  allocD w3 #[Value.int .i64 (0 : Int), Value.int .i64 (0 : Int)] 108 fun a3 w4 =>
  storeD Tryz.prog 108 a3 (Value.agg #[(Value.int .i64 t2.1), (Value.int .i64 t2.2.1)]) w4 fun w5 =>
  ld1 (.int .i64) w5 (a3.add 0) fun (x1 : Int) =>
  F_graph_within x1 (0 : Int) (4095 : Int) w5 fun (b2 : Bool) w6 =>
  cond (!b2)
  (Q false w6)
  (ld1 (.int .i64) w6 (a3.add 1) fun (x2 : Int) =>
  F_graph_within x2 (0 : Int) (4095 : Int) w6 fun (b3 : Bool) w7 =>
  cond (!b3)
  (Q false w7)
  (X1 ((IntKind.wrap .i64 (t1.1 + (1 : Int))), ()) w7)))
  (ld1 .slice w3 (a1.add 0) fun (s5 : Sl) =>
  ld1 .slice w3 (a1.add 1) fun (s6 : Sl) =>
  ∀ X2 : (Int × Unit) → World → Prop, (∀ (t3 : Int × Unit) (w8 : World), (
  cond (decide (t3.1 < ((s6.l : Nat) : Int)))
  ((0 ≤ t3.1 ∧ t3.1 < ((s6.l : Nat) : Int)) ∧
  onSome s6.b fun a4 =>
  ldN [.int .i64, .int .i64, .int .i64] w8 (a4.add (Int.toNat t3.1 * 3)) fun (t4 : Int × Int × Int × Unit) =>
  allocD w8 #[Value.int .i64 (0 : Int), Value.int .i64 (0 : Int), Value.int .i64 (0 : Int)] 49 fun a5 w9 =>
  storeD Tryz.prog 49 a5 (Value.agg #[(Value.int .i64 t4.1), (Value.int .i64 t4.2.1), (Value.int .i64 t4.2.2.1)]) w9 fun w10 =>
  ld1 (.int .i64) w10 (a5.add 0) fun (x3 : Int) =>
  F_graph_within x3 (0 : Int) (IntKind.wrap .i64 (((s5.l : Nat) : Int) - (1 : Int))) w10 fun (b4 : Bool) w11 =>
  cond (!b4)
  (Q false w11)
  (ld1 (.int .i64) w11 (a5.add 1) fun (x4 : Int) =>
  F_graph_within x4 (0 : Int) (IntKind.wrap .i64 (((s5.l : Nat) : Int) - (1 : Int))) w11 fun (b5 : Bool) w12 =>
  cond (!b5)
  (Q false w12)
  (ld1 (.int .i64) w12 (a5.add 2) fun (x5 : Int) =>
  F_graph_within x5 (1 : Int) (65535 : Int) w12 fun (b6 : Bool) w13 =>
  cond (!b6)
  (Q false w13)
  (X2 ((IntKind.wrap .i64 (t3.1 + (1 : Int))), ()) w13))))
  (ld1 .slice w8 (a1.add 2) fun (s7 : Sl) =>
  ∀ X3 : (Int × Unit) → World → Prop, (∀ (t5 : Int × Unit) (w14 : World), (
  cond (decide (t5.1 < ((s7.l : Nat) : Int)))
  ((0 ≤ t5.1 ∧ t5.1 < ((s7.l : Nat) : Int)) ∧
  onSome s7.b fun a6 =>
  ldN [.int .i64, .int .i64] w14 (a6.add (Int.toNat t5.1 * 2)) fun (t6 : Int × Int × Unit) =>
  allocD w14 #[Value.int .i64 (0 : Int), Value.int .i64 (0 : Int)] 111 fun a7 w15 =>
  storeD Tryz.prog 111 a7 (Value.agg #[(Value.int .i64 t6.1), (Value.int .i64 t6.2.1)]) w15 fun w16 =>
  ld1 .slice w16 (a1.add 1) fun (s8 : Sl) =>
  ld1 (.int .i64) w16.drew (a7.add 0) fun (x6 : Int) =>
  F_graph_within x6 (0 : Int) (IntKind.wrap .i64 (((s8.l : Nat) : Int) - (1 : Int))) w16.drew fun (b7 : Bool) w17 =>
  cond (!b7)
  (Q false w17)
  (ld1 (.int .i64) w17 (a7.add 1) fun (x7 : Int) =>
  F_graph_within x7 (0 : Int) (IntKind.wrap .i64 (((s8.l : Nat) : Int) - (1 : Int))) w17 fun (b8 : Bool) w18 =>
  cond (!b8)
  (Q false w18)
  (ld1 .slice w18 (a1.add 1) fun (s9 : Sl) =>
  ld1 (.int .i64) w18 (a7.add 0) fun (x8 : Int) =>
  (0 ≤ x8 ∧ x8 < ((s9.l : Nat) : Int)) ∧
  onSome s9.b fun a8 =>
  ld1 (.int .i64) w18 ((a8.add (Int.toNat x8 * 3)).add 1) fun (x9 : Int) =>
  ld1 .slice w18 (a1.add 1) fun (s10 : Sl) =>
  ld1 (.int .i64) w18 (a7.add 1) fun (x10 : Int) =>
  (0 ≤ x10 ∧ x10 < ((s10.l : Nat) : Int)) ∧
  onSome s10.b fun a9 =>
  ld1 (.int .i64) w18 ((a9.add (Int.toNat x10 * 3)).add 0) fun (x11 : Int) =>
  cond (x9 != x11)
  (Q false w18)
  (cond (decide (t5.1 > (0 : Int)))
  (ld1 .slice w18 (a1.add 2) fun (s11 : Sl) =>
  (0 ≤ IntKind.wrap .i64 (t5.1 - (1 : Int)) ∧ IntKind.wrap .i64 (t5.1 - (1 : Int)) < ((s11.l : Nat) : Int)) ∧
  onSome s11.b fun a10 =>
  ldN [.int .i64, .int .i64] w18 (a10.add (Int.toNat (IntKind.wrap .i64 (t5.1 - (1 : Int))) * 2)) fun (t7 : Int × Int × Unit) =>
  ldN [.int .i64, .int .i64] w18 a7 fun (t8 : Int × Int × Unit) =>
  F_graph_order (t7.1, t7.2.1, ()) (t8.1, t8.2.1, ()) w18 fun (x12 : Int) w19 =>
  cond (decide (x12 ≥ (0 : Int)))
  (Q false w19)
  (X3 ((IntKind.wrap .i64 (t5.1 + (1 : Int))), ()) w19))
  (X3 ((IntKind.wrap .i64 (t5.1 + (1 : Int))), ()) w18)))))
  (Q true w14)) → X3 t5 w14) →
  X3 ((0 : Int), ()) w8)) → X2 t3 w8) →
  X2 ((0 : Int), ()) w3)) → X1 t1 w3) →
  X1 ((0 : Int), ()) w2)))
def G_graph_may (t : KTs [.agg [.slice, .slice, .slice]]) (w : World) (K : Value → World → Prop) : Prop := F_graph_may t.1 w fun (r0 : Bool) w1 => K (Value.bool r0) w1
abbrev T_graph_may : Tr := fun args w K => decK [.agg [.slice, .slice, .slice]] args fun t => G_graph_may t w K
theorem S_graph_may : Sound Tryz.prog 68 T_graph_may := sound_of (fn := Tryz.f68) Tryz.func68 (by kernel_rfl) mixed (by kernel_rfl) (.s .n (.s .n (.s (.s .n (.b (.l [(31, .c (.int .i64))] [2, 4, 31, 32, 33, 34, 35, 36, 37, 38, 39, 40, 41, 42, 43, 44, 45] .n))) (.s .n (.s (.s .n (.b (.l [(53, .c (.int .i64))] [2, 7, 53, 54, 55, 56, 57, 58, 59, 60, 61, 62, 63, 64, 65, 66, 67, 68, 69, 70, 71, 72, 73, 74, 75] .n))) (.s (.s .n (.b (.l [(79, .c (.int .i64))] [2, 8, 9, 10, 79, 80, 81, 82, 83, 84, 85, 86, 87, 88, 89, 90, 91, 92, 93, 94, 95, 96, 97, 98, 99, 100, 101, 102, 103, 104, 105, 106, 107, 108, 109, 110, 111, 112, 113, 114, 115, 116, 117, 118, 119, 120, 121, 122, 123, 124, 125, 126, 127, 128, 129, 130, 131, 132] (.s .n (.s .n (.s (.b (.s .n (.s .n (.s (.r (.fl 0 (.fl 1 (.fl 2 (.mn 3 (.fl 4 (.fl 5 (.fl 6 (.fl 7 (.fl 8 (.mn 9 (.fl 10 (.fl 11 (.fl 12 (.fl 13 (.fl 14 (.fl 15 (.fl 16 (.fl 17 (.fl 18 (.fl 19 (.fl 20 (.fl 21 (.fl 22 (.fl 23 (.fl 24 (.fl 25 (.fl 26 (.fl 27 (.fl 28 (.fl 29 (.fl 30 (.fl 31 (.fl 32 (.fl 33 (.fl 34 (.fl 35 (.fl 36 (.fl 37 (.fl 38 (.fl 39 (.mn 40 (.fl 41 (.fl 42 (.fl 43 .fin))) .no))))))))))))))))))))))))))))))) .no)))))) .no))))) .n)))) .n)))))) .n)))))) [(97, T_graph_within), (98, T_graph_order)] ⟨⟨by kernel_rfl, S_graph_within⟩, ⟨by kernel_rfl, S_graph_order⟩, trivial⟩ [.agg [.slice, .slice, .slice]] (by kernel_rfl) G_graph_may fun t w K => by kernel_rfl

/-- slices.Clone[[]milepost/api.Node,milepost/api.Node] -/
def F_slices_Clone_sNode_Node (s : Sl) (w : World) (Q : Sl → World → Prop) : Prop :=
  cond (Option.isNone s.b)
  (Q ⟨none, 0, 0⟩ w)
  (allocD w #[] 108 fun a1 w1 =>
  appendD Tryz.prog 24 24 ⟨(some a1), 0, 0⟩ (Value.slice s.b s.l s.c) w1 fun (s1 : Sl) w2 =>
  Q s1 w2)
def G_slices_Clone_sNode_Node (t : KTs [.c .slice]) (w : World) (K : Value → World → Prop) : Prop := F_slices_Clone_sNode_Node t.1 w fun (r0 : Sl) w1 => K (Value.slice r0.b r0.l r0.c) w1
abbrev T_slices_Clone_sNode_Node : Tr := fun args w K => decK [.c .slice] args fun t => G_slices_Clone_sNode_Node t w K
theorem S_slices_Clone_sNode_Node : Sound Tryz.prog 69 T_slices_Clone_sNode_Node := sound_of (fn := Tryz.f69) Tryz.func69 (by kernel_rfl) mixed (by kernel_rfl) (.n) [] trivial [.c .slice] (by kernel_rfl) G_slices_Clone_sNode_Node fun t w K => by kernel_rfl

/-- slices.Clone[[]milepost/api.Edge,milepost/api.Edge] -/
def F_slices_Clone_sEdge_Edge (s : Sl) (w : World) (Q : Sl → World → Prop) : Prop :=
  cond (Option.isNone s.b)
  (Q ⟨none, 0, 0⟩ w)
  (allocD w #[] 49 fun a1 w1 =>
  appendD Tryz.prog 25 25 ⟨(some a1), 0, 0⟩ (Value.slice s.b s.l s.c) w1 fun (s1 : Sl) w2 =>
  Q s1 w2)
def G_slices_Clone_sEdge_Edge (t : KTs [.c .slice]) (w : World) (K : Value → World → Prop) : Prop := F_slices_Clone_sEdge_Edge t.1 w fun (r0 : Sl) w1 => K (Value.slice r0.b r0.l r0.c) w1
abbrev T_slices_Clone_sEdge_Edge : Tr := fun args w K => decK [.c .slice] args fun t => G_slices_Clone_sEdge_Edge t w K
theorem S_slices_Clone_sEdge_Edge : Sound Tryz.prog 70 T_slices_Clone_sEdge_Edge := sound_of (fn := Tryz.f70) Tryz.func70 (by kernel_rfl) mixed (by kernel_rfl) (.n) [] trivial [.c .slice] (by kernel_rfl) G_slices_Clone_sEdge_Edge fun t w K => by kernel_rfl

/-- slices.Clone[[]milepost/api.Ban,milepost/api.Ban] -/
def F_slices_Clone_sBan_Ban (s : Sl) (w : World) (Q : Sl → World → Prop) : Prop :=
  cond (Option.isNone s.b)
  (Q ⟨none, 0, 0⟩ w)
  (allocD w #[] 111 fun a1 w1 =>
  appendD Tryz.prog 26 26 ⟨(some a1), 0, 0⟩ (Value.slice s.b s.l s.c) w1 fun (s1 : Sl) w2 =>
  Q s1 w2)
def G_slices_Clone_sBan_Ban (t : KTs [.c .slice]) (w : World) (K : Value → World → Prop) : Prop := F_slices_Clone_sBan_Ban t.1 w fun (r0 : Sl) w1 => K (Value.slice r0.b r0.l r0.c) w1
abbrev T_slices_Clone_sBan_Ban : Tr := fun args w K => decK [.c .slice] args fun t => G_slices_Clone_sBan_Ban t w K
theorem S_slices_Clone_sBan_Ban : Sound Tryz.prog 71 T_slices_Clone_sBan_Ban := sound_of (fn := Tryz.f71) Tryz.func71 (by kernel_rfl) mixed (by kernel_rfl) (.n) [] trivial [.c .slice] (by kernel_rfl) G_slices_Clone_sBan_Ban fun t w K => by kernel_rfl

/-- milepost/graph.rows -/
def F_graph_rows (g : Sl × Sl × Sl × Unit) (node : Value) (w : World) (Q : Sl → Sl → World → Prop) : Prop :=
  allocD w #[Value.slice g.1.b g.1.l g.1.c, Value.slice g.2.1.b g.2.1.l g.2.1.c, Value.slice g.2.2.1.b g.2.2.1.l g.2.2.1.c] 28 fun a1 w1 =>
  ld1 .slice w1 (a1.add 0) fun (s1 : Sl) =>
  makeSliceD Tryz.prog 22 (Value.int .i64 (IntKind.wrap .i64 (((s1.l : Nat) : Int) + (1 : Int)))) (Value.int .i64 (IntKind.wrap .i64 (((s1.l : Nat) : Int) + (1 : Int)))) w1 fun (s2 : Sl) w2 =>
  ld1 .slice w2 (a1.add 1) fun (s3 : Sl) =>
  ∀ X1 : (Int × Unit) → World → Prop, (∀ (t1 : Int × Unit) (w3 : World), (
  cond (decide (t1.1 < ((s3.l : Nat) : Int)))
  ((0 ≤ t1.1 ∧ t1.1 < ((s3.l : Nat) : Int)) ∧
  onSome s3.b fun a2 =>
  ldN [.int .i64, .int .i64, .int .i64] w3 (a2.add (Int.toNat t1.1 * 3)) fun (t2 : Int × Int × Int × Unit) =>
  allocD w3 #[Value.int .i64 (0 : Int), Value.int .i64 (0 : Int), Value.int .i64 (0 : Int)] 49 fun a3 w4 =>
  storeD Tryz.prog 49 a3 (Value.agg #[(Value.int .i64 t2.1), (Value.int .i64 t2.2.1), (Value.int .i64 t2.2.2.1)]) w4 fun w5 =>
  ldN [.int .i64, .int .i64, .int .i64] w5 a3 fun (t3 : Int × Int × Int × Unit) =>
  callV Tryz.prog node [(Value.agg #[(Value.int .i64 t3.1), (Value.int .i64 t3.2.1), (Value.int .i64 t3.2.2.1)])] w5 fun v1 w6 =>
  ∃ x1 : Int, v1 = (Value.int .i64 x1) ∧
  (0 ≤ IntKind.wrap .i64 (x1 + (1 : Int)) ∧ IntKind.wrap .i64 (x1 + (1 : Int)) < ((s2.l : Nat) : Int)) ∧
  onSome s2.b fun a4 =>
  ld1 (.int .i64) w6 (a4.add (Int.toNat (IntKind.wrap .i64 (x1 + (1 : Int))) * 1)) fun (x2 : Int) =>
  (0 ≤ IntKind.wrap .i64 (x1 + (1 : Int)) ∧ IntKind.wrap .i64 (x1 + (1 : Int)) < ((s2.l : Nat) : Int)) ∧
  onSome s2.b fun a5 =>
  storeD Tryz.prog 3 (a5.add (Int.toNat (IntKind.wrap .i64 (x1 + (1 : Int))) * 1)) (Value.int .i64 (IntKind.wrap .i64 (x2 + (1 : Int)))) w6 fun w7 =>
  X1 ((IntKind.wrap .i64 (t1.1 + (1 : Int))), ()) w7)
  (ld1 .slice w3 (a1.add 0) fun (s4 : Sl) =>
  ∀ X2 : (Int × Unit) → World → Prop, (∀ (t4 : Int × Unit) (w8 : World), (
  cond (decide (t4.1 < ((s4.l : Nat) : Int)))
  ((0 ≤ IntKind.wrap .i64 (t4.1 + (1 : Int)) ∧ IntKind.wrap .i64 (t4.1 + (1 : Int)) < ((s2.l : Nat) : Int)) ∧
  onSome s2.b fun a6 =>
  ld1 (.int .i64) w8.drew (a6.add (Int.toNat (IntKind.wrap .i64 (t4.1 + (1 : Int))) * 1)) fun (x3 : Int) =>
  (0 ≤ t4.1 ∧ t4.1 < ((s2.l : Nat) : Int)) ∧
  onSome s2.b fun a7 =>
  ld1 (.int .i64) w8.drew (a7.add (Int.toNat t4.1 * 1)) fun (x4 : Int) =>
  (0 ≤ IntKind.wrap .i64 (t4.1 + (1 : Int)) ∧ IntKind.wrap .i64 (t4.1 + (1 : Int)) < ((s2.l : Nat) : Int)) ∧
  onSome s2.b fun a8 =>
  storeD Tryz.prog 3 (a8.add (Int.toNat (IntKind.wrap .i64 (t4.1 + (1 : Int))) * 1)) (Value.int .i64 (IntKind.wrap .i64 (x3 + x4))) w8.drew fun w9 =>
  X2 ((IntKind.wrap .i64 (t4.1 + (1 : Int))), ()) w9)
  (ld1 .slice w8 (a1.add 1) fun (s5 : Sl) =>
  makeSliceD Tryz.prog 22 (Value.int .i64 ((s5.l : Nat) : Int)) (Value.int .i64 ((s5.l : Nat) : Int)) w8 fun (s6 : Sl) w10 =>
  F_slices_Clone_sint_int s2 w10 fun (s7 : Sl) w11 =>
  ld1 .slice w11 (a1.add 1) fun (s8 : Sl) =>
  ∀ X3 : (Int × Unit) → World → Prop, (∀ (t5 : Int × Unit) (w12 : World), (
  cond (decide (t5.1 < ((s8.l : Nat) : Int)))
  ((0 ≤ t5.1 ∧ t5.1 < ((s8.l : Nat) : Int)) ∧
  onSome s8.b fun a9 =>
  ldN [.int .i64, .int .i64, .int .i64] w12 (a9.add (Int.toNat t5.1 * 3)) fun (t6 : Int × Int × Int × Unit) =>
  allocD w12 #[Value.int .i64 (0 : Int), Value.int .i64 (0 : Int), Value.int .i64 (0 : Int)] 49 fun a10 w13 =>
  storeD Tryz.prog 49 a10 (Value.agg #[(Value.int .i64 t6.1), (Value.int .i64 t6.2.1), (Value.int .i64 t6.2.2.1)]) w13 fun w14 =>
  ldN [.int .i64, .int .i64, .int .i64] w14 a10 fun (t7 : Int × Int × Int × Unit) =>
  callV Tryz.prog node [(Value.agg #[(Value.int .i64 t7.1), (Value.int .i64 t7.2.1), (Value.int .i64 t7.2.2.1)])] w14 fun v2 w15 =>
  ∃ x5 : Int, v2 = (Value.int .i64 x5) ∧
  (0 ≤ x5 ∧ x5 < ((s7.l : Nat) : Int)) ∧
  onSome s7.b fun a11 =>
  ld1 (.int .i64) w15 (a11.add (Int.toNat x5 * 1)) fun (x6 : Int) =>
  (0 ≤ x6 ∧ x6 < ((s6.l : Nat) : Int)) ∧
  onSome s6.b fun a12 =>
  storeD Tryz.prog 3 (a12.add (Int.toNat x6 * 1)) (Value.int .i64 t5.1) w15 fun w16 =>
  ldN [.int .i64, .int .i64, .int .i64] w16 a10 fun (t8 : Int × Int × Int × Unit) =>
  callV Tryz.prog node [(Value.agg #[(Value.int .i64 t8.1), (Value.int .i64 t8.2.1), (Value.int .i64 t8.2.2.1)])] w16 fun v3 w17 =>
  ∃ x7 : Int, v3 = (Value.int .i64 x7) ∧
  (0 ≤ x7 ∧ x7 < ((s7.l : Nat) : Int)) ∧
  onSome s7.b fun a13 =>
  ld1 (.int .i64) w17 (a13.add (Int.toNat x7 * 1)) fun (x8 : Int) =>
  (0 ≤ x7 ∧ x7 < ((s7.l : Nat) : Int)) ∧
  onSome s7.b fun a14 =>
  storeD Tryz.prog 3 (a14.add (Int.toNat x7 * 1)) (Value.int .i64 (IntKind.wrap .i64 (x8 + (1 : Int)))) w17 fun w18 =>
  X3 ((IntKind.wrap .i64 (t5.1 + (1 : Int))), ()) w18)
  (Q s6 s2 w12)) → X3 t5 w12) →
  X3 ((0 : Int), ()) w11)) → X2 t4 w8) →
  X2 ((0 : Int), ()) w3)) → X1 t1 w3) →
  X1 ((0 : Int), ()) w2
def G_graph_rows (t : KTs [.agg [.slice, .slice, .slice], .c .any]) (w : World) (K : Value → World → Prop) : Prop := F_graph_rows t.1 t.2.1 w fun (r0 : Sl) (r1 : Sl) w1 => K (Value.tuple #[(Value.slice r0.b r0.l r0.c), (Value.slice r1.b r1.l r1.c)]) w1
abbrev T_graph_rows : Tr := fun args w K => decK [.agg [.slice, .slice, .slice], .c .any] args fun t => G_graph_rows t w K
theorem S_graph_rows : Sound Tryz.prog 72 T_graph_rows := sound_of (fn := Tryz.f72) Tryz.func72 (by kernel_rfl) mixed (by kernel_rfl) (.s .n (.s .n (.s (.s .n (.b (.l [(20, .c (.int .i64))] [7, 20, 21, 22, 23, 24, 25, 26, 27, 28, 29, 30, 31, 32, 33] .n))) (.s (.s .n (.b (.l [(37, .c (.int .i64))] [8, 37, 38, 39, 40, 41, 42, 43, 44, 45, 46, 47, 48, 49, 50, 51] (.s .n (.s .n (.s (.b (.s .n (.r (.fl 0 (.fl 1 (.fl 2 (.fl 3 (.fl 4 (.fl 5 (.fl 6 (.fl 7 (.fl 8 (.fl 9 (.fl 10 (.mn 11 .fin .no))))))))))))))) .n)))))) (.s .n (.s .n (.s (.s .n (.b (.l [(61, .c (.int .i64))] [10, 11, 61, 62, 63, 64, 65, 66, 67, 68, 69, 70, 71, 72, 73, 74, 75, 76, 77, 78, 79, 80, 81, 82, 83] .n))) .n))))))) [(39, T_slices_Clone_sint_int)] ⟨⟨by kernel_rfl, S_slices_Clone_sint_int⟩, trivial⟩ [.agg [.slice, .slice, .slice], .c .any] (by kernel_rfl) G_graph_rows fun t w K => by kernel_rfl

/-- milepost/graph.New -/
def F_graph_New (g : Sl × Sl × Sl × Unit) (w : World) (Q : (Option Addr) → Int → World → Prop) : Prop :=
  allocD w #[Value.slice g.1.b g.1.l g.1.c, Value.slice g.2.1.b g.2.1.l g.2.1.c, Value.slice g.2.2.1.b g.2.2.1.l g.2.2.1.c] 28 fun a1 w1 =>
  ldN [.slice, .slice, .slice] w1 a1 fun (t1 : Sl × Sl × Sl × Unit) =>
  F_graph_may (t1.1, t1.2.1, t1.2.2.1, ()) w1 fun (b1 : Bool) w2 =>
  cond (!b1)
  (Q none (1 : Int) w2)
  (ld1 .slice w2.drew (a1.add 0) fun (s1 : Sl) =>
  ld1 .slice w2.drew (a1.add 1) fun (s2 : Sl) =>
  ld1 .slice w2.drew (a1.add 2) fun (s3 : Sl) =>
  F_slices_Clone_sNode_Node s1 w2.drew fun (s4 : Sl) w3 =>
  w3.cell? (a1.add 2) = some (Value.slice s3.b s3.l s3.c) ∧
  w3.cell? (a1.add 1) = some (Value.slice s2.b s2.l s2.c) ∧
  F_slices_Clone_sEdge_Edge s2 w3 fun (s5 : Sl) w4 =>
  w4.cell? (a1.add 2) = some (Value.slice s3.b s3.l s3.c) ∧
  F_slices_Clone_sBan_Ban s3 w4 fun (s6 : Sl) w5 =>
  allocD w5 #[Value.slice s4.b s4.l s4.c, Value.slice s5.b s5.l s5.c, Value.slice s6.b s6.l s6.c, Value.slice none 0 0, Value.slice none 0 0, Value.slice none 0 0, Value.slice none 0 0] 124 fun a2 w6 =>
  ldN [.slice, .slice, .slice] w6 a1 fun (t2 : Sl × Sl × Sl × Unit) =>
  F_graph_rows (t2.1, t2.2.1, t2.2.2.1, ()) (Value.func (.func 73) #[] #[]) w6 fun (s7 : Sl) (s8 : Sl) w7 =>
  storeD Tryz.prog 22 (a2.add 3) (Value.slice s7.b s7.l s7.c) w7 fun w8 =>
  storeD Tryz.prog 22 (a2.add 5) (Value.slice s8.b s8.l s8.c) w8 fun w9 =>
  ldN [.slice, .slice, .slice] w9 a1 fun (t3 : Sl × Sl × Sl × Unit) =>
  F_graph_rows (t3.1, t3.2.1, t3.2.2.1, ()) (Value.func (.func 74) #[] #[]) w9 fun (s9 : Sl) (s10 : Sl) w10 =>
  storeD Tryz.prog 22 (a2.add 4) (Value.slice s9.b s9.l s9.c) w10 fun w11 =>
  storeD Tryz.prog 22 (a2.add 6) (Value.slice s10.b s10.l s10.c) w11 fun w12 =>
  Q (some a2) (0 : Int) w12)
def G_graph_New (t : KTs [.agg [.slice, .slice, .slice]]) (w : World) (K : Value → World → Prop) : Prop := F_graph_New t.1 w fun (r0 : Option Addr) (r1 : Int) w1 => K (Value.tuple #[(Value.pointer r0), (Value.int .i64 r1)]) w1
abbrev T_graph_New : Tr := fun args w K => decK [.agg [.slice, .slice, .slice]] args fun t => G_graph_New t w K
theorem S_graph_New : Sound Tryz.prog 53 T_graph_New := sound_of (fn := Tryz.f53) Tryz.func53 (by kernel_rfl) mixed (by kernel_rfl) (.s .n (.s .n (.s (.r (.fl 0 (.fl 1 (.fl 3 (.fl 4 (.fl 6 (.fl 7 (.mn 2 (.mn 5 (.mn 8 (.fl 9 (.fl 10 (.mn 11 (.fl 12 .fin) .no))) .no) .no) .no)))))))) .n))) [(68, T_graph_may), (69, T_slices_Clone_sNode_Node), (70, T_slices_Clone_sEdge_Edge), (71, T_slices_Clone_sBan_Ban), (72, T_graph_rows)] ⟨⟨by kernel_rfl, S_graph_may⟩, ⟨by kernel_rfl, S_slices_Clone_sNode_Node⟩, ⟨by kernel_rfl, S_slices_Clone_sEdge_Edge⟩, ⟨by kernel_rfl, S_slices_Clone_sBan_Ban⟩, ⟨by kernel_rfl, S_graph_rows⟩, trivial⟩ [.agg [.slice, .slice, .slice]] (by kernel_rfl) G_graph_New fun t w K => by kernel_rfl

/-- milepost/graph.New$1 -/
def F_graph_New_c1 (e_ : Int × Int × Int × Unit) (w : World) (Q : Int → World → Prop) : Prop :=
  allocD w #[Value.int .i64 e_.1, Value.int .i64 e_.2.1, Value.int .i64 e_.2.2.1] 49 fun a1 w1 =>
  ld1 (.int .i64) w1 (a1.add 0) fun (x1 : Int) =>
  Q x1 w1
def G_graph_New_c1 (t : KTs [.agg [.int .i64, .int .i64, .int .i64]]) (w : World) (K : Value → World → Prop) : Prop := F_graph_New_c1 t.1 w fun (r0 : Int) w1 => K (Value.int .i64 r0) w1
abbrev T_graph_New_c1 : Tr := fun args w K => decK [.agg [.int .i64, .int .i64, .int .i64]] args fun t => G_graph_New_c1 t w K
theorem S_graph_New_c1 : Sound Tryz.prog 73 T_graph_New_c1 := sound_of (fn := Tryz.f73) Tryz.func73 (by kernel_rfl) mixed (by kernel_rfl) (.n) [] trivial [.agg [.int .i64, .int .i64, .int .i64]] (by kernel_rfl) G_graph_New_c1 fun t w K => by kernel_rfl

/-- milepost/graph.New$2 -/
def F_graph_New_c2 (e_ : Int × Int × Int × Unit) (w : World) (Q : Int → World → Prop) : Prop :=
  allocD w #[Value.int .i64 e_.1, Value.int .i64 e_.2.1, Value.int .i64 e_.2.2.1] 49 fun a1 w1 =>
  ld1 (.int .i64) w1 (a1.add 1) fun (x1 : Int) =>
  Q x1 w1
def G_graph_New_c2 (t : KTs [.agg [.int .i64, .int .i64, .int .i64]]) (w : World) (K : Value → World → Prop) : Prop := F_graph_New_c2 t.1 w fun (r0 : Int) w1 => K (Value.int .i64 r0) w1
abbrev T_graph_New_c2 : Tr := fun args w K => decK [.agg [.int .i64, .int .i64, .int .i64]] args fun t => G_graph_New_c2 t w K
theorem S_graph_New_c2 : Sound Tryz.prog 74 T_graph_New_c2 := sound_of (fn := Tryz.f74) Tryz.func74 (by kernel_rfl) mixed (by kernel_rfl) (.n) [] trivial [.agg [.int .i64, .int .i64, .int .i64]] (by kernel_rfl) G_graph_New_c2 fun t w K => by kernel_rfl

/-- (*milepost/graph.Graph).Out -/
def F_graph_Graph_Out (g : Option Addr) (node : Int) (w : World) (Q : Sl → World → Prop) : Prop :=
  cond (decide (node < (0 : Int)))
  (Q ⟨none, 0, 0⟩ w)
  (F_graph_Graph_Nodes g w fun (x1 : Int) w1 =>
  cond (decide (node ≥ x1))
  (Q ⟨none, 0, 0⟩ w1)
  (onSome g fun a1 =>
  ld1 .slice w1.drew (a1.add 3) fun (s1 : Sl) =>
  onSome g fun a2 =>
  ld1 .slice w1.drew (a2.add 5) fun (s2 : Sl) =>
  (0 ≤ node ∧ node < ((s2.l : Nat) : Int)) ∧
  onSome s2.b fun a3 =>
  ld1 (.int .i64) w1.drew (a3.add (Int.toNat node * 1)) fun (x2 : Int) =>
  onSome g fun a4 =>
  ld1 .slice w1.drew (a4.add 5) fun (s3 : Sl) =>
  (0 ≤ IntKind.wrap .i64 (node + (1 : Int)) ∧ IntKind.wrap .i64 (node + (1 : Int)) < ((s3.l : Nat) : Int)) ∧
  onSome s3.b fun a5 =>
  ld1 (.int .i64) w1.drew (a5.add (Int.toNat (IntKind.wrap .i64 (node + (1 : Int))) * 1)) fun (x3 : Int) =>
  (0 ≤ x3 ∧ x3 ≤ ((s1.c : Nat) : Int)) ∧
  (0 ≤ x2 ∧ x2 ≤ (((Int.toNat x3) : Nat) : Int)) ∧
  F_slices_Clone_sint_int ⟨(sliceAddr s1.b s1.c (Int.toNat x2) 1), ((Int.toNat x3) - (Int.toNat x2)), (s1.c - (Int.toNat x2))⟩ w1.drew fun (s4 : Sl) w2 =>
  Q s4 w2))
def G_graph_Graph_Out (t : KTs [.c .ptr, .c (.int .i64)]) (w : World) (K : Value → World → Prop) : Prop := F_graph_Graph_Out t.1 t.2.1 w fun (r0 : Sl) w1 => K (Value.slice r0.b r0.l r0.c) w1
abbrev T_graph_Graph_Out : Tr := fun args w K => decK [.c .ptr, .c (.int .i64)] args fun t => G_graph_Graph_Out t w K
theorem S_graph_Graph_Out : Sound Tryz.prog 75 T_graph_Graph_Out := sound_of (fn := Tryz.f75) Tryz.func75 (by kernel_rfl) mixed (by kernel_rfl) (.s .n (.s .n (.s (.r (.fl 0 (.fl 1 (.fl 2 (.fl 3 (.fl 4 (.fl 5 (.fl 6 (.fl 7 (.fl 8 (.fl 9 (.fl 10 (.fl 11 (.fl 12 (.fl 13 (.fl 14 (.fl 15 (.fl 16 (.fl 17 (.fl 18 (.fl 19 (.mn 20 (.fl 21 .fin) .no)))))))))))))))))))))) .n))) [(34, T_graph_Graph_Nodes), (39, T_slices_Clone_sint_int)] ⟨⟨by kernel_rfl, S_graph_Graph_Nodes⟩, ⟨by kernel_rfl, S_slices_Clone_sint_int⟩, trivial⟩ [.c .ptr, .c (.int .i64)] (by kernel_rfl) G_graph_Graph_Out fun t w K => by kernel_rfl

/-- slices.BinarySearchFunc[[]milepost/api.Ban,milepost/api.Ban,milepost/api.Ban] -/
def F_slices_BinarySearchFunc_sBan_Ban_Ban (x : Sl) (target : Int × Int × Unit) (cmp : Value) (w : World) (Q : Int → Bool → World → Prop) : Prop :=
  allocD w #[Value.int .i64 target.1, Value.int .i64 target.2.1] 111 fun a1 w1 =>
  ∀ X1 : (Int × Int × Unit) → World → Prop, (∀ (t1 : Int × Int × Unit) (w2 : World), (
  cond (decide (t1.1 < t1.2.1))
  (0 ≤ (1 : Int) ∧
  (0 ≤ IntKind.wrap .i64 (Int.fdiv (IntKind.wrap .u64 (IntKind.wrap .i64 (t1.1 + t1.2.1))) (2 ^ (min (Int.toNat (1 : Int)) (IntKind.bits .u64)))) ∧ IntKind.wrap .i64 (Int.fdiv (IntKind.wrap .u64 (IntKind.wrap .i64 (t1.1 + t1.2.1))) (2 ^ (min (Int.toNat (1 : Int)) (IntKind.bits .u64)))) < ((x.l : Nat) : Int)) ∧
  onSome x.b fun a2 =>
  ldN [.int .i64, .int .i64] w2.drew (a2.add (Int.toNat (IntKind.wrap .i64 (Int.fdiv (IntKind.wrap .u64 (IntKind.wrap .i64 (t1.1 + t1.2.1))) (2 ^ (min (Int.toNat (1 : Int)) (IntKind.bits .u64))))) * 2)) fun (t2 : Int × Int × Unit) =>
  ldN [.int .i64, .int .i64] w2.drew a1 fun (t3 : Int × Int × Unit) =>
  callV Tryz.prog cmp [(Value.agg #[(Value.int .i64 t2.1), (Value.int .i64 t2.2.1)]), (Value.agg #[(Value.int .i64 t3.1), (Value.int .i64 t3.2.1)])] w2.drew fun v1 w3 =>
  ∃ x1 : Int, v1 = (Value.int .i64 x1) ∧
  cond (decide (x1 < (0 : Int)))
  (X1 ((IntKind.wrap .i64 ((IntKind.wrap .i64 (Int.fdiv (IntKind.wrap .u64 (IntKind.wrap .i64 (t1.1 + t1.2.1))) (2 ^ (min (Int.toNat (1 : Int)) (IntKind.bits .u64))))) + (1 : Int))), t1.2.1, ()) w3)
  (X1 (t1.1, (IntKind.wrap .i64 (Int.fdiv (IntKind.wrap .u64 (IntKind.wrap .i64 (t1.1 + t1.2.1))) (2 ^ (min (Int.toNat (1 : Int)) (IntKind.bits .u64))))), ()) w3))
  (cond (decide (t1.1 < ((x.l : Nat) : Int)))
  ((0 ≤ t1.1 ∧ t1.1 < ((x.l : Nat) : Int)) ∧
  onSome x.b fun a3 =>
  ldN [.int .i64, .int .i64] w2.drew (a3.add (Int.toNat t1.1 * 2)) fun (t4 : Int × Int × Unit) =>
  ldN [.int .i64, .int .i64] w2.drew a1 fun (t5 : Int × Int × Unit) =>
  callV Tryz.prog cmp [(Value.agg #[(Value.int .i64 t4.1), (Value.int .i64 t4.2.1)]), (Value.agg #[(Value.int .i64 t5.1), (Value.int .i64 t5.2.1)])] w2.drew fun v2 w4 =>
  ∃ x2 : Int, v2 = (Value.int .i64 x2) ∧
  Q t1.1 (x2 == (0 : Int)) w4)
  (Q t1.1 false w2.drew))) → X1 t1 w2) →
  X1 ((0 : Int), ((x.l : Nat) : Int), ()) w1
def G_slices_BinarySearchFunc_sBan_Ban_Ban (t : KTs [.c .slice, .agg [.int .i64, .int .i64], .c .any]) (w : World) (K : Value → World → Prop) : Prop := F_slices_BinarySearchFunc_sBan_Ban_Ban t.1 t.2.1 t.2.2.1 w fun (r0 : Int) (r1 : Bool) w1 => K (Value.tuple #[(Value.int .i64 r0), (Value.bool r1)]) w1
abbrev T_slices_BinarySearchFunc_sBan_Ban_Ban : Tr := fun args w K => decK [.c .slice, .agg [.int .i64, .int .i64], .c .any] args fun t => G_slices_BinarySearchFunc_sBan_Ban_Ban t w K
theorem S_slices_BinarySearchFunc_sBan_Ban_Ban : Sound Tryz.prog 99 T_slices_BinarySearchFunc_sBan_Ban_Ban := sound_of (fn := Tryz.f99) Tryz.func99 (by kernel_rfl) mixed (by kernel_rfl) (.s .n (.s .n (.s .n (.s (.b (.l [(9, .c (.int .i64)), (10, .c (.int .i64))] [9, 10, 11, 15, 16, 17, 18, 19, 20, 21, 22, 23, 24, 25, 26, 27, 28, 29, 30, 31, 32, 33, 34] (.s .n (.b (.s .n (.s (.r (.fl 0 (.fl 1 (.fl 2 (.fl 3 (.fl 4 (.fl 5 (.mn 6 (.fl 7 .fin) .no)))))))) .n)))))) (.s (.r (.fl 0 (.fl 1 (.fl 2 (.fl 3 (.fl 4 (.fl 5 (.fl 6 (.fl 7 (.fl 8 (.fl 9 (.fl 10 (.mn 11 (.fl 12 (.fl 13 (.fl 14 (.fl 15 .fin)))) .no))))))))))))) .n))))) [] trivial [.c .slice, .agg [.int .i64, .int .i64], .c .any] (by kernel_rfl) G_slices_BinarySearchFunc_sBan_Ban_Ban fun t w K => by kernel_rfl

/-- (*milepost/graph.Graph).Banned -/
def F_graph_Graph_Banned (g : Option Addr) (a : Int) (b : Int) (w : World) (Q : Bool → World → Prop) : Prop :=
  cond (Option.isNone g)
  (Q false w)
  (onSome g fun a1 =>
  ld1 .slice w ((a1.add 0).add 2) fun (s1 : Sl) =>
  F_slices_BinarySearchFunc_sBan_Ban_Ban s1 (a, b, ()) (Value.func (.func 98) #[] #[]) w fun (_ : Int) (b1 : Bool) w1 =>
  Q b1 w1)
def G_graph_Graph_Banned (t : KTs [.c .ptr, .c (.int .i64), .c (.int .i64)]) (w : World) (K : Value → World → Prop) : Prop := F_graph_Graph_Banned t.1 t.2.1 t.2.2.1 w fun (r0 : Bool) w1 => K (Value.bool r0) w1
abbrev T_graph_Graph_Banned : Tr := fun args w K => decK [.c .ptr, .c (.int .i64), .c (.int .i64)] args fun t => G_graph_Graph_Banned t w K
theorem S_graph_Graph_Banned : Sound Tryz.prog 76 T_graph_Graph_Banned := sound_of (fn := Tryz.f76) Tryz.func76 (by kernel_rfl) mixed (by kernel_rfl) (.n) [(99, T_slices_BinarySearchFunc_sBan_Ban_Ban)] ⟨⟨by kernel_rfl, S_slices_BinarySearchFunc_sBan_Ban_Ban⟩, trivial⟩ [.c .ptr, .c (.int .i64), .c (.int .i64)] (by kernel_rfl) G_graph_Graph_Banned fun t w K => by kernel_rfl

/-- (*milepost/graph.Graph).In -/
def F_graph_Graph_In (g : Option Addr) (node : Int) (w : World) (Q : Sl → World → Prop) : Prop :=
  cond (decide (node < (0 : Int)))
  (Q ⟨none, 0, 0⟩ w)
  (F_graph_Graph_Nodes g w fun (x1 : Int) w1 =>
  cond (decide (node ≥ x1))
  (Q ⟨none, 0, 0⟩ w1)
  (onSome g fun a1 =>
  ld1 .slice w1.drew (a1.add 4) fun (s1 : Sl) =>
  onSome g fun a2 =>
  ld1 .slice w1.drew (a2.add 6) fun (s2 : Sl) =>
  (0 ≤ node ∧ node < ((s2.l : Nat) : Int)) ∧
  onSome s2.b fun a3 =>
  ld1 (.int .i64) w1.drew (a3.add (Int.toNat node * 1)) fun (x2 : Int) =>
  onSome g fun a4 =>
  ld1 .slice w1.drew (a4.add 6) fun (s3 : Sl) =>
  (0 ≤ IntKind.wrap .i64 (node + (1 : Int)) ∧ IntKind.wrap .i64 (node + (1 : Int)) < ((s3.l : Nat) : Int)) ∧
  onSome s3.b fun a5 =>
  ld1 (.int .i64) w1.drew (a5.add (Int.toNat (IntKind.wrap .i64 (node + (1 : Int))) * 1)) fun (x3 : Int) =>
  (0 ≤ x3 ∧ x3 ≤ ((s1.c : Nat) : Int)) ∧
  (0 ≤ x2 ∧ x2 ≤ (((Int.toNat x3) : Nat) : Int)) ∧
  F_slices_Clone_sint_int ⟨(sliceAddr s1.b s1.c (Int.toNat x2) 1), ((Int.toNat x3) - (Int.toNat x2)), (s1.c - (Int.toNat x2))⟩ w1.drew fun (s4 : Sl) w2 =>
  Q s4 w2))
def G_graph_Graph_In (t : KTs [.c .ptr, .c (.int .i64)]) (w : World) (K : Value → World → Prop) : Prop := F_graph_Graph_In t.1 t.2.1 w fun (r0 : Sl) w1 => K (Value.slice r0.b r0.l r0.c) w1
abbrev T_graph_Graph_In : Tr := fun args w K => decK [.c .ptr, .c (.int .i64)] args fun t => G_graph_Graph_In t w K
theorem S_graph_Graph_In : Sound Tryz.prog 113 T_graph_Graph_In := sound_of (fn := Tryz.f113) Tryz.func113 (by kernel_rfl) mixed (by kernel_rfl) (.s .n (.s .n (.s (.r (.fl 0 (.fl 1 (.fl 2 (.fl 3 (.fl 4 (.fl 5 (.fl 6 (.fl 7 (.fl 8 (.fl 9 (.fl 10 (.fl 11 (.fl 12 (.fl 13 (.fl 14 (.fl 15 (.fl 16 (.fl 17 (.fl 18 (.fl 19 (.mn 20 (.fl 21 .fin) .no)))))))))))))))))))))) .n))) [(34, T_graph_Graph_Nodes), (39, T_slices_Clone_sint_int)] ⟨⟨by kernel_rfl, S_graph_Graph_Nodes⟩, ⟨by kernel_rfl, S_slices_Clone_sint_int⟩, trivial⟩ [.c .ptr, .c (.int .i64)] (by kernel_rfl) G_graph_Graph_In fun t w K => by kernel_rfl

/-- (*milepost/graph.Graph).Node -/
def F_graph_Graph_Node (g : Option Addr) (i : Int) (w : World) (Q : (Int × Int × Unit) → Bool → World → Prop) : Prop :=
  allocD w #[Value.int .i64 (0 : Int), Value.int .i64 (0 : Int)] 108 fun a1 w1 =>
  cond (decide (i < (0 : Int)))
  (storeD Tryz.prog 108 a1 (Value.agg #[(Value.int .i64 (0 : Int)), (Value.int .i64 (0 : Int))]) w1 fun w2 =>
  ldN [.int .i64, .int .i64] w2 a1 fun (t1 : Int × Int × Unit) =>
  Q (t1.1, t1.2.1, ()) false w2)
  (F_graph_Graph_Nodes g w1 fun (x1 : Int) w3 =>
  cond (decide (i ≥ x1))
  (storeD Tryz.prog 108 a1 (Value.agg #[(Value.int .i64 (0 : Int)), (Value.int .i64 (0 : Int))]) w3 fun w4 =>
  ldN [.int .i64, .int .i64] w4 a1 fun (t2 : Int × Int × Unit) =>
  Q (t2.1, t2.2.1, ()) false w4)
  (onSome g fun a2 =>
  ld1 .slice w3 ((a2.add 0).add 0) fun (s1 : Sl) =>
  (0 ≤ i ∧ i < ((s1.l : Nat) : Int)) ∧
  onSome s1.b fun a3 =>
  ldN [.int .i64, .int .i64] w3 (a3.add (Int.toNat i * 2)) fun (t3 : Int × Int × Unit) =>
  storeD Tryz.prog 108 a1 (Value.agg #[(Value.int .i64 t3.1), (Value.int .i64 t3.2.1)]) w3 fun w5 =>
  ldN [.int .i64, .int .i64] w5 a1 fun (t4 : Int × Int × Unit) =>
  Q (t4.1, t4.2.1, ()) true w5))
def G_graph_Graph_Node (t : KTs [.c .ptr, .c (.int .i64)]) (w : World) (K : Value → World → Prop) : Prop := F_graph_Graph_Node t.1 t.2.1 w fun (r0 : Int × Int × Unit) (r1 : Bool) w1 => K (Value.tuple #[(Value.agg #[(Value.int .i64 r0.1), (Value.int .i64 r0.2.1)]), (Value.bool r1)]) w1
abbrev T_graph_Graph_Node : Tr := fun args w K => decK [.c .ptr, .c (.int .i64)] args fun t => G_graph_Graph_Node t w K
theorem S_graph_Graph_Node : Sound Tryz.prog 154 T_graph_Graph_Node := sound_of (fn := Tryz.f154) Tryz.func154 (by kernel_rfl) mixed (by kernel_rfl) (.n) [(34, T_graph_Graph_Nodes)] ⟨⟨by kernel_rfl, S_graph_Graph_Nodes⟩, trivial⟩ [.c .ptr, .c (.int .i64)] (by kernel_rfl) G_graph_Graph_Node fun t w K => by kernel_rfl

end Go.Proofs.YtjjgcimlmjnaeaaGreat
