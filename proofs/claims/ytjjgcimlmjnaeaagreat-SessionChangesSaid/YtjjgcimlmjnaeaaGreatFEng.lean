import Derived.Test.YtjjgcimlmjnaeaaGreatA1
import Derived.Test.YtjjgcimlmjnaeaaGreatFBase
import Derived.Test.YtjjgcimlmjnaeaaGreatFNet
import Derived.Test.YtjjgcimlmjnaeaaGreatFLev
import Derived.Test.YtjjgcimlmjnaeaaGreatFSea
import Derived.Test.YtjjgcimlmjnaeaaGreatFGra
import Derived.Test.YtjjgcimlmjnaeaaGreatFTur
import Derived.Test.YtjjgcimlmjnaeaaGreatFDis
namespace Go.Proofs.YtjjgcimlmjnaeaaGreat
open Go Go.Den
set_option maxRecDepth 100000
/-- milepost/engine.New -/
def F_engine_New (g : Sl × Sl × Sl × Unit) (w : World) (Q : (Option Addr) → Int → World → Prop) : Prop :=
  allocD w #[Value.slice g.1.b g.1.l g.1.c, Value.slice g.2.1.b g.2.1.l g.2.1.c, Value.slice g.2.2.1.b g.2.2.1.l g.2.2.1.c] 28 fun a1 w1 =>
  ldN [.slice, .slice, .slice] w1 a1 fun (t1 : Sl × Sl × Sl × Unit) =>
  F_graph_New (t1.1, t1.2.1, t1.2.2.1, ()) w1 fun (p1 : Option Addr) (x1 : Int) w2 =>
  cond (x1 != (0 : Int))
  (Q none x1 w2)
  (F_turns_New p1 w2 fun (p2 : Option Addr) w3 =>
  onSome p2 fun a2 =>
  ld1 .ptr w3 (a2.add 0) fun (p3 : Option Addr) =>
  F_graph_Graph_Edges p3 w3 fun (x2 : Int) w4 =>
  F_turns_Turns_Arcs p2 w4 fun (s1 : Sl) w5 =>
  F_slices_DeleteFunc_sArc_Arc s1 (Value.func (.func 58) #[] #[]) w5 fun (s2 : Sl) w6 =>
  F_net_New x2 s2 w6 fun (p4 : Option Addr) (_ : Int) w7 =>
  onSome p2 fun a3 =>
  ld1 .ptr w7.drew (a3.add 0) fun (p5 : Option Addr) =>
  F_levels_Build p4 w7.drew fun (p6 : Option Addr) w8 =>
  w8.cell? (a3.add 0) = some (Value.pointer p5) ∧
  F_graph_Graph_Edges p5 w8 fun (x4 : Int) w9 =>
  makeSliceD Tryz.prog 22 (Value.int .i64 x4) (Value.int .i64 x4) w9 fun (s3 : Sl) w10 =>
  allocD w10 #[Value.pointer p2, Value.pointer p6, Value.slice s3.b s3.l s3.c] 80 fun a4 w11 =>
  ld1 .slice w11 (a4.add 2) fun (s4 : Sl) =>
  ∀ X1 : (Int × Unit) → World → Prop, (∀ (t2 : Int × Unit) (w12 : World), (
  cond (decide (t2.1 < ((s4.l : Nat) : Int)))
  (ld1 .slice w12.drew (a4.add 2) fun (s5 : Sl) =>
  onSome p2 fun a5 =>
  ld1 .ptr w12.drew (a5.add 0) fun (p7 : Option Addr) =>
  ld1 .ptr w12.drew (a4.add 1) fun (p8 : Option Addr) =>
  F_graph_Graph_Edges p7 w12.drew fun (x5 : Int) w13 =>
  w13.cell? (a4.add 1) = some (Value.pointer p8) ∧
  w13.cell? (a4.add 2) = some (Value.slice s5.b s5.l s5.c) ∧
  F_levels_Levels_Rank p8 t2.1 w13 fun (x6 : Int) w14 =>
  w14.cell? (a4.add 2) = some (Value.slice s5.b s5.l s5.c) ∧
  (0 ≤ IntKind.wrap .i64 ((IntKind.wrap .i64 (x5 - (1 : Int))) - x6) ∧ IntKind.wrap .i64 ((IntKind.wrap .i64 (x5 - (1 : Int))) - x6) < ((s5.l : Nat) : Int)) ∧
  onSome s5.b fun a6 =>
  storeD Tryz.prog 3 (a6.add (Int.toNat (IntKind.wrap .i64 ((IntKind.wrap .i64 (x5 - (1 : Int))) - x6)) * 1)) (Value.int .i64 t2.1) w14 fun w15 =>
  X1 ((IntKind.wrap .i64 (t2.1 + (1 : Int))), ()) w15)
  (Q (some a4) (0 : Int) w12)) → X1 t2 w12) →
  X1 ((0 : Int), ()) w11)
def G_engine_New (t : KTs [.agg [.slice, .slice, .slice]]) (w : World) (K : Value → World → Prop) : Prop := F_engine_New t.1 w fun (r0 : Option Addr) (r1 : Int) w1 => K (Value.tuple #[(Value.pointer r0), (Value.int .i64 r1)]) w1
abbrev T_engine_New : Tr := fun args w K => decK [.agg [.slice, .slice, .slice]] args fun t => G_engine_New t w K
theorem S_engine_New : Sound Tryz.prog 32 T_engine_New := sound_of (fn := Tryz.f32) Tryz.func32 (by kernel_rfl) mixed (by kernel_rfl) (.s .n (.s .n (.s .n (.s .n (.s .n (.s (.r (.fl 0 (.fl 1 (.fl 3 (.fl 4 (.fl 5 (.fl 6 (.mn 2 (.mn 7 (.mn 8 (.fl 9 (.mn 10 (.fl 11 .fin) .no)) .no) .no) .no)))))))) (.s (.s .n (.b (.l [(49, .c (.int .i64))] [10, 49, 50, 51, 52, 53, 54, 55, 56, 57, 58, 59, 60, 61, 62, 63, 64, 65, 66, 67, 68, 69, 70, 71] (.s .n (.s .n (.s (.b (.s .n (.r (.fl 0 (.fl 1 (.fl 2 (.fl 3 (.fl 4 (.fl 5 (.fl 6 (.fl 7 (.fl 10 (.fl 11 (.fl 12 (.fl 13 (.fl 14 (.fl 17 (.mn 8 (.fl 9 (.mn 15 (.fl 16 (.fl 18 (.mn 19 .fin .no))) .no)) .no)))))))))))))))))) .n)))))) .n))))))) [(33, T_graph_Graph_Edges), (53, T_graph_New), (54, T_turns_New), (55, T_net_New), (56, T_slices_DeleteFunc_sArc_Arc), (57, T_turns_Turns_Arcs), (59, T_levels_Build), (60, T_levels_Levels_Rank)] ⟨⟨by kernel_rfl, S_graph_Graph_Edges⟩, ⟨by kernel_rfl, S_graph_New⟩, ⟨by kernel_rfl, S_turns_New⟩, ⟨by kernel_rfl, S_net_New⟩, ⟨by kernel_rfl, S_slices_DeleteFunc_sArc_Arc⟩, ⟨by kernel_rfl, S_turns_Turns_Arcs⟩, ⟨by kernel_rfl, S_levels_Build⟩, ⟨by kernel_rfl, S_levels_Levels_Rank⟩, trivial⟩ [.agg [.slice, .slice, .slice]] (by kernel_rfl) G_engine_New fun t w K => by kernel_rfl

/-- milepost/engine.New$1 -/
def F_engine_New_c1 (a : Int × Int × Int × Int × Unit) (w : World) (Q : Bool → World → Prop) : Prop :=
  allocD w #[Value.int .i64 a.1, Value.int .i64 a.2.1, Value.int .i64 a.2.2.1, Value.int .i64 a.2.2.2.1] 91 fun a1 w1 =>
  ld1 (.int .i64) w1 (a1.add 0) fun (x1 : Int) =>
  ld1 (.int .i64) w1 (a1.add 1) fun (x2 : Int) =>
  Q (x1 == x2) w1
def G_engine_New_c1 (t : KTs [.agg [.int .i64, .int .i64, .int .i64, .int .i64]]) (w : World) (K : Value → World → Prop) : Prop := F_engine_New_c1 t.1 w fun (r0 : Bool) w1 => K (Value.bool r0) w1
abbrev T_engine_New_c1 : Tr := fun args w K => decK [.agg [.int .i64, .int .i64, .int .i64, .int .i64]] args fun t => G_engine_New_c1 t w K
theorem S_engine_New_c1 : Sound Tryz.prog 58 T_engine_New_c1 := sound_of (fn := Tryz.f58) Tryz.func58 (by kernel_rfl) mixed (by kernel_rfl) (.n) [] trivial [.agg [.int .i64, .int .i64, .int .i64, .int .i64]] (by kernel_rfl) G_engine_New_c1 fun t w K => by kernel_rfl

/-- slices.IndexFunc[[]int,int] -/
def F_slices_IndexFunc_sint_int (s : Sl) (f : Value) (w : World) (Q : Int → World → Prop) : Prop :=
  ∀ X1 : (Int × Unit) → World → Prop, (∀ (t1 : Int × Unit) (w1 : World), (
  cond (decide (t1.1 < ((s.l : Nat) : Int)))
  ((0 ≤ t1.1 ∧ t1.1 < ((s.l : Nat) : Int)) ∧
  onSome s.b fun a1 =>
  ld1 (.int .i64) w1 (a1.add (Int.toNat t1.1 * 1)) fun (x1 : Int) =>
  callV Tryz.prog f [(Value.int .i64 x1)] w1 fun v1 w2 =>
  ∃ b1 : Bool, v1 = (Value.bool b1) ∧
  cond b1
  (Q t1.1 w2)
  (X1 ((IntKind.wrap .i64 (t1.1 + (1 : Int))), ()) w2))
  (Q (-1 : Int) w1)) → X1 t1 w1) →
  X1 ((0 : Int), ()) w
def G_slices_IndexFunc_sint_int (t : KTs [.c .slice, .c .any]) (w : World) (K : Value → World → Prop) : Prop := F_slices_IndexFunc_sint_int t.1 t.2.1 w fun (r0 : Int) w1 => K (Value.int .i64 r0) w1
abbrev T_slices_IndexFunc_sint_int : Tr := fun args w K => decK [.c .slice, .c .any] args fun t => G_slices_IndexFunc_sint_int t w K
theorem S_slices_IndexFunc_sint_int : Sound Tryz.prog 65 T_slices_IndexFunc_sint_int := sound_of (fn := Tryz.f65) Tryz.func65 (by kernel_rfl) mixed (by kernel_rfl) (.s .n (.s (.s .n (.b (.l [(8, .c (.int .i64))] [4, 5, 8, 9, 10, 11, 12, 13, 14, 15, 16, 17, 18] .n))) .n)) [] trivial [.c .slice, .c .any] (by kernel_rfl) G_slices_IndexFunc_sint_int fun t w K => by kernel_rfl

/-- slices.ContainsFunc[[]int,int] -/
def F_slices_ContainsFunc_sint_int (s : Sl) (f : Value) (w : World) (Q : Bool → World → Prop) : Prop :=
  F_slices_IndexFunc_sint_int s f w fun (x1 : Int) w1 =>
  Q (decide (x1 ≥ (0 : Int))) w1
def G_slices_ContainsFunc_sint_int (t : KTs [.c .slice, .c .any]) (w : World) (K : Value → World → Prop) : Prop := F_slices_ContainsFunc_sint_int t.1 t.2.1 w fun (r0 : Bool) w1 => K (Value.bool r0) w1
abbrev T_slices_ContainsFunc_sint_int : Tr := fun args w K => decK [.c .slice, .c .any] args fun t => G_slices_ContainsFunc_sint_int t w K
theorem S_slices_ContainsFunc_sint_int : Sound Tryz.prog 47 T_slices_ContainsFunc_sint_int := sound_of (fn := Tryz.f47) Tryz.func47 (by kernel_rfl) mixed (by kernel_rfl) (.n) [(65, T_slices_IndexFunc_sint_int)] ⟨⟨by kernel_rfl, S_slices_IndexFunc_sint_int⟩, trivial⟩ [.c .slice, .c .any] (by kernel_rfl) G_slices_ContainsFunc_sint_int fun t w K => by kernel_rfl

/-- (*milepost/engine.Engine).far -/
def F_engine_Engine_far (e_ : Option Addr) (node : Int) (w : World) (Q : Sl → World → Prop) : Prop :=
  onSome e_ fun a1 =>
  ld1 .ptr w.drew (a1.add 1) fun (p1 : Option Addr) =>
  onSome e_ fun a2 =>
  ld1 .ptr w.drew (a2.add 0) fun (p2 : Option Addr) =>
  onSome p2 fun a3 =>
  ld1 .ptr w.drew (a3.add 0) fun (p3 : Option Addr) =>
  F_graph_Graph_In p3 node w.drew fun (s1 : Sl) w1 =>
  w1.cell? (a1.add 1) = some (Value.pointer p1) ∧
  F_search_Down p1 s1 w1 fun (s2 : Sl) w2 =>
  onSome e_ fun a4 =>
  ld1 .slice w2 (a4.add 2) fun (s3 : Sl) =>
  ∀ X1 : (Int × Unit) → World → Prop, (∀ (t1 : Int × Unit) (w3 : World), (
  cond (decide (t1.1 < ((s3.l : Nat) : Int)))
  ((0 ≤ t1.1 ∧ t1.1 < ((s3.l : Nat) : Int)) ∧
  onSome s3.b fun a5 =>
  ld1 (.int .i64) w3 (a5.add (Int.toNat t1.1 * 1)) fun (x1 : Int) =>
  onSome e_ fun a6 =>
  ld1 .ptr w3 (a6.add 1) fun (p4 : Option Addr) =>
  F_levels_Levels_Up p4 x1 w3 fun (s4 : Sl) w4 =>
  ∀ X2 : (Int × Unit) → World → Prop, (∀ (t2 : Int × Unit) (w5 : World), (
  cond (decide (t2.1 < ((s4.l : Nat) : Int)))
  ((0 ≤ t2.1 ∧ t2.1 < ((s4.l : Nat) : Int)) ∧
  onSome s4.b fun a7 =>
  ldN [.int .i64, .int .i64, .int .i64, .int .i64] w5 (a7.add (Int.toNat t2.1 * 4)) fun (t3 : Int × Int × Int × Int × Unit) =>
  allocD w5 #[Value.int .i64 (0 : Int), Value.int .i64 (0 : Int), Value.int .i64 (0 : Int), Value.int .i64 (0 : Int)] 91 fun a8 w6 =>
  storeD Tryz.prog 91 a8 (Value.agg #[(Value.int .i64 t3.1), (Value.int .i64 t3.2.1), (Value.int .i64 t3.2.2.1), (Value.int .i64 t3.2.2.2.1)]) w6 fun w7 =>
  ld1 (.int .i64) w7 (a8.add 1) fun (x2 : Int) =>
  (0 ≤ x2 ∧ x2 < ((s2.l : Nat) : Int)) ∧
  onSome s2.b fun a9 =>
  ld1 (.int .i64) w7 (a9.add (Int.toNat x2 * 1)) fun (x3 : Int) =>
  cond (decide (x3 ≥ (0 : Int)))
  ((0 ≤ x1 ∧ x1 < ((s2.l : Nat) : Int)) ∧
  onSome s2.b fun a10 =>
  ld1 (.int .i64) w7.drew (a10.add (Int.toNat x1 * 1)) fun (x4 : Int) =>
  cond (decide (x4 < (0 : Int)))
  (ld1 (.int .i64) w7.drew (a8.add 2) fun (x5 : Int) =>
  (0 ≤ x1 ∧ x1 < ((s2.l : Nat) : Int)) ∧
  onSome s2.b fun a11 =>
  storeD Tryz.prog 3 (a11.add (Int.toNat x1 * 1)) (Value.int .i64 (IntKind.wrap .i64 (x3 + x5))) w7.drew fun w8 =>
  X2 ((IntKind.wrap .i64 (t2.1 + (1 : Int))), ()) w8)
  (ld1 (.int .i64) w7.drew (a8.add 2) fun (x6 : Int) =>
  (0 ≤ x1 ∧ x1 < ((s2.l : Nat) : Int)) ∧
  onSome s2.b fun a12 =>
  ld1 (.int .i64) w7.drew (a12.add (Int.toNat x1 * 1)) fun (x7 : Int) =>
  cond (decide ((IntKind.wrap .i64 (x3 + x6)) < x7))
  (ld1 (.int .i64) w7.drew (a8.add 2) fun (x8 : Int) =>
  (0 ≤ x1 ∧ x1 < ((s2.l : Nat) : Int)) ∧
  onSome s2.b fun a13 =>
  storeD Tryz.prog 3 (a13.add (Int.toNat x1 * 1)) (Value.int .i64 (IntKind.wrap .i64 (x3 + x8))) w7.drew fun w9 =>
  X2 ((IntKind.wrap .i64 (t2.1 + (1 : Int))), ()) w9)
  (X2 ((IntKind.wrap .i64 (t2.1 + (1 : Int))), ()) w7.drew)))
  (X2 ((IntKind.wrap .i64 (t2.1 + (1 : Int))), ()) w7.drew))
  (X1 ((IntKind.wrap .i64 (t1.1 + (1 : Int))), ()) w5)) → X2 t2 w5) →
  X2 ((0 : Int), ()) w4)
  (Q s2 w3)) → X1 t1 w3) →
  X1 ((0 : Int), ()) w2
def G_engine_Engine_far (t : KTs [.c .ptr, .c (.int .i64)]) (w : World) (K : Value → World → Prop) : Prop := F_engine_Engine_far t.1 t.2.1 w fun (r0 : Sl) w1 => K (Value.slice r0.b r0.l r0.c) w1
abbrev T_engine_Engine_far : Tr := fun args w K => decK [.c .ptr, .c (.int .i64)] args fun t => G_engine_Engine_far t w K
theorem S_engine_Engine_far : Sound Tryz.prog 86 T_engine_Engine_far := sound_of (fn := Tryz.f86) Tryz.func86 (by kernel_rfl) mixed (by kernel_rfl) (.s .n (.s (.r (.fl 0 (.fl 1 (.fl 2 (.fl 3 (.fl 4 (.fl 5 (.fl 6 (.fl 7 (.fl 8 (.fl 9 (.fl 10 (.fl 11 (.mn 12 (.mn 13 (.fl 14 .fin) .no) .no)))))))))))))) (.s (.s .n (.b (.l [(30, .c (.int .i64))] [7, 9, 10, 30, 31, 32, 33, 34, 35, 36, 37, 38, 39, 40, 41, 42, 43, 44, 45, 46, 47, 48, 49, 50, 51, 52, 53, 54, 55, 56, 57, 58, 59, 60, 61, 62, 63, 64, 65, 66, 67, 68, 69, 70, 71, 72, 73, 74, 75, 76, 77, 78] (.s .n (.s .n (.s (.b (.s .n (.s .n (.b (.l [(41, .c (.int .i64))] [9, 10, 41, 42, 43, 44, 45, 46, 47, 48, 49, 50, 51, 52, 53, 54, 55, 56, 57, 58, 59, 60, 61, 62, 63, 64, 65, 66, 67, 68, 69, 70, 71, 72, 73, 74, 75, 76, 77] (.s .n (.s .n (.s (.b (.s .n (.s .n (.s (.r (.fl 0 (.fl 1 (.fl 2 (.fl 3 (.fl 4 (.fl 5 (.fl 6 (.fl 7 (.fl 8 (.fl 9 (.fl 10 (.fl 11 (.fl 12 (.fl 13 (.fl 14 (.fl 15 (.fl 16 (.fl 17 (.fl 18 (.fl 19 .fin))))))))))))))))))))) .n)))) .n)))))))) .n)))))) .n))) [(112, T_search_Down), (113, T_graph_Graph_In), (114, T_levels_Levels_Up)] ⟨⟨by kernel_rfl, S_search_Down⟩, ⟨by kernel_rfl, S_graph_Graph_In⟩, ⟨by kernel_rfl, S_levels_Levels_Up⟩, trivial⟩ [.c .ptr, .c (.int .i64)] (by kernel_rfl) G_engine_Engine_far fun t w K => by kernel_rfl

/-- (*milepost/engine.Engine).Way -/
def F_engine_Engine_Way (e_ : Option Addr) (at_ : Int) (node : Int) (closed : Sl) (w : World) (Q : (Sl × Int × Bool × Bool × Unit) → World → Prop) : Prop :=
  allocD w #[Value.slice closed.b closed.l closed.c] 54 fun a1 w1 =>
  allocD w1 #[Value.slice none 0 0, Value.int .i64 (0 : Int), Value.bool false, Value.bool false] 126 fun a2 w2 =>
  cond (Option.isNone e_)
  (ldN [.slice, .int .i64, .bool, .bool] w2 a2 fun (t1 : Sl × Int × Bool × Bool × Unit) =>
  storeD Tryz.prog 126 a2 (Value.agg #[(Value.slice t1.1.b t1.1.l t1.1.c), (Value.int .i64 t1.2.1), (Value.bool t1.2.2.1), (Value.bool t1.2.2.2.1)]) w2 fun w3 =>
  ldN [.slice, .int .i64, .bool, .bool] w3 a2 fun (t2 : Sl × Int × Bool × Bool × Unit) =>
  Q (t2.1, t2.2.1, t2.2.2.1, t2.2.2.2.1, ()) w3)
  (cond (decide (node < (0 : Int)))
  (ldN [.slice, .int .i64, .bool, .bool] w2 a2 fun (t3 : Sl × Int × Bool × Bool × Unit) =>
  storeD Tryz.prog 126 a2 (Value.agg #[(Value.slice t3.1.b t3.1.l t3.1.c), (Value.int .i64 t3.2.1), (Value.bool t3.2.2.1), (Value.bool t3.2.2.2.1)]) w2 fun w4 =>
  ldN [.slice, .int .i64, .bool, .bool] w4 a2 fun (t4 : Sl × Int × Bool × Bool × Unit) =>
  Q (t4.1, t4.2.1, t4.2.2.1, t4.2.2.2.1, ()) w4)
  (onSome e_ fun a3 =>
  ld1 .ptr w2 (a3.add 0) fun (p1 : Option Addr) =>
  onSome p1 fun a4 =>
  ld1 .ptr w2 (a4.add 0) fun (p2 : Option Addr) =>
  F_graph_Graph_Nodes p2 w2 fun (x1 : Int) w5 =>
  cond (decide (node ≥ x1))
  (ldN [.slice, .int .i64, .bool, .bool] w5 a2 fun (t5 : Sl × Int × Bool × Bool × Unit) =>
  storeD Tryz.prog 126 a2 (Value.agg #[(Value.slice t5.1.b t5.1.l t5.1.c), (Value.int .i64 t5.2.1), (Value.bool t5.2.2.1), (Value.bool t5.2.2.2.1)]) w5 fun w6 =>
  ldN [.slice, .int .i64, .bool, .bool] w6 a2 fun (t6 : Sl × Int × Bool × Bool × Unit) =>
  Q (t6.1, t6.2.1, t6.2.2.1, t6.2.2.2.1, ()) w6)
  (onSome e_ fun a5 =>
  ld1 .ptr w5.drew (a5.add 0) fun (p3 : Option Addr) =>
  F_engine_Engine_far e_ node w5.drew fun (s1 : Sl) w7 =>
  w7.cell? (a5.add 0) = some (Value.pointer p3) ∧
  F_least_Along p3 at_ s1 ⟨none, 0, 0⟩ w7 fun (s2 : Sl) (b1 : Bool) w8 =>
  storeD Tryz.prog 22 (a2.add 0) (Value.slice s2.b s2.l s2.c) w8 fun w9 =>
  storeD Tryz.prog 4 (a2.add 2) (Value.bool b1) w9 fun w10 =>
  ∀ J1 : (Unit) → World → Prop, (∀ (t7 : Unit) (w11 : World), (
  onSome e_ fun a6 =>
  ld1 .ptr w11.drew (a6.add 0) fun (p4 : Option Addr) =>
  ld1 .slice w11.drew (a2.add 0) fun (s3 : Sl) =>
  F_walk_Weight p4 s3 w11.drew fun (x2 : Int) (_ : Bool) w12 =>
  storeD Tryz.prog 3 (a2.add 1) (Value.int .i64 x2) w12 fun w13 =>
  ldN [.slice, .int .i64, .bool, .bool] w13 a2 fun (t8 : Sl × Int × Bool × Bool × Unit) =>
  storeD Tryz.prog 126 a2 (Value.agg #[(Value.slice t8.1.b t8.1.l t8.1.c), (Value.int .i64 t8.2.1), (Value.bool t8.2.2.1), (Value.bool t8.2.2.2.1)]) w13 fun w14 =>
  ldN [.slice, .int .i64, .bool, .bool] w14 a2 fun (t9 : Sl × Int × Bool × Bool × Unit) =>
  Q (t9.1, t9.2.1, t9.2.2.1, t9.2.2.2.1, ()) w14) → J1 t7 w11) →
  ld1 .slice w10 (a2.add 0) fun (s4 : Sl) =>
  F_slices_ContainsFunc_sint_int s4 (Value.func (.func 87) #[] #[(Value.pointer (some a1))]) w10 fun (b3 : Bool) w15 =>
  cond b3
  (onSome e_ fun a7 =>
  ld1 .ptr w15.drew (a7.add 0) fun (p5 : Option Addr) =>
  onSome e_ fun a8 =>
  ld1 .ptr w15.drew (a8.add 0) fun (p6 : Option Addr) =>
  ld1 .slice w15.drew a1 fun (s5 : Sl) =>
  ld1 .slice w15.drew a1 fun (s6 : Sl) =>
  F_dist_To p6 node s5 w15.drew fun (s7 : Sl) w16 =>
  w16.cell? a1 = some (Value.slice s6.b s6.l s6.c) ∧
  w16.cell? (a7.add 0) = some (Value.pointer p5) ∧
  F_least_Along p5 at_ s7 s6 w16 fun (s8 : Sl) (b4 : Bool) w17 =>
  storeD Tryz.prog 22 (a2.add 0) (Value.slice s8.b s8.l s8.c) w17 fun w18 =>
  storeD Tryz.prog 4 (a2.add 2) (Value.bool b4) w18 fun w19 =>
  ld1 .bool w19 (a2.add 2) fun (b5 : Bool) =>
  storeD Tryz.prog 4 (a2.add 3) (Value.bool b5) w19 fun w20 =>
  J1 (()) w20)
  (J1 (()) w15))))
def G_engine_Engine_Way (t : KTs [.c .ptr, .c (.int .i64), .c (.int .i64), .c .slice]) (w : World) (K : Value → World → Prop) : Prop := F_engine_Engine_Way t.1 t.2.1 t.2.2.1 t.2.2.2.1 w fun (r0 : Sl × Int × Bool × Bool × Unit) w1 => K (Value.agg #[(Value.slice r0.1.b r0.1.l r0.1.c), (Value.int .i64 r0.2.1), (Value.bool r0.2.2.1), (Value.bool r0.2.2.2.1)]) w1
abbrev T_engine_Engine_Way : Tr := fun args w K => decK [.c .ptr, .c (.int .i64), .c (.int .i64), .c .slice] args fun t => G_engine_Engine_Way t w K
theorem S_engine_Engine_Way : Sound Tryz.prog 61 T_engine_Engine_Way := sound_of (fn := Tryz.f61) Tryz.func61 (by kernel_rfl) mixed (by kernel_rfl) (.s .n (.s .n (.s (.r (.fl 0 (.fl 1 (.fl 2 (.fl 3 (.fl 4 (.fl 5 (.fl 6 (.mn 7 (.mn 8 (.fl 9 (.fl 10 (.fl 11 (.fl 12 (.mn 13 (.fl 14 (.mn 15 .fin .no)) .no))))) .no) .no))))))))) (.j [] [42, 43, 44, 45, 46, 47, 48, 49, 50, 51, 52, 53, 54, 55, 56, 57, 58, 59, 60, 61, 62, 63, 64, 65, 66, 67] (.s .n (.c (.s (.r (.fl 0 (.fl 1 (.fl 2 (.fl 3 (.fl 4 (.fl 5 (.fl 6 (.fl 7 (.fl 8 (.fl 9 (.fl 10 (.fl 12 (.mn 11 (.mn 13 (.fl 14 (.fl 15 (.fl 16 (.fl 17 (.mn 18 (.fl 19 (.mn 20 .fin .no)) .no))))) .no) .no)))))))))))))) .n) .n)) (.s (.r (.fl 0 (.fl 1 (.fl 2 (.fl 3 (.fl 4 (.fl 5 (.mn 6 (.fl 7 (.fl 8 (.fl 9 (.fl 10 (.mn 11 .fin .no))))) .no)))))))) .n))))) [(34, T_graph_Graph_Nodes), (47, T_slices_ContainsFunc_sint_int), (85, T_least_Along), (86, T_engine_Engine_far), (88, T_dist_To), (89, T_walk_Weight)] ⟨⟨by kernel_rfl, S_graph_Graph_Nodes⟩, ⟨by kernel_rfl, S_slices_ContainsFunc_sint_int⟩, ⟨by kernel_rfl, S_least_Along⟩, ⟨by kernel_rfl, S_engine_Engine_far⟩, ⟨by kernel_rfl, S_dist_To⟩, ⟨by kernel_rfl, S_walk_Weight⟩, trivial⟩ [.c .ptr, .c (.int .i64), .c (.int .i64), .c .slice] (by kernel_rfl) G_engine_Engine_Way fun t w K => by kernel_rfl

/-- (*milepost/engine.Engine).Way$1 -/
def F_engine_Engine_Way_c1 (x : Int) (cap0 : Option Addr) (w : World) (Q : Bool → World → Prop) : Prop :=
  onSome cap0 fun a1 =>
  ld1 .slice w a1 fun (s1 : Sl) =>
  cond (decide (x < ((s1.l : Nat) : Int)))
  (onSome cap0 fun a2 =>
  ld1 .slice w a2 fun (s2 : Sl) =>
  (0 ≤ x ∧ x < ((s2.l : Nat) : Int)) ∧
  onSome s2.b fun a3 =>
  ld1 .bool w (a3.add (Int.toNat x * 1)) fun (b1 : Bool) =>
  Q b1 w)
  (Q false w)
def G_engine_Engine_Way_c1 (t : KTs [.c (.int .i64), .c .ptr]) (w : World) (K : Value → World → Prop) : Prop := F_engine_Engine_Way_c1 t.1 t.2.1 w fun (r0 : Bool) w1 => K (Value.bool r0) w1
abbrev T_engine_Engine_Way_c1 : Tr := fun args w K => decK [.c (.int .i64), .c .ptr] args fun t => G_engine_Engine_Way_c1 t w K
theorem S_engine_Engine_Way_c1 : Sound Tryz.prog 87 T_engine_Engine_Way_c1 := sound_of (fn := Tryz.f87) Tryz.func87 (by kernel_rfl) mixed (by kernel_rfl) (.n) [] trivial [.c (.int .i64), .c .ptr] (by kernel_rfl) G_engine_Engine_Way_c1 fun t w K => by kernel_rfl

end Go.Proofs.YtjjgcimlmjnaeaaGreat
