import Derived.Test.YtjjgcimlmjnaeaaGreatA1
import Derived.Test.YtjjgcimlmjnaeaaGreatFBase
import Derived.Test.YtjjgcimlmjnaeaaGreatFSea
import Derived.Test.YtjjgcimlmjnaeaaGreatFGra
import Derived.Test.YtjjgcimlmjnaeaaGreatFTur
import Derived.Test.YtjjgcimlmjnaeaaGreatFEng
namespace Go.Proofs.YtjjgcimlmjnaeaaGreat
open Go Go.Den
set_option maxRecDepth 100000
/-- milepost/bend.way -/
def F_bend_way (g : Option Addr) (i : Int) (w : World) (Q : Int → Int → Bool → World → Prop) : Prop :=
  F_graph_Graph_Edge g i w fun (t1 : Int × Int × Int × Unit) (b1 : Bool) w1 =>
  allocD w1 #[Value.int .i64 (0 : Int), Value.int .i64 (0 : Int), Value.int .i64 (0 : Int)] 49 fun a1 w2 =>
  storeD Tryz.prog 49 a1 (Value.agg #[(Value.int .i64 t1.1), (Value.int .i64 t1.2.1), (Value.int .i64 t1.2.2.1)]) w2 fun w3 =>
  ld1 (.int .i64) w3 (a1.add 0) fun (x1 : Int) =>
  F_graph_Graph_Node g x1 w3 fun (t2 : Int × Int × Unit) (_ : Bool) w4 =>
  allocD w4 #[Value.int .i64 (0 : Int), Value.int .i64 (0 : Int)] 108 fun a2 w5 =>
  storeD Tryz.prog 108 a2 (Value.agg #[(Value.int .i64 t2.1), (Value.int .i64 t2.2.1)]) w5 fun w6 =>
  ld1 (.int .i64) w6 (a1.add 1) fun (x2 : Int) =>
  F_graph_Graph_Node g x2 w6 fun (t3 : Int × Int × Unit) (_ : Bool) w7 =>
  allocD w7 #[Value.int .i64 (0 : Int), Value.int .i64 (0 : Int)] 108 fun a3 w8 =>
  storeD Tryz.prog 108 a3 (Value.agg #[(Value.int .i64 t3.1), (Value.int .i64 t3.2.1)]) w8 fun w9 =>
  ld1 (.int .i64) w9.drew (a3.add 0) fun (x3 : Int) =>
  ld1 (.int .i64) w9.drew (a2.add 0) fun (x4 : Int) =>
  ld1 (.int .i64) w9.drew (a3.add 1) fun (x5 : Int) =>
  ld1 (.int .i64) w9.drew (a2.add 1) fun (x6 : Int) =>
  Q (IntKind.wrap .i64 (x3 - x4)) (IntKind.wrap .i64 (x5 - x6)) b1 w9.drew
def G_bend_way (t : KTs [.c .ptr, .c (.int .i64)]) (w : World) (K : Value → World → Prop) : Prop := F_bend_way t.1 t.2.1 w fun (r0 : Int) (r1 : Int) (r2 : Bool) w1 => K (Value.tuple #[(Value.int .i64 r0), (Value.int .i64 r1), (Value.bool r2)]) w1
abbrev T_bend_way : Tr := fun args w K => decK [.c .ptr, .c (.int .i64)] args fun t => G_bend_way t w K
theorem S_bend_way : Sound Tryz.prog 142 T_bend_way := sound_of (fn := Tryz.f142) Tryz.func142 (by kernel_rfl) mixed (by kernel_rfl) (.s .n (.s .n (.s .n (.s .n (.s (.r (.fl 0 (.fl 1 (.fl 2 (.fl 3 (.fl 4 (.fl 5 (.fl 6 (.fl 7 (.fl 8 (.fl 9 (.fl 10 (.fl 11 (.fl 12 (.fl 13 .fin))))))))))))))) .n))))) [(41, T_graph_Graph_Edge), (154, T_graph_Graph_Node)] ⟨⟨by kernel_rfl, S_graph_Graph_Edge⟩, ⟨by kernel_rfl, S_graph_Graph_Node⟩, trivial⟩ [.c .ptr, .c (.int .i64)] (by kernel_rfl) G_bend_way fun t w K => by kernel_rfl

/-- milepost/bend.far -/
def F_bend_far (n : Int) (w : World) (Q : Bool → World → Prop) : Prop :=
  cond (decide (n < (-4095 : Int)))
  (Q true w)
  (Q (decide (n > (4095 : Int))) w)
def G_bend_far (t : KTs [.c (.int .i64)]) (w : World) (K : Value → World → Prop) : Prop := F_bend_far t.1 w fun (r0 : Bool) w1 => K (Value.bool r0) w1
abbrev T_bend_far : Tr := fun args w K => decK [.c (.int .i64)] args fun t => G_bend_far t w K
theorem S_bend_far : Sound Tryz.prog 155 T_bend_far := sound_of (fn := Tryz.f155) Tryz.func155 (by kernel_rfl) mixed (by kernel_rfl) (.n) [] trivial [.c (.int .i64)] (by kernel_rfl) G_bend_far fun t w K => by kernel_rfl

/-- milepost/bend.Mirror -/
def F_bend_Mirror (class_ : Int) (w : World) (Q : Int → World → Prop) : Prop :=
  ∀ J1 : (Bool × Unit) → World → Prop, (∀ (t1 : Bool × Unit) (w1 : World), (
  cond t1.1
  (Q (IntKind.wrap .i64 (class_ + (4 : Int))) w1)
  (cond (class_ == (6 : Int))
  (cond (class_ == (6 : Int))
  (Q (IntKind.wrap .i64 (class_ - (4 : Int))) w1)
  (Q class_ w1))
  (cond (class_ == (7 : Int))
  (cond (class_ == (7 : Int))
  (Q (IntKind.wrap .i64 (class_ - (4 : Int))) w1)
  (Q class_ w1))
  (cond (class_ == (8 : Int))
  (Q (IntKind.wrap .i64 (class_ - (4 : Int))) w1)
  (Q class_ w1))))) → J1 t1 w1) →
  cond (class_ == (2 : Int))
  (J1 ((class_ == (2 : Int)), ()) w)
  (cond (class_ == (3 : Int))
  (J1 ((class_ == (3 : Int)), ()) w)
  (J1 ((class_ == (4 : Int)), ()) w))
def G_bend_Mirror (t : KTs [.c (.int .i64)]) (w : World) (K : Value → World → Prop) : Prop := F_bend_Mirror t.1 w fun (r0 : Int) w1 => K (Value.int .i64 r0) w1
abbrev T_bend_Mirror : Tr := fun args w K => decK [.c (.int .i64)] args fun t => G_bend_Mirror t w K
theorem S_bend_Mirror : Sound Tryz.prog 156 T_bend_Mirror := sound_of (fn := Tryz.f156) Tryz.func156 (by kernel_rfl) mixed (by kernel_rfl) (.s .n (.s (.s .n (.b (.j [(4, .c .bool)] [4, 5, 6, 7] .n .n))) .n)) [] trivial [.c (.int .i64)] (by kernel_rfl) G_bend_Mirror fun t w K => by kernel_rfl

/-- milepost/bend.Class -/
def F_bend_Class (ax : Int) (ay : Int) (bx : Int) (by_ : Int) (w : World) (Q : Int → World → Prop) : Prop :=
  ∀ J1 : (Unit) → World → Prop, (∀ (t1 : Unit) (w1 : World), (
  ∀ J2 : (Unit) → World → Prop, (∀ (t2 : Unit) (w2 : World), (
  ∀ J3 : (Int × Unit) → World → Prop, (∀ (t3 : Int × Unit) (w3 : World), (
  cond (decide ((IntKind.wrap .i64 ((IntKind.wrap .i64 (ax * by_)) - (IntKind.wrap .i64 (ay * bx)))) < (0 : Int)))
  (F_bend_Mirror t3.1 w3 fun (x1 : Int) w4 =>
  Q x1 w4)
  (Q t3.1 w3)) → J3 t3 w3) →
  cond (decide ((IntKind.wrap .i64 ((IntKind.wrap .i64 (ax * bx)) + (IntKind.wrap .i64 (ay * by_)))) > (0 : Int)))
  (cond (decide ((maxInt (IntKind.wrap .i64 ((IntKind.wrap .i64 (ax * by_)) - (IntKind.wrap .i64 (ay * bx)))) (IntKind.wrap .i64 (0 - (IntKind.wrap .i64 ((IntKind.wrap .i64 (ax * by_)) - (IntKind.wrap .i64 (ay * bx))))))) ≤ (IntKind.wrap .i64 ((IntKind.wrap .i64 (ax * bx)) + (IntKind.wrap .i64 (ay * by_))))))
  (J3 ((2 : Int), ()) w2)
  (cond (decide ((IntKind.wrap .i64 ((IntKind.wrap .i64 (ax * bx)) + (IntKind.wrap .i64 (ay * by_)))) < (0 : Int)))
  (cond (decide ((maxInt (IntKind.wrap .i64 ((IntKind.wrap .i64 (ax * by_)) - (IntKind.wrap .i64 (ay * bx)))) (IntKind.wrap .i64 (0 - (IntKind.wrap .i64 ((IntKind.wrap .i64 (ax * by_)) - (IntKind.wrap .i64 (ay * bx))))))) ≤ (IntKind.wrap .i64 (0 - (IntKind.wrap .i64 ((IntKind.wrap .i64 (ax * bx)) + (IntKind.wrap .i64 (ay * by_))))))))
  (J3 ((4 : Int), ()) w2)
  (J3 ((3 : Int), ()) w2))
  (J3 ((3 : Int), ()) w2)))
  (cond (decide ((IntKind.wrap .i64 ((IntKind.wrap .i64 (ax * bx)) + (IntKind.wrap .i64 (ay * by_)))) < (0 : Int)))
  (cond (decide ((maxInt (IntKind.wrap .i64 ((IntKind.wrap .i64 (ax * by_)) - (IntKind.wrap .i64 (ay * bx)))) (IntKind.wrap .i64 (0 - (IntKind.wrap .i64 ((IntKind.wrap .i64 (ax * by_)) - (IntKind.wrap .i64 (ay * bx))))))) ≤ (IntKind.wrap .i64 (0 - (IntKind.wrap .i64 ((IntKind.wrap .i64 (ax * bx)) + (IntKind.wrap .i64 (ay * by_))))))))
  (J3 ((4 : Int), ()) w2)
  (J3 ((3 : Int), ()) w2))
  (J3 ((3 : Int), ()) w2))) → J2 t2 w2) →
  cond (decide ((IntKind.wrap .i64 ((IntKind.wrap .i64 (ax * bx)) + (IntKind.wrap .i64 (ay * by_)))) > (0 : Int)))
  (cond (decide ((IntKind.wrap .i64 ((4 : Int) * (maxInt (IntKind.wrap .i64 ((IntKind.wrap .i64 (ax * by_)) - (IntKind.wrap .i64 (ay * bx)))) (IntKind.wrap .i64 (0 - (IntKind.wrap .i64 ((IntKind.wrap .i64 (ax * by_)) - (IntKind.wrap .i64 (ay * bx))))))))) ≤ (IntKind.wrap .i64 ((IntKind.wrap .i64 (ax * bx)) + (IntKind.wrap .i64 (ay * by_))))))
  (Q (1 : Int) w1)
  (cond (decide ((IntKind.wrap .i64 ((IntKind.wrap .i64 (ax * bx)) + (IntKind.wrap .i64 (ay * by_)))) < (0 : Int)))
  (cond (decide ((IntKind.wrap .i64 ((4 : Int) * (maxInt (IntKind.wrap .i64 ((IntKind.wrap .i64 (ax * by_)) - (IntKind.wrap .i64 (ay * bx)))) (IntKind.wrap .i64 (0 - (IntKind.wrap .i64 ((IntKind.wrap .i64 (ax * by_)) - (IntKind.wrap .i64 (ay * bx))))))))) ≤ (IntKind.wrap .i64 (0 - (IntKind.wrap .i64 ((IntKind.wrap .i64 (ax * bx)) + (IntKind.wrap .i64 (ay * by_))))))))
  (Q (5 : Int) w1)
  (J2 (()) w1))
  (J2 (()) w1)))
  (cond (decide ((IntKind.wrap .i64 ((IntKind.wrap .i64 (ax * bx)) + (IntKind.wrap .i64 (ay * by_)))) < (0 : Int)))
  (cond (decide ((IntKind.wrap .i64 ((4 : Int) * (maxInt (IntKind.wrap .i64 ((IntKind.wrap .i64 (ax * by_)) - (IntKind.wrap .i64 (ay * bx)))) (IntKind.wrap .i64 (0 - (IntKind.wrap .i64 ((IntKind.wrap .i64 (ax * by_)) - (IntKind.wrap .i64 (ay * bx))))))))) ≤ (IntKind.wrap .i64 (0 - (IntKind.wrap .i64 ((IntKind.wrap .i64 (ax * bx)) + (IntKind.wrap .i64 (ay * by_))))))))
  (Q (5 : Int) w1)
  (J2 (()) w1))
  (J2 (()) w1))) → J1 t1 w1) →
  F_bend_far ax w fun (b1 : Bool) w5 =>
  cond b1
  (Q (0 : Int) w5)
  (F_bend_far ay w5 fun (b2 : Bool) w6 =>
  cond b2
  (Q (0 : Int) w6)
  (F_bend_far bx w6 fun (b3 : Bool) w7 =>
  cond b3
  (Q (0 : Int) w7)
  (F_bend_far by_ w7 fun (b4 : Bool) w8 =>
  cond b4
  (Q (0 : Int) w8)
  (cond (ax == (0 : Int))
  (cond (ay == (0 : Int))
  (Q (0 : Int) w8)
  (cond (bx == (0 : Int))
  (cond (by_ == (0 : Int))
  (Q (0 : Int) w8)
  (J1 (()) w8))
  (J1 (()) w8)))
  (cond (bx == (0 : Int))
  (cond (by_ == (0 : Int))
  (Q (0 : Int) w8)
  (J1 (()) w8))
  (J1 (()) w8))))))
def G_bend_Class (t : KTs [.c (.int .i64), .c (.int .i64), .c (.int .i64), .c (.int .i64)]) (w : World) (K : Value → World → Prop) : Prop := F_bend_Class t.1 t.2.1 t.2.2.1 t.2.2.2.1 w fun (r0 : Int) w1 => K (Value.int .i64 r0) w1
abbrev T_bend_Class : Tr := fun args w K => decK [.c (.int .i64), .c (.int .i64), .c (.int .i64), .c (.int .i64)] args fun t => G_bend_Class t w K
theorem S_bend_Class : Sound Tryz.prog 143 T_bend_Class := sound_of (fn := Tryz.f143) Tryz.func143 (by kernel_rfl) mixed (by kernel_rfl) (.s .n (.j [] [8, 13, 14, 15, 16, 17, 18, 19, 20, 21, 22, 23, 24, 25, 26, 27, 28, 29, 30, 31, 32, 33, 34, 35, 36, 37, 38, 39, 40, 41, 42] .n (.s .n (.s .n (.j [] [8, 61, 62, 63, 64, 65, 66, 67, 68, 69, 70, 71, 72, 73, 74, 75, 76, 77, 78, 79] .n (.s .n (.j [(12, .c (.int .i64))] [12, 80, 81, 82, 83, 84, 85, 86, 87, 88, 89, 90, 91, 92, 93, 94, 95, 96] .n .n))))))) [(155, T_bend_far), (156, T_bend_Mirror)] ⟨⟨by kernel_rfl, S_bend_far⟩, ⟨by kernel_rfl, S_bend_Mirror⟩, trivial⟩ [.c (.int .i64), .c (.int .i64), .c (.int .i64), .c (.int .i64)] (by kernel_rfl) G_bend_Class fun t w K => by kernel_rfl

/-- milepost/bend.Of -/
def F_bend_Of (g : Option Addr) (a : Int) (b : Int) (w : World) (Q : Int → World → Prop) : Prop :=
  F_bend_way g a w fun (x1 : Int) (x2 : Int) (b1 : Bool) w1 =>
  F_bend_way g b w1 fun (x3 : Int) (x4 : Int) (b2 : Bool) w2 =>
  cond (!b1)
  (Q (0 : Int) w2)
  (cond (!b2)
  (Q (0 : Int) w2)
  (F_bend_Class x1 x2 x3 x4 w2 fun (x5 : Int) w3 =>
  Q x5 w3))
def G_bend_Of (t : KTs [.c .ptr, .c (.int .i64), .c (.int .i64)]) (w : World) (K : Value → World → Prop) : Prop := F_bend_Of t.1 t.2.1 t.2.2.1 w fun (r0 : Int) w1 => K (Value.int .i64 r0) w1
abbrev T_bend_Of : Tr := fun args w K => decK [.c .ptr, .c (.int .i64), .c (.int .i64)] args fun t => G_bend_Of t w K
theorem S_bend_Of : Sound Tryz.prog 124 T_bend_Of := sound_of (fn := Tryz.f124) Tryz.func124 (by kernel_rfl) mixed (by kernel_rfl) (.n) [(142, T_bend_way), (143, T_bend_Class)] ⟨⟨by kernel_rfl, S_bend_way⟩, ⟨by kernel_rfl, S_bend_Class⟩, trivial⟩ [.c .ptr, .c (.int .i64), .c (.int .i64)] (by kernel_rfl) G_bend_Of fun t w K => by kernel_rfl

/-- milepost/guide.hint -/
def F_guide_hint (t : Option Addr) (at_ : Int) (left : Sl) (w : World) (Q : (Int × Int × Int × Int × Unit) → Int → World → Prop) : Prop :=
  allocD w #[Value.int .i64 (0 : Int), Value.int .i64 (0 : Int), Value.int .i64 (0 : Int), Value.int .i64 (0 : Int)] 45 fun a1 w1 =>
  F_walk_Weight t left w1 fun (x1 : Int) (_ : Bool) w2 =>
  storeD Tryz.prog 3 (a1.add 3) (Value.int .i64 x1) w2 fun w3 =>
  ∀ X1 : (Int × Int × Unit) → World → Prop, (∀ (t1 : Int × Int × Unit) (w4 : World), (
  cond (decide (t1.2.1 < ((left.l : Nat) : Int)))
  ((0 ≤ t1.2.1 ∧ t1.2.1 < ((left.l : Nat) : Int)) ∧
  onSome left.b fun a2 =>
  ld1 (.int .i64) w4 (a2.add (Int.toNat t1.2.1 * 1)) fun (x2 : Int) =>
  F_turns_Turns_Next t t1.1 w4 fun (s1 : Sl) w5 =>
  cond (((s1.l : Nat) : Int) != (1 : Int))
  (onSome t fun a3 =>
  ld1 .ptr w5 (a3.add 0) fun (p1 : Option Addr) =>
  F_bend_Of p1 t1.1 x2 w5 fun (x3 : Int) w6 =>
  storeD Tryz.prog 3 (a1.add 0) (Value.int .i64 x3) w6 fun w7 =>
  storeD Tryz.prog 3 (a1.add 1) (Value.int .i64 x2) w7 fun w8 =>
  ldN [.int .i64, .int .i64, .int .i64, .int .i64] w8 a1 fun (t2 : Int × Int × Int × Int × Unit) =>
  storeD Tryz.prog 45 a1 (Value.agg #[(Value.int .i64 t2.1), (Value.int .i64 t2.2.1), (Value.int .i64 t2.2.2.1), (Value.int .i64 t2.2.2.2.1)]) w8 fun w9 =>
  ldN [.int .i64, .int .i64, .int .i64, .int .i64] w9 a1 fun (t3 : Int × Int × Int × Int × Unit) =>
  Q (t3.1, t3.2.1, t3.2.2.1, t3.2.2.2.1, ()) t1.2.1 w9)
  (onSome t fun a4 =>
  ld1 .ptr w5 (a4.add 0) fun (p2 : Option Addr) =>
  F_graph_Graph_Edge p2 x2 w5 fun (t4 : Int × Int × Int × Unit) (_ : Bool) w10 =>
  allocD w10 #[Value.int .i64 (0 : Int), Value.int .i64 (0 : Int), Value.int .i64 (0 : Int)] 49 fun a5 w11 =>
  storeD Tryz.prog 49 a5 (Value.agg #[(Value.int .i64 t4.1), (Value.int .i64 t4.2.1), (Value.int .i64 t4.2.2.1)]) w11 fun w12 =>
  ld1 (.int .i64) w12 (a1.add 2) fun (x4 : Int) =>
  ld1 (.int .i64) w12 (a5.add 2) fun (x5 : Int) =>
  storeD Tryz.prog 3 (a1.add 2) (Value.int .i64 (IntKind.wrap .i64 (x4 + x5))) w12 fun w13 =>
  X1 (x2, (IntKind.wrap .i64 (t1.2.1 + (1 : Int))), ()) w13))
  (storeD Tryz.prog 3 (a1.add 0) (Value.int .i64 (9 : Int)) w4 fun w14 =>
  storeD Tryz.prog 3 (a1.add 1) (Value.int .i64 (-1 : Int)) w14 fun w15 =>
  ldN [.int .i64, .int .i64, .int .i64, .int .i64] w15 a1 fun (t5 : Int × Int × Int × Int × Unit) =>
  storeD Tryz.prog 45 a1 (Value.agg #[(Value.int .i64 t5.1), (Value.int .i64 t5.2.1), (Value.int .i64 t5.2.2.1), (Value.int .i64 t5.2.2.2.1)]) w15 fun w16 =>
  ldN [.int .i64, .int .i64, .int .i64, .int .i64] w16 a1 fun (t6 : Int × Int × Int × Int × Unit) =>
  Q (t6.1, t6.2.1, t6.2.2.1, t6.2.2.2.1, ()) ((left.l : Nat) : Int) w16)) → X1 t1 w4) →
  X1 (at_, (0 : Int), ()) w3
def G_guide_hint (t : KTs [.c .ptr, .c (.int .i64), .c .slice]) (w : World) (K : Value → World → Prop) : Prop := F_guide_hint t.1 t.2.1 t.2.2.1 w fun (r0 : Int × Int × Int × Int × Unit) (r1 : Int) w1 => K (Value.tuple #[(Value.agg #[(Value.int .i64 r0.1), (Value.int .i64 r0.2.1), (Value.int .i64 r0.2.2.1), (Value.int .i64 r0.2.2.2.1)]), (Value.int .i64 r1)]) w1
abbrev T_guide_hint : Tr := fun args w K => decK [.c .ptr, .c (.int .i64), .c .slice] args fun t => G_guide_hint t w K
theorem S_guide_hint : Sound Tryz.prog 91 T_guide_hint := sound_of (fn := Tryz.f91) Tryz.func91 (by kernel_rfl) mixed (by kernel_rfl) (.s .n (.s .n (.s (.s .n (.b (.l [(1, .c (.int .i64)), (21, .c (.int .i64))] [1, 7, 8, 9, 10, 11, 21, 22, 23, 24, 25, 26, 27, 28, 29, 30, 31, 32, 33, 34, 35, 36, 37, 38, 39, 40, 41, 42, 43, 44, 45, 46, 47, 48, 49, 50, 51, 52, 53, 54, 55, 56, 57, 58, 59] .n))) .n))) [(41, T_graph_Graph_Edge), (89, T_walk_Weight), (123, T_turns_Turns_Next), (124, T_bend_Of)] ⟨⟨by kernel_rfl, S_graph_Graph_Edge⟩, ⟨by kernel_rfl, S_walk_Weight⟩, ⟨by kernel_rfl, S_turns_Turns_Next⟩, ⟨by kernel_rfl, S_bend_Of⟩, trivial⟩ [.c .ptr, .c (.int .i64), .c .slice] (by kernel_rfl) G_guide_hint fun t w K => by kernel_rfl

/-- milepost/guide.Hint -/
def F_guide_Hint (t : Option Addr) (at_ : Int) (left : Sl) (w : World) (Q : (Int × Int × Int × Int × Unit) → Bool → World → Prop) : Prop :=
  allocD w #[Value.int .i64 (0 : Int), Value.int .i64 (0 : Int), Value.int .i64 (0 : Int), Value.int .i64 (0 : Int)] 45 fun a1 w1 =>
  F_walk_Valid t at_ left w1 fun (b1 : Bool) w2 =>
  cond (!b1)
  (storeD Tryz.prog 45 a1 (Value.agg #[(Value.int .i64 (0 : Int)), (Value.int .i64 (0 : Int)), (Value.int .i64 (0 : Int)), (Value.int .i64 (0 : Int))]) w2 fun w3 =>
  ldN [.int .i64, .int .i64, .int .i64, .int .i64] w3 a1 fun (t1 : Int × Int × Int × Int × Unit) =>
  Q (t1.1, t1.2.1, t1.2.2.1, t1.2.2.2.1, ()) false w3)
  (F_guide_hint t at_ left w2 fun (t2 : Int × Int × Int × Int × Unit) (_ : Int) w4 =>
  allocD w4 #[Value.int .i64 (0 : Int), Value.int .i64 (0 : Int), Value.int .i64 (0 : Int), Value.int .i64 (0 : Int)] 45 fun a2 w5 =>
  storeD Tryz.prog 45 a2 (Value.agg #[(Value.int .i64 t2.1), (Value.int .i64 t2.2.1), (Value.int .i64 t2.2.2.1), (Value.int .i64 t2.2.2.2.1)]) w5 fun w6 =>
  ldN [.int .i64, .int .i64, .int .i64, .int .i64] w6 a2 fun (t3 : Int × Int × Int × Int × Unit) =>
  storeD Tryz.prog 45 a1 (Value.agg #[(Value.int .i64 t3.1), (Value.int .i64 t3.2.1), (Value.int .i64 t3.2.2.1), (Value.int .i64 t3.2.2.2.1)]) w6 fun w7 =>
  ldN [.int .i64, .int .i64, .int .i64, .int .i64] w7 a1 fun (t4 : Int × Int × Int × Int × Unit) =>
  Q (t4.1, t4.2.1, t4.2.2.1, t4.2.2.2.1, ()) true w7)
def G_guide_Hint (t : KTs [.c .ptr, .c (.int .i64), .c .slice]) (w : World) (K : Value → World → Prop) : Prop := F_guide_Hint t.1 t.2.1 t.2.2.1 w fun (r0 : Int × Int × Int × Int × Unit) (r1 : Bool) w1 => K (Value.tuple #[(Value.agg #[(Value.int .i64 r0.1), (Value.int .i64 r0.2.1), (Value.int .i64 r0.2.2.1), (Value.int .i64 r0.2.2.2.1)]), (Value.bool r1)]) w1
abbrev T_guide_Hint : Tr := fun args w K => decK [.c .ptr, .c (.int .i64), .c .slice] args fun t => G_guide_Hint t w K
theorem S_guide_Hint : Sound Tryz.prog 62 T_guide_Hint := sound_of (fn := Tryz.f62) Tryz.func62 (by kernel_rfl) mixed (by kernel_rfl) (.n) [(90, T_walk_Valid), (91, T_guide_hint)] ⟨⟨by kernel_rfl, S_walk_Valid⟩, ⟨by kernel_rfl, S_guide_hint⟩, trivial⟩ [.c .ptr, .c (.int .i64), .c .slice] (by kernel_rfl) G_guide_Hint fun t w K => by kernel_rfl

/-- (*milepost/session.Session).hint -/
def F_session_Session_hint (s : Option Addr) (w : World) (Q : Sl → World → Prop) : Prop :=
  ∀ J1 : ((Option Addr) × Unit) → World → Prop, (∀ (t1 : (Option Addr) × Unit) (w1 : World), (
  onSome t1.1 fun a1 =>
  ld1 (.int .i64) w1.drew (a1.add 1) fun (x1 : Int) =>
  onSome s fun a2 =>
  ld1 (.int .i64) w1.drew (a2.add 2) fun (x2 : Int) =>
  cond (x1 == x2)
  (onSome s fun a3 =>
  storeD Tryz.prog 4 (a3.add 5) (Value.bool true) w1.drew fun w2 =>
  allocD w2 #[Value.int .i64 (8 : Int), Value.int .i64 (0 : Int), Value.int .i64 (0 : Int), Value.slice none 0 0, Value.int .i64 (0 : Int), Value.int .i64 (0 : Int), Value.int .i64 (0 : Int), Value.int .i64 (0 : Int), Value.int .i64 (0 : Int)] 47 fun a4 w3 =>
  Q ⟨(some a4), 1, 1⟩ w3)
  (onSome s fun a5 =>
  ld1 .ptr w1.drew.drew (a5.add 0) fun (p1 : Option Addr) =>
  onSome p1 fun a6 =>
  ld1 .ptr w1.drew.drew (a6.add 0) fun (p2 : Option Addr) =>
  onSome s fun a7 =>
  ld1 (.int .i64) w1.drew.drew (a7.add 1) fun (x3 : Int) =>
  onSome s fun a8 =>
  ld1 .slice w1.drew.drew (a8.add 3) fun (s1 : Sl) =>
  (F_guide_Hint p2 x3 s1 w1.drew.drew fun (t2 : Int × Int × Int × Int × Unit) (_ : Bool) w4 =>
  allocD w4 #[Value.int .i64 (0 : Int), Value.int .i64 (0 : Int), Value.int .i64 (0 : Int), Value.int .i64 (0 : Int)] 45 fun a9 w5 =>
  storeD Tryz.prog 45 a9 (Value.agg #[(Value.int .i64 t2.1), (Value.int .i64 t2.2.1), (Value.int .i64 t2.2.2.1), (Value.int .i64 t2.2.2.2.1)]) w5 fun w6 =>
  ldN [.int .i64, .int .i64, .int .i64, .int .i64] w6 a9 fun (t3 : Int × Int × Int × Int × Unit) =>
  allocD w6 #[Value.int .i64 (7 : Int), Value.int .i64 (0 : Int), Value.int .i64 (0 : Int), Value.slice none 0 0, Value.int .i64 (0 : Int), Value.int .i64 t3.1, Value.int .i64 t3.2.1, Value.int .i64 t3.2.2.1, Value.int .i64 t3.2.2.2.1] 47 fun a10 w7 =>
  Q ⟨(some a10), 1, 1⟩ w7) ∧
  (allocD w1.drew.drew #[Value.int .i64 (0 : Int), Value.int .i64 (0 : Int), Value.int .i64 (0 : Int), Value.int .i64 (0 : Int)] 45 fun a11 w8 =>
  w8.cell? (a8.add 3) = some (Value.slice s1.b s1.l s1.c) ∧
  w8.cell? (a7.add 1) = some (Value.int .i64 x3) ∧
  w8.cell? (a6.add 0) = some (Value.pointer p2) ∧
  w8.cell? (a5.add 0) = some (Value.pointer p1) ∧
  F_guide_Hint p2 x3 s1 w8 fun (t4 : Int × Int × Int × Int × Unit) (_ : Bool) w9 =>
  storeD Tryz.prog 45 a11 (Value.agg #[(Value.int .i64 t4.1), (Value.int .i64 t4.2.1), (Value.int .i64 t4.2.2.1), (Value.int .i64 t4.2.2.2.1)]) w9 fun w10 =>
  ldN [.int .i64, .int .i64, .int .i64, .int .i64] w10 a11 fun (t5 : Int × Int × Int × Int × Unit) =>
  allocD w10 #[Value.int .i64 (7 : Int), Value.int .i64 (0 : Int), Value.int .i64 (0 : Int), Value.slice none 0 0, Value.int .i64 (0 : Int), Value.int .i64 t5.1, Value.int .i64 t5.2.1, Value.int .i64 t5.2.2.1, Value.int .i64 t5.2.2.2.1] 47 fun a12 w11 =>
  Q ⟨(some a12), 1, 1⟩ w11))) → J1 t1 w1) →
  onSome s fun a13 =>
  ld1 .ptr w.drew (a13.add 0) fun (p3 : Option Addr) =>
  onSome p3 fun a14 =>
  ld1 .ptr w.drew (a14.add 0) fun (p4 : Option Addr) =>
  onSome p4 fun a15 =>
  ld1 .ptr w.drew (a15.add 0) fun (p5 : Option Addr) =>
  onSome s fun a16 =>
  ld1 (.int .i64) w.drew (a16.add 1) fun (x4 : Int) =>
  (F_graph_Graph_Edge p5 x4 w.drew fun (t6 : Int × Int × Int × Unit) (_ : Bool) w12 =>
  allocD w12 #[Value.int .i64 (0 : Int), Value.int .i64 (0 : Int), Value.int .i64 (0 : Int)] 49 fun a17 w13 =>
  storeD Tryz.prog 49 a17 (Value.agg #[(Value.int .i64 t6.1), (Value.int .i64 t6.2.1), (Value.int .i64 t6.2.2.1)]) w13 fun w14 =>
  J1 ((some a17), ()) w14) ∧
  (allocD w.drew #[Value.int .i64 (0 : Int), Value.int .i64 (0 : Int), Value.int .i64 (0 : Int)] 49 fun a18 w15 =>
  w15.cell? (a16.add 1) = some (Value.int .i64 x4) ∧
  w15.cell? (a15.add 0) = some (Value.pointer p5) ∧
  w15.cell? (a14.add 0) = some (Value.pointer p4) ∧
  w15.cell? (a13.add 0) = some (Value.pointer p3) ∧
  F_graph_Graph_Edge p5 x4 w15 fun (t7 : Int × Int × Int × Unit) (_ : Bool) w16 =>
  storeD Tryz.prog 49 a18 (Value.agg #[(Value.int .i64 t7.1), (Value.int .i64 t7.2.1), (Value.int .i64 t7.2.2.1)]) w16 fun w17 =>
  J1 ((some a18), ()) w17)
def G_session_Session_hint (t : KTs [.c .ptr]) (w : World) (K : Value → World → Prop) : Prop := F_session_Session_hint t.1 w fun (r0 : Sl) w1 => K (Value.slice r0.b r0.l r0.c) w1
abbrev T_session_Session_hint : Tr := fun args w K => decK [.c .ptr] args fun t => G_session_Session_hint t w K
theorem S_session_Session_hint : Sound Tryz.prog 42 T_session_Session_hint := sound_of (fn := Tryz.f42) Tryz.func42 (by kernel_rfl) mixed (by kernel_rfl) (.s .n (.s (.j [(3, .c .ptr)] [3, 4, 7, 8, 9, 10, 11, 12, 13, 14, 15, 16, 17, 18, 19, 20, 21, 22, 23, 24] (.r (.fl 0 (.fl 1 (.fl 2 (.fl 3 (.fl 4 (.fl 5 (.fl 6 (.fl 7 (.fl 8 (.fl 9 (.fl 10 (.fl 11 (.fl 12 (.fl 13 (.mn 14 (.fl 15 (.fl 16 (.fl 17 (.mn 18 (.mn 19 (.fl 20 .fin) .no) .no)))) (.mn 18 (.mn 14 (.fl 15 (.fl 16 (.fl 17 (.mn 19 (.fl 20 .fin) .no)))) .no) .no))))))))))))))))) (.s (.r (.fl 0 (.fl 1 (.fl 2 (.fl 3 (.fl 4 (.fl 5 (.fl 6 .fin)))))))) .n)) (.s (.r (.fl 0 (.fl 1 (.fl 2 (.fl 3 (.fl 4 (.fl 5 (.fl 6 (.fl 7 (.fl 8 (.fl 9 (.fl 10 (.fl 11 (.fl 12 (.fl 13 (.fl 14 (.mn 15 (.fl 16 (.fl 17 (.fl 18 (.mn 19 (.mn 20 (.fl 21 .fin) .no) .no)))) (.mn 19 (.mn 15 (.fl 16 (.fl 17 (.fl 18 (.mn 20 (.fl 21 .fin) .no)))) .no) .no)))))))))))))))))) .n))) [(41, T_graph_Graph_Edge), (62, T_guide_Hint)] ⟨⟨by kernel_rfl, S_graph_Graph_Edge⟩, ⟨by kernel_rfl, S_guide_Hint⟩, trivial⟩ [.c .ptr] (by kernel_rfl) G_session_Session_hint fun t w K => by kernel_rfl

/-- (*milepost/session.Session).asks -/
def F_session_Session_asks (s : Option Addr) (closed : Sl) (w : World) (Q : Sl → World → Prop) : Prop :=
  ∀ J1 : ((Option Addr) × Unit) → World → Prop, (∀ (t1 : (Option Addr) × Unit) (w1 : World), (
  onSome t1.1 fun a1 =>
  ld1 .slice w1.drew (a1.add 0) fun (s1 : Sl) =>
  onSome t1.1 fun a2 =>
  ld1 .bool w1.drew (a2.add 2) fun (b1 : Bool) =>
  onSome s fun a3 =>
  storeD Tryz.prog 22 (a3.add 3) (Value.slice s1.b s1.l s1.c) w1.drew fun w2 =>
  w2.cell? (a2.add 2) = some (Value.bool b1) ∧
  onSome s fun a4 =>
  storeD Tryz.prog 4 (a4.add 4) (Value.bool b1) w2 fun w3 =>
  onSome t1.1 fun a5 =>
  ld1 .bool w3 (a5.add 2) fun (b2 : Bool) =>
  cond (!b2)
  (allocD w3 #[Value.int .i64 (6 : Int), Value.int .i64 (0 : Int), Value.int .i64 (0 : Int), Value.slice none 0 0, Value.int .i64 (0 : Int), Value.int .i64 (0 : Int), Value.int .i64 (0 : Int), Value.int .i64 (0 : Int), Value.int .i64 (0 : Int)] 47 fun a6 w4 =>
  Q ⟨(some a6), 1, 1⟩ w4)
  (onSome t1.1 fun a7 =>
  ld1 .slice w3.drew (a7.add 0) fun (s2 : Sl) =>
  onSome t1.1 fun a8 =>
  ld1 (.int .i64) w3.drew (a8.add 1) fun (x1 : Int) =>
  F_slices_Clone_sint_int s2 w3.drew fun (s3 : Sl) w5 =>
  w5.cell? (a8.add 1) = some (Value.int .i64 x1) ∧
  (allocD w5 #[Value.int .i64 (5 : Int), Value.int .i64 (0 : Int), Value.int .i64 (0 : Int), Value.slice s3.b s3.l s3.c, Value.int .i64 x1, Value.int .i64 (0 : Int), Value.int .i64 (0 : Int), Value.int .i64 (0 : Int), Value.int .i64 (0 : Int)] 47 fun a9 w6 =>
  F_session_Session_hint s w6 fun (s4 : Sl) w7 =>
  appendD Tryz.prog 34 34 ⟨(some a9), 1, 1⟩ (Value.slice s4.b s4.l s4.c) w7 fun (s5 : Sl) w8 =>
  Q s5 w8) ∧
  (F_session_Session_hint s w5 fun (s6 : Sl) w9 =>
  w9.cell? (a8.add 1) = some (Value.int .i64 x1) ∧
  allocD w9 #[Value.int .i64 (5 : Int), Value.int .i64 (0 : Int), Value.int .i64 (0 : Int), Value.slice s3.b s3.l s3.c, Value.int .i64 x1, Value.int .i64 (0 : Int), Value.int .i64 (0 : Int), Value.int .i64 (0 : Int), Value.int .i64 (0 : Int)] 47 fun a10 w10 =>
  appendD Tryz.prog 34 34 ⟨(some a10), 1, 1⟩ (Value.slice s6.b s6.l s6.c) w10 fun (s7 : Sl) w11 =>
  Q s7 w11))) → J1 t1 w1) →
  onSome s fun a11 =>
  ld1 .ptr w.drew (a11.add 0) fun (p1 : Option Addr) =>
  onSome s fun a12 =>
  ld1 (.int .i64) w.drew (a12.add 1) fun (x2 : Int) =>
  onSome s fun a13 =>
  ld1 (.int .i64) w.drew (a13.add 2) fun (x3 : Int) =>
  (F_engine_Engine_Way p1 x2 x3 closed w.drew fun (t2 : Sl × Int × Bool × Bool × Unit) w12 =>
  allocD w12 #[Value.slice none 0 0, Value.int .i64 (0 : Int), Value.bool false, Value.bool false] 126 fun a14 w13 =>
  storeD Tryz.prog 126 a14 (Value.agg #[(Value.slice t2.1.b t2.1.l t2.1.c), (Value.int .i64 t2.2.1), (Value.bool t2.2.2.1), (Value.bool t2.2.2.2.1)]) w13 fun w14 =>
  J1 ((some a14), ()) w14) ∧
  (allocD w.drew #[Value.slice none 0 0, Value.int .i64 (0 : Int), Value.bool false, Value.bool false] 126 fun a15 w15 =>
  w15.cell? (a13.add 2) = some (Value.int .i64 x3) ∧
  w15.cell? (a12.add 1) = some (Value.int .i64 x2) ∧
  w15.cell? (a11.add 0) = some (Value.pointer p1) ∧
  F_engine_Engine_Way p1 x2 x3 closed w15 fun (t3 : Sl × Int × Bool × Bool × Unit) w16 =>
  storeD Tryz.prog 126 a15 (Value.agg #[(Value.slice t3.1.b t3.1.l t3.1.c), (Value.int .i64 t3.2.1), (Value.bool t3.2.2.1), (Value.bool t3.2.2.2.1)]) w16 fun w17 =>
  J1 ((some a15), ()) w17)
def G_session_Session_asks (t : KTs [.c .ptr, .c .slice]) (w : World) (K : Value → World → Prop) : Prop := F_session_Session_asks t.1 t.2.1 w fun (r0 : Sl) w1 => K (Value.slice r0.b r0.l r0.c) w1
abbrev T_session_Session_asks : Tr := fun args w K => decK [.c .ptr, .c .slice] args fun t => G_session_Session_asks t w K
theorem S_session_Session_asks : Sound Tryz.prog 35 T_session_Session_asks := sound_of (fn := Tryz.f35) Tryz.func35 (by kernel_rfl) mixed (by kernel_rfl) (.s .n (.j [(5, .c .ptr)] [5, 6, 7, 8, 9, 10, 11, 12, 13, 14, 15, 16, 17, 18, 19] (.r (.fl 0 (.fl 1 (.fl 2 (.fl 3 (.fl 4 (.fl 5 (.fl 6 (.fl 7 (.fl 8 (.fl 9 (.fl 10 (.fl 11 (.fl 12 (.mn 13 (.mn 14 (.mn 15 .fin .no) .no) (.mn 14 (.mn 13 (.mn 15 .fin .no) .no) .no)))))))))))))))) (.s (.r (.fl 0 (.fl 1 (.fl 2 (.fl 3 (.fl 4 (.fl 5 (.fl 6 (.fl 7 (.mn 8 (.fl 9 (.fl 10 (.mn 11 .fin .no))) .no)))))))))) (.s .n (.s (.r (.fl 0 (.fl 1 (.fl 3 (.fl 4 (.fl 7 (.mn 2 (.fl 5 (.mn 6 (.mn 8 (.mn 9 (.fl 10 .fin) .no) .no) (.mn 8 (.mn 6 (.mn 9 (.fl 10 .fin) .no) .no) .no))) .no))))))) .n))))) [(39, T_slices_Clone_sint_int), (42, T_session_Session_hint), (61, T_engine_Engine_Way)] ⟨⟨by kernel_rfl, S_slices_Clone_sint_int⟩, ⟨by kernel_rfl, S_session_Session_hint⟩, ⟨by kernel_rfl, S_engine_Engine_Way⟩, trivial⟩ [.c .ptr, .c .slice] (by kernel_rfl) G_session_Session_asks fun t w K => by kernel_rfl

/-- milepost/session.New -/
def F_session_New (e_ : Option Addr) (at_ : Int) (node : Int) (closed : Sl) (w : World) (Q : (Option Addr) → Sl → Int → World → Prop) : Prop :=
  cond (Option.isNone e_)
  (Q none ⟨none, 0, 0⟩ (1 : Int) w)
  (cond (decide (at_ < (0 : Int)))
  (Q none ⟨none, 0, 0⟩ (1 : Int) w)
  (onSome e_ fun a1 =>
  ld1 .ptr w (a1.add 0) fun (p1 : Option Addr) =>
  onSome p1 fun a2 =>
  ld1 .ptr w (a2.add 0) fun (p2 : Option Addr) =>
  F_graph_Graph_Edges p2 w fun (x1 : Int) w1 =>
  cond (decide (at_ ≥ x1))
  (Q none ⟨none, 0, 0⟩ (1 : Int) w1)
  (cond (decide (node < (0 : Int)))
  (Q none ⟨none, 0, 0⟩ (1 : Int) w1)
  (onSome e_ fun a3 =>
  ld1 .ptr w1 (a3.add 0) fun (p3 : Option Addr) =>
  onSome p3 fun a4 =>
  ld1 .ptr w1 (a4.add 0) fun (p4 : Option Addr) =>
  F_graph_Graph_Nodes p4 w1 fun (x2 : Int) w2 =>
  cond (decide (node ≥ x2))
  (Q none ⟨none, 0, 0⟩ (1 : Int) w2)
  (allocD w2 #[Value.pointer e_, Value.int .i64 at_, Value.int .i64 node, Value.slice none 0 0, Value.bool false, Value.bool false] 86 fun a5 w3 =>
  allocD w3 #[Value.int .i64 (4 : Int), Value.int .i64 (0 : Int), Value.int .i64 (0 : Int), Value.slice none 0 0, Value.int .i64 (0 : Int), Value.int .i64 (0 : Int), Value.int .i64 (0 : Int), Value.int .i64 (0 : Int), Value.int .i64 (0 : Int)] 47 fun a6 w4 =>
  F_session_Session_asks (some a5) closed w4 fun (s1 : Sl) w5 =>
  appendD Tryz.prog 34 34 ⟨(some a6), 1, 1⟩ (Value.slice s1.b s1.l s1.c) w5 fun (s2 : Sl) w6 =>
  Q (some a5) s2 (0 : Int) w6)))))
def G_session_New (t : KTs [.c .ptr, .c (.int .i64), .c (.int .i64), .c .slice]) (w : World) (K : Value → World → Prop) : Prop := F_session_New t.1 t.2.1 t.2.2.1 t.2.2.2.1 w fun (r0 : Option Addr) (r1 : Sl) (r2 : Int) w1 => K (Value.tuple #[(Value.pointer r0), (Value.slice r1.b r1.l r1.c), (Value.int .i64 r2)]) w1
abbrev T_session_New : Tr := fun args w K => decK [.c .ptr, .c (.int .i64), .c (.int .i64), .c .slice] args fun t => G_session_New t w K
theorem S_session_New : Sound Tryz.prog 11 T_session_New := sound_of (fn := Tryz.f11) Tryz.func11 (by kernel_rfl) mixed (by kernel_rfl) (.n) [(33, T_graph_Graph_Edges), (34, T_graph_Graph_Nodes), (35, T_session_Session_asks)] ⟨⟨by kernel_rfl, S_graph_Graph_Edges⟩, ⟨by kernel_rfl, S_graph_Graph_Nodes⟩, ⟨by kernel_rfl, S_session_Session_asks⟩, trivial⟩ [.c .ptr, .c (.int .i64), .c (.int .i64), .c .slice] (by kernel_rfl) G_session_New fun t w K => by kernel_rfl

/-- (*milepost/session.Session).Left -/
def F_session_Session_Left (s : Option Addr) (w : World) (Q : Sl → Bool → World → Prop) : Prop :=
  cond (Option.isNone s)
  (Q ⟨none, 0, 0⟩ false w)
  (onSome s fun a1 =>
  ld1 .bool w (a1.add 4) fun (b1 : Bool) =>
  cond (!b1)
  (Q ⟨none, 0, 0⟩ false w)
  (onSome s fun a2 =>
  ld1 .slice w (a2.add 3) fun (s1 : Sl) =>
  F_slices_Clone_sint_int s1 w fun (s2 : Sl) w1 =>
  Q s2 true w1))
def G_session_Session_Left (t : KTs [.c .ptr]) (w : World) (K : Value → World → Prop) : Prop := F_session_Session_Left t.1 w fun (r0 : Sl) (r1 : Bool) w1 => K (Value.tuple #[(Value.slice r0.b r0.l r0.c), (Value.bool r1)]) w1
abbrev T_session_Session_Left : Tr := fun args w K => decK [.c .ptr] args fun t => G_session_Session_Left t w K
theorem S_session_Session_Left : Sound Tryz.prog 13 T_session_Session_Left := sound_of (fn := Tryz.f13) Tryz.func13 (by kernel_rfl) mixed (by kernel_rfl) (.n) [(39, T_slices_Clone_sint_int)] ⟨⟨by kernel_rfl, S_slices_Clone_sint_int⟩, trivial⟩ [.c .ptr] (by kernel_rfl) G_session_Session_Left fun t w K => by kernel_rfl

/-- (*milepost/session.Session).At -/
def F_session_Session_At (s : Option Addr) (w : World) (Q : Int → World → Prop) : Prop :=
  cond (Option.isNone s)
  (Q (0 : Int) w)
  (onSome s fun a1 =>
  ld1 (.int .i64) w (a1.add 1) fun (x1 : Int) =>
  Q x1 w)
def G_session_Session_At (t : KTs [.c .ptr]) (w : World) (K : Value → World → Prop) : Prop := F_session_Session_At t.1 w fun (r0 : Int) w1 => K (Value.int .i64 r0) w1
abbrev T_session_Session_At : Tr := fun args w K => decK [.c .ptr] args fun t => G_session_Session_At t w K
theorem S_session_Session_At : Sound Tryz.prog 14 T_session_Session_At := sound_of (fn := Tryz.f14) Tryz.func14 (by kernel_rfl) mixed (by kernel_rfl) (.n) [] trivial [.c .ptr] (by kernel_rfl) G_session_Session_At fun t w K => by kernel_rfl

/-- (*milepost/session.Session).Done -/
def F_session_Session_Done (s : Option Addr) (w : World) (Q : Bool → World → Prop) : Prop :=
  cond (Option.isNone s)
  (Q true w)
  (onSome s fun a1 =>
  ld1 .bool w (a1.add 5) fun (b1 : Bool) =>
  Q b1 w)
def G_session_Session_Done (t : KTs [.c .ptr]) (w : World) (K : Value → World → Prop) : Prop := F_session_Session_Done t.1 w fun (r0 : Bool) w1 => K (Value.bool r0) w1
abbrev T_session_Session_Done : Tr := fun args w K => decK [.c .ptr] args fun t => G_session_Session_Done t w K
theorem S_session_Session_Done : Sound Tryz.prog 16 T_session_Session_Done := sound_of (fn := Tryz.f16) Tryz.func16 (by kernel_rfl) mixed (by kernel_rfl) (.n) [] trivial [.c .ptr] (by kernel_rfl) G_session_Session_Done fun t w K => by kernel_rfl

/-- (*milepost/session.Session).Report -/
def F_session_Session_Report (s : Option Addr) (pos : Int) (closed : Sl) (w : World) (Q : Sl → World → Prop) : Prop :=
  F_session_Session_Done s w fun (b1 : Bool) w1 =>
  cond b1
  (Q ⟨none, 0, 0⟩ w1)
  (onSome s fun a1 =>
  ld1 .ptr w1 (a1.add 0) fun (p1 : Option Addr) =>
  onSome p1 fun a2 =>
  ld1 .ptr w1 (a2.add 0) fun (p2 : Option Addr) =>
  onSome p2 fun a3 =>
  ld1 .ptr w1 (a3.add 0) fun (p3 : Option Addr) =>
  F_graph_Graph_Edge p3 pos w1 fun (t1 : Int × Int × Int × Unit) (b2 : Bool) w2 =>
  allocD w2 #[Value.int .i64 (0 : Int), Value.int .i64 (0 : Int), Value.int .i64 (0 : Int)] 49 fun a4 w3 =>
  storeD Tryz.prog 49 a4 (Value.agg #[(Value.int .i64 t1.1), (Value.int .i64 t1.2.1), (Value.int .i64 t1.2.2.1)]) w3 fun w4 =>
  cond (!b2)
  (allocD w4 #[Value.int .i64 (9 : Int), Value.int .i64 pos, Value.int .i64 (0 : Int), Value.slice none 0 0, Value.int .i64 (0 : Int), Value.int .i64 (0 : Int), Value.int .i64 (0 : Int), Value.int .i64 (0 : Int), Value.int .i64 (0 : Int)] 47 fun a5 w5 =>
  Q ⟨(some a5), 1, 1⟩ w5)
  (∀ J1 : (Unit) → World → Prop, (∀ (t2 : Unit) (w6 : World), (
  onSome s fun a6 =>
  storeD Tryz.prog 3 (a6.add 1) (Value.int .i64 pos) w6 fun w7 =>
  F_session_Session_asks s closed w7 fun (s1 : Sl) w8 =>
  Q s1 w8) → J1 t2 w6) →
  ∀ J2 : (Bool × Unit) → World → Prop, (∀ (t3 : Bool × Unit) (w9 : World), (
  cond t3.1
  (F_session_Session_hint s w9 fun (s2 : Sl) w10 =>
  Q s2 w10)
  (onSome s fun a7 =>
  ld1 .bool w9 (a7.add 4) fun (b3 : Bool) =>
  cond b3
  (onSome s fun a8 =>
  ld1 .slice w9 (a8.add 3) fun (s3 : Sl) =>
  cond (decide (((s3.l : Nat) : Int) > (0 : Int)))
  (onSome s fun a9 =>
  ld1 .slice w9 (a9.add 3) fun (s4 : Sl) =>
  (0 ≤ (0 : Int) ∧ (0 : Int) < ((s4.l : Nat) : Int)) ∧
  onSome s4.b fun a10 =>
  ld1 (.int .i64) w9 (a10.add (Int.toNat (0 : Int) * 1)) fun (x1 : Int) =>
  cond (pos == x1)
  (onSome s fun a11 =>
  ld1 .slice w9.drew (a11.add 3) fun (s5 : Sl) =>
  (0 ≤ (1 : Int) ∧ (1 : Int) ≤ ((s5.l : Nat) : Int)) ∧
  onSome s fun a12 =>
  storeD Tryz.prog 3 (a12.add 1) (Value.int .i64 pos) w9.drew fun w11 =>
  onSome s fun a13 =>
  storeD Tryz.prog 22 (a13.add 3) (Value.slice (sliceAddr s5.b s5.c (Int.toNat (1 : Int)) 1) (s5.l - (Int.toNat (1 : Int))) (s5.c - (Int.toNat (1 : Int)))) w11 fun w12 =>
  F_session_Session_hint s w12 fun (s6 : Sl) w13 =>
  Q s6 w13)
  (J1 (()) w9))
  (J1 (()) w9))
  (J1 (()) w9))) → J2 t3 w9) →
  onSome s fun a14 =>
  ld1 .bool w4 (a14.add 4) fun (b4 : Bool) =>
  cond b4
  (onSome s fun a15 =>
  ld1 (.int .i64) w4 (a15.add 1) fun (x2 : Int) =>
  J2 ((pos == x2), ()) w4)
  (J2 (false, ()) w4)))
def G_session_Session_Report (t : KTs [.c .ptr, .c (.int .i64), .c .slice]) (w : World) (K : Value → World → Prop) : Prop := F_session_Session_Report t.1 t.2.1 t.2.2.1 w fun (r0 : Sl) w1 => K (Value.slice r0.b r0.l r0.c) w1
abbrev T_session_Session_Report : Tr := fun args w K => decK [.c .ptr, .c (.int .i64), .c .slice] args fun t => G_session_Session_Report t w K
theorem S_session_Session_Report : Sound Tryz.prog 17 T_session_Session_Report := sound_of (fn := Tryz.f17) Tryz.func17 (by kernel_rfl) mixed (by kernel_rfl) (.s .n (.s .n (.s .n (.j [] [6, 31, 32, 33, 34, 35, 36, 37, 38, 39, 40, 41, 42, 43, 44, 45, 46, 47, 48, 49, 50, 51, 52, 53, 54, 55, 56, 57, 58, 59, 60, 61, 62, 63, 64, 65, 66, 67, 68, 69, 70, 71, 72, 73, 74, 75, 76, 77, 78, 79, 80, 81, 82] (.b (.j [(31, .c .bool)] [31, 32, 33, 34, 35, 36, 37, 38, 39, 40, 41, 42, 43] .n (.c .n (.s .n (.c (.s (.r (.fl 0 (.fl 1 (.fl 2 (.fl 3 (.fl 4 (.fl 5 (.fl 6 (.fl 7 (.fl 8 (.fl 9 (.mn 10 (.fl 11 (.fl 12 (.mn 13 .fin .no))) .no)))))))))))) .n) .n))))) .n)))) [(16, T_session_Session_Done), (35, T_session_Session_asks), (41, T_graph_Graph_Edge), (42, T_session_Session_hint)] ⟨⟨by kernel_rfl, S_session_Session_Done⟩, ⟨by kernel_rfl, S_session_Session_asks⟩, ⟨by kernel_rfl, S_graph_Graph_Edge⟩, ⟨by kernel_rfl, S_session_Session_hint⟩, trivial⟩ [.c .ptr, .c (.int .i64), .c .slice] (by kernel_rfl) G_session_Session_Report fun t w K => by kernel_rfl

/-- (*milepost/session.Session).Changed -/
def F_session_Session_Changed (s : Option Addr) (shut : Sl) (open_ : Sl) (closed : Sl) (w : World) (Q : Sl → World → Prop) : Prop :=
  allocD w #[Value.slice shut.b shut.l shut.c] 22 fun a1 w1 =>
  F_session_Session_Done s w1 fun (b1 : Bool) w2 =>
  cond b1
  (Q ⟨none, 0, 0⟩ w2)
  (onSome s fun a2 =>
  ld1 .slice w2 (a2.add 3) fun (s1 : Sl) =>
  F_slices_ContainsFunc_sint_int s1 (Value.func (.func 48) #[] #[(Value.pointer (some a1))]) w2 fun (b2 : Bool) w3 =>
  ∀ J1 : (Unit) → World → Prop, (∀ (t1 : Unit) (w4 : World), (
  onSome s fun a3 =>
  ld1 .bool w4 (a3.add 4) fun (b3 : Bool) =>
  F_session_Session_asks s closed w4 fun (s2 : Sl) w5 =>
  cond (!b3)
  (onSome s fun a4 =>
  ld1 .bool w5 (a4.add 4) fun (b4 : Bool) =>
  cond (!b4)
  (Q ⟨none, 0, 0⟩ w5)
  (Q s2 w5))
  (Q s2 w5)) → J1 t1 w4) →
  onSome s fun a5 =>
  ld1 .bool w3 (a5.add 4) fun (b5 : Bool) =>
  cond b5
  (cond (!b2)
  (Q ⟨none, 0, 0⟩ w3)
  (onSome s fun a6 =>
  ld1 .bool w3 (a6.add 4) fun (b6 : Bool) =>
  cond (!b6)
  (cond (((open_.l : Nat) : Int) == (0 : Int))
  (Q ⟨none, 0, 0⟩ w3)
  (J1 (()) w3))
  (J1 (()) w3)))
  (onSome s fun a7 =>
  ld1 .bool w3 (a7.add 4) fun (b7 : Bool) =>
  cond (!b7)
  (cond (((open_.l : Nat) : Int) == (0 : Int))
  (Q ⟨none, 0, 0⟩ w3)
  (J1 (()) w3))
  (J1 (()) w3)))
def G_session_Session_Changed (t : KTs [.c .ptr, .c .slice, .c .slice, .c .slice]) (w : World) (K : Value → World → Prop) : Prop := F_session_Session_Changed t.1 t.2.1 t.2.2.1 t.2.2.2.1 w fun (r0 : Sl) w1 => K (Value.slice r0.b r0.l r0.c) w1
abbrev T_session_Session_Changed : Tr := fun args w K => decK [.c .ptr, .c .slice, .c .slice, .c .slice] args fun t => G_session_Session_Changed t w K
theorem S_session_Session_Changed : Sound Tryz.prog 24 T_session_Session_Changed := sound_of (fn := Tryz.f24) Tryz.func24 (by kernel_rfl) mixed (by kernel_rfl) (.s .n (.s .n (.s .n (.j [] [8, 20, 21, 22, 23, 24, 25, 26, 27, 28, 29, 30, 31, 32, 33, 34, 35, 36, 37, 38, 39] .n .n)))) [(16, T_session_Session_Done), (35, T_session_Session_asks), (47, T_slices_ContainsFunc_sint_int)] ⟨⟨by kernel_rfl, S_session_Session_Done⟩, ⟨by kernel_rfl, S_session_Session_asks⟩, ⟨by kernel_rfl, S_slices_ContainsFunc_sint_int⟩, trivial⟩ [.c .ptr, .c .slice, .c .slice, .c .slice] (by kernel_rfl) G_session_Session_Changed fun t w K => by kernel_rfl

/-- slices.Index[[]int,int] -/
def F_slices_Index_sint_int (s : Sl) (v : Int) (w : World) (Q : Int → World → Prop) : Prop :=
  ∀ X1 : (Int × Unit) → World → Prop, (∀ (t1 : Int × Unit) (w1 : World), (
  cond (decide (t1.1 < ((s.l : Nat) : Int)))
  ((0 ≤ t1.1 ∧ t1.1 < ((s.l : Nat) : Int)) ∧
  onSome s.b fun a1 =>
  ld1 (.int .i64) w1 (a1.add (Int.toNat t1.1 * 1)) fun (x1 : Int) =>
  cond (v == x1)
  (Q t1.1 w1)
  (X1 ((IntKind.wrap .i64 (t1.1 + (1 : Int))), ()) w1))
  (Q (-1 : Int) w1)) → X1 t1 w1) →
  X1 ((0 : Int), ()) w
def G_slices_Index_sint_int (t : KTs [.c .slice, .c (.int .i64)]) (w : World) (K : Value → World → Prop) : Prop := F_slices_Index_sint_int t.1 t.2.1 w fun (r0 : Int) w1 => K (Value.int .i64 r0) w1
abbrev T_slices_Index_sint_int : Tr := fun args w K => decK [.c .slice, .c (.int .i64)] args fun t => G_slices_Index_sint_int t w K
theorem S_slices_Index_sint_int : Sound Tryz.prog 66 T_slices_Index_sint_int := sound_of (fn := Tryz.f66) Tryz.func66 (by kernel_rfl) mixed (by kernel_rfl) (.s .n (.s (.s .n (.b (.l [(8, .c (.int .i64))] [4, 5, 8, 9, 10, 11, 12, 13, 14, 15, 16, 17, 18] .n))) .n)) [] trivial [.c .slice, .c (.int .i64)] (by kernel_rfl) G_slices_Index_sint_int fun t w K => by kernel_rfl

/-- slices.Contains[[]int,int] -/
def F_slices_Contains_sint_int (s : Sl) (v : Int) (w : World) (Q : Bool → World → Prop) : Prop :=
  F_slices_Index_sint_int s v w fun (x1 : Int) w1 =>
  Q (decide (x1 ≥ (0 : Int))) w1
def G_slices_Contains_sint_int (t : KTs [.c .slice, .c (.int .i64)]) (w : World) (K : Value → World → Prop) : Prop := F_slices_Contains_sint_int t.1 t.2.1 w fun (r0 : Bool) w1 => K (Value.bool r0) w1
abbrev T_slices_Contains_sint_int : Tr := fun args w K => decK [.c .slice, .c (.int .i64)] args fun t => G_slices_Contains_sint_int t w K
theorem S_slices_Contains_sint_int : Sound Tryz.prog 49 T_slices_Contains_sint_int := sound_of (fn := Tryz.f49) Tryz.func49 (by kernel_rfl) mixed (by kernel_rfl) (.n) [(66, T_slices_Index_sint_int)] ⟨⟨by kernel_rfl, S_slices_Index_sint_int⟩, trivial⟩ [.c .slice, .c (.int .i64)] (by kernel_rfl) G_slices_Contains_sint_int fun t w K => by kernel_rfl

/-- (*milepost/session.Session).Changed$1 -/
def F_session_Session_Changed_c1 (e_ : Int) (cap0 : Option Addr) (w : World) (Q : Bool → World → Prop) : Prop :=
  onSome cap0 fun a1 =>
  ld1 .slice w a1 fun (s1 : Sl) =>
  F_slices_Contains_sint_int s1 e_ w fun (b1 : Bool) w1 =>
  Q b1 w1
def G_session_Session_Changed_c1 (t : KTs [.c (.int .i64), .c .ptr]) (w : World) (K : Value → World → Prop) : Prop := F_session_Session_Changed_c1 t.1 t.2.1 w fun (r0 : Bool) w1 => K (Value.bool r0) w1
abbrev T_session_Session_Changed_c1 : Tr := fun args w K => decK [.c (.int .i64), .c .ptr] args fun t => G_session_Session_Changed_c1 t w K
theorem S_session_Session_Changed_c1 : Sound Tryz.prog 48 T_session_Session_Changed_c1 := sound_of (fn := Tryz.f48) Tryz.func48 (by kernel_rfl) mixed (by kernel_rfl) (.n) [(49, T_slices_Contains_sint_int)] ⟨⟨by kernel_rfl, S_slices_Contains_sint_int⟩, trivial⟩ [.c (.int .i64), .c .ptr] (by kernel_rfl) G_session_Session_Changed_c1 fun t w K => by kernel_rfl

end Go.Proofs.YtjjgcimlmjnaeaaGreat
