import Derived.Test.YtadacfoiphklgaaMpDenS
import Derived.Test.YtadacfoiphklgaaFBase
import Derived.Test.YtadacfoiphklgaaFNet
import Derived.Test.YtadacfoiphklgaaFWit
import Derived.Test.YtadacfoiphklgaaFRank
namespace Go.Proofs.Ytadacfoiphklgaa
open Go Go.Den
set_option maxRecDepth 100000
/-- milepost/milepostlaw15.arcs -/
def F_law15_arcs (n : Int) (l : Sl) (w : World) (Q : Sl → World → Prop) : Prop :=
  ∀ X1 : (Sl × Int × Unit) → World → Prop, (∀ (t1 : Sl × Int × Unit) (w1 : World), (
  cond (decide (t1.2.1 < ((l.l : Nat) : Int)))
  (cond (decide (n > (1 : Int)))
  ((0 ≤ t1.2.1 ∧ t1.2.1 < ((l.l : Nat) : Int)) ∧
  onSome l.b fun a1 =>
  (0 ≤ (0 : Int) ∧ (0 : Int) < ((3 : Nat) : Int)) ∧
  ld1 (.int .i64) w1.drew ((a1.add (Int.toNat t1.2.1 * 3)).add (Int.toNat (0 : Int) * 1)) fun (x1 : Int) =>
  (0 ≤ t1.2.1 ∧ t1.2.1 < ((l.l : Nat) : Int)) ∧
  onSome l.b fun a2 =>
  (0 ≤ (1 : Int) ∧ (1 : Int) < ((3 : Nat) : Int)) ∧
  ld1 (.int .i64) w1.drew ((a2.add (Int.toNat t1.2.1 * 3)).add (Int.toNat (1 : Int) * 1)) fun (x2 : Int) =>
  F_alike_Round x1 n w1.drew fun (x3 : Int) w2 =>
  w2.cell? ((a2.add (Int.toNat t1.2.1 * 3)).add (Int.toNat (1 : Int) * 1)) = some (Value.int .i64 x2) ∧
  F_alike_Round x2 n w2 fun (x4 : Int) w3 =>
  cond (x3 != x4)
  ((0 ≤ t1.2.1 ∧ t1.2.1 < ((l.l : Nat) : Int)) ∧
  onSome l.b fun a3 =>
  (0 ≤ (2 : Int) ∧ (2 : Int) < ((3 : Nat) : Int)) ∧
  ld1 (.int .i64) w3 ((a3.add (Int.toNat t1.2.1 * 3)).add (Int.toNat (2 : Int) * 1)) fun (x5 : Int) =>
  F_alike_Round x5 (20 : Int) w3 fun (x6 : Int) w4 =>
  allocD w4 #[Value.int .i64 x3, Value.int .i64 x4, Value.int .i64 (IntKind.wrap .i64 ((1 : Int) + x6)), Value.int .i64 (-1 : Int)] 42 fun a4 w5 =>
  appendD Try.prog 30 30 t1.1 (Value.slice (some a4) 1 1) w5 fun (s1 : Sl) w6 =>
  X1 (s1, (IntKind.wrap .i64 (t1.2.1 + (1 : Int))), ()) w6)
  (X1 (t1.1, (IntKind.wrap .i64 (t1.2.1 + (1 : Int))), ()) w3))
  (Q t1.1 w1))
  (Q t1.1 w1)) → X1 t1 w1) →
  X1 (⟨none, 0, 0⟩, (0 : Int), ()) w
def G_law15_arcs (t : KTs [.c (.int .i64), .c .slice]) (w : World) (K : Value → World → Prop) : Prop := F_law15_arcs t.1 t.2.1 w fun (r0 : Sl) w1 => K (Value.slice r0.b r0.l r0.c) w1
abbrev T_law15_arcs : Tr := fun args w K => decK [.c (.int .i64), .c .slice] args fun t => G_law15_arcs t w K
theorem S_law15_arcs : Sound Try.prog 28 T_law15_arcs := sound_of (fn := Try.f28) Try.func28 (by kernel_rfl) mixed (by kernel_rfl) (.s .n (.s .n (.s (.s .n (.b (.l [(5, .c .slice), (6, .c (.int .i64))] [5, 6, 7, 8, 9, 10, 11, 12, 13, 14, 15, 16, 17, 18, 19, 20, 21, 22, 23, 24, 25, 26, 27, 28, 29, 30, 31, 32, 33, 34, 35, 36, 37, 38, 39, 40, 41, 42, 43, 44, 45, 46, 47, 48] (.s .n (.s (.b (.s (.r (.fl 0 (.fl 1 (.fl 2 (.fl 3 (.fl 4 (.fl 5 (.fl 7 (.fl 8 (.fl 9 (.fl 10 (.fl 11 (.fl 12 (.mn 6 (.mn 13 (.fl 14 (.fl 15 .fin)) .no) .no)))))))))))))) .n)) .n))))) .n))) [(17, T_alike_Round)] ⟨⟨by kernel_rfl, S_alike_Round⟩, trivial⟩ [.c (.int .i64), .c .slice] (by kernel_rfl) G_law15_arcs fun t w K => by kernel_rfl

/-- milepost/milepostlaw15.made -/
def F_law15_made (n : Int) (l : Sl) (w : World) (Q : (Option Addr) → (Option Addr) → World → Prop) : Prop :=
  F_law15_arcs n l w fun (s1 : Sl) w1 =>
  F_net_New n s1 w1 fun (p1 : Option Addr) (x1 : Int) w2 =>
  cond (x1 != (0 : Int))
  (Q none none w2)
  (F_law15_arcs n l w2 fun (s2 : Sl) w3 =>
  F_ref4_NewNet n s2 w3 fun (p2 : Option Addr) w4 =>
  Q p1 p2 w4)
def G_law15_made (t : KTs [.c (.int .i64), .c .slice]) (w : World) (K : Value → World → Prop) : Prop := F_law15_made t.1 t.2.1 w fun (r0 : Option Addr) (r1 : Option Addr) w1 => K (Value.tuple #[(Value.pointer r0), (Value.pointer r1)]) w1
abbrev T_law15_made : Tr := fun args w K => decK [.c (.int .i64), .c .slice] args fun t => G_law15_made t w K
theorem S_law15_made : Sound Try.prog 9 T_law15_made := sound_of (fn := Try.f9) Try.func9 (by kernel_rfl) mixed (by kernel_rfl) (.n) [(27, T_net_New), (28, T_law15_arcs), (29, T_ref4_NewNet)] ⟨⟨by kernel_rfl, S_net_New⟩, ⟨by kernel_rfl, S_law15_arcs⟩, ⟨by kernel_rfl, S_ref4_NewNet⟩, trivial⟩ [.c (.int .i64), .c .slice] (by kernel_rfl) G_law15_made fun t w K => by kernel_rfl

/-- milepost/milepostlaw15.awake -/
def F_law15_awake  (w : World) (Q : Bool → World → Prop) : Prop :=
  allocD w #[Value.int .i64 (0 : Int), Value.int .i64 (1 : Int), Value.int .i64 (0 : Int), Value.int .i64 (1 : Int), Value.int .i64 (2 : Int), Value.int .i64 (0 : Int)] 47 fun a1 w1 =>
  F_law15_made (3 : Int) ⟨(some a1), 2, 2⟩ w1 fun (p1 : Option Addr) (_ : Option Addr) w2 =>
  cond (Option.isNone p1)
  (Q false w2)
  (F_rank_Shortcuts p1 (1 : Int) w2 fun (s1 : Sl) w3 =>
  cond (((s1.l : Nat) : Int) == (1 : Int))
  ((0 ≤ (0 : Int) ∧ (0 : Int) < ((s1.l : Nat) : Int)) ∧
  onSome s1.b fun a2 =>
  ldN [.int .i64, .int .i64, .int .i64, .int .i64] w3 (a2.add (Int.toNat (0 : Int) * 4)) fun (t1 : Int × Int × Int × Int × Unit) =>
  cond ((t1.1 == (0 : Int)) && ((t1.2.1 == (2 : Int)) && ((t1.2.2.1 == (2 : Int)) && ((t1.2.2.2.1 == (1 : Int)) && true))))
  (F_rank_Worth p1 (1 : Int) w3 fun (x1 : Int) w4 =>
  cond (x1 == (-1 : Int))
  (F_rank_Worth p1 (0 : Int) w4 fun (x2 : Int) w5 =>
  cond (x2 == (-1 : Int))
  (F_rank_First p1 ⟨none, 0, 0⟩ w5 fun (x3 : Int) w6 =>
  cond (x3 == (0 : Int))
  (allocD w6 #[Value.bool true, Value.bool true, Value.bool true] 4 fun a3 w7 =>
  F_rank_First p1 ⟨(some a3), 3, 3⟩ w7 fun (x4 : Int) w8 =>
  cond (x4 == (-1 : Int))
  (F_rank_First none ⟨none, 0, 0⟩ w8 fun (x5 : Int) w9 =>
  cond (x5 == (-1 : Int))
  (Q true w9)
  (Q false w9))
  (Q false w8))
  (Q false w6))
  (Q false w5))
  (Q false w4))
  (Q false w3))
  (Q false w3))
def G_law15_awake (_ : KTs []) (w : World) (K : Value → World → Prop) : Prop := F_law15_awake  w fun (r0 : Bool) w1 => K (Value.bool r0) w1
abbrev T_law15_awake : Tr := fun args w K => decK [] args fun t => G_law15_awake t w K
theorem S_law15_awake : Sound Try.prog 8 T_law15_awake := sound_of (fn := Try.f8) Try.func8 (by kernel_rfl) mixed (by kernel_rfl) (.n) [(9, T_law15_made), (11, T_rank_Shortcuts), (13, T_rank_Worth), (15, T_rank_First)] ⟨⟨by kernel_rfl, S_law15_made⟩, ⟨by kernel_rfl, S_rank_Shortcuts⟩, ⟨by kernel_rfl, S_rank_Worth⟩, ⟨by kernel_rfl, S_rank_First⟩, trivial⟩ [] (by kernel_rfl) G_law15_awake fun t w K => by kernel_rfl

/-- milepost/milepostlaw15.RankTells -/
def F_law15_RankTells (n : Int) (l : Sl) (gone : Sl) (w : World) (Q : Bool → World → Prop) : Prop :=
  cond (decide (n < (0 : Int)))
  (F_law15_awake  w fun (b1 : Bool) w1 =>
  Q b1 w1)
  (cond (decide (n > (25 : Int)))
  (F_law15_awake  w fun (b2 : Bool) w2 =>
  Q b2 w2)
  (cond (decide (((l.l : Nat) : Int) > (80 : Int)))
  (F_law15_awake  w fun (b3 : Bool) w3 =>
  Q b3 w3)
  (cond (decide (((gone.l : Nat) : Int) > (50 : Int)))
  (F_law15_awake  w fun (b4 : Bool) w4 =>
  Q b4 w4)
  (F_law15_made n l w fun (p1 : Option Addr) (p2 : Option Addr) w5 =>
  cond (Option.isNone p1)
  (Q false w5)
  (∀ X1 : (Int × Unit) → World → Prop, (∀ (t1 : Int × Unit) (w6 : World), (
  cond (decide (t1.1 < n))
  (F_rank_Shortcuts p1 t1.1 w6 fun (s1 : Sl) w7 =>
  F_ref4_Net_Shortcuts p2 t1.1 w7 fun (s2 : Sl) w8 =>
  F_ref4_ArcsSame s1 s2 w8 fun (b5 : Bool) w9 =>
  cond (!b5)
  (Q false w9)
  (F_rank_Worth p1 t1.1 w9 fun (x1 : Int) w10 =>
  F_ref4_Net_Worth p2 t1.1 w10 fun (x2 : Int) w11 =>
  cond (x1 != x2)
  (Q false w11)
  (X1 ((IntKind.wrap .i64 (t1.1 + (1 : Int))), ()) w11)))
  (F_rank_First p1 gone w6 fun (x3 : Int) w12 =>
  F_ref4_Net_First p2 gone w12 fun (x4 : Int) w13 =>
  cond (x3 == x4)
  (F_law15_awake  w13 fun (b6 : Bool) w14 =>
  Q b6 w14)
  (Q false w13))) → X1 t1 w6) →
  X1 ((0 : Int), ()) w5)))))
def G_law15_RankTells (t : KTs [.c (.int .i64), .c .slice, .c .slice]) (w : World) (K : Value → World → Prop) : Prop := F_law15_RankTells t.1 t.2.1 t.2.2.1 w fun (r0 : Bool) w1 => K (Value.bool r0) w1
abbrev T_law15_RankTells : Tr := fun args w K => decK [.c (.int .i64), .c .slice, .c .slice] args fun t => G_law15_RankTells t w K
theorem S_law15_RankTells : Sound Try.prog 3 T_law15_RankTells := sound_of (fn := Try.f3) Try.func3 (by kernel_rfl) mixed (by kernel_rfl) (.s .n (.s .n (.s .n (.s .n (.s (.s .n (.b (.l [(9, .c (.int .i64))] [6, 9, 35, 36, 37, 38, 39, 40, 41, 42, 43, 44, 45, 46, 47, 48, 49, 50, 51, 52, 53, 54, 55, 56] .n))) .n))))) [(8, T_law15_awake), (9, T_law15_made), (10, T_ref4_ArcsSame), (11, T_rank_Shortcuts), (12, T_ref4_Net_Shortcuts), (13, T_rank_Worth), (14, T_ref4_Net_Worth), (15, T_rank_First), (16, T_ref4_Net_First)] ⟨⟨by kernel_rfl, S_law15_awake⟩, ⟨by kernel_rfl, S_law15_made⟩, ⟨by kernel_rfl, S_ref4_ArcsSame⟩, ⟨by kernel_rfl, S_rank_Shortcuts⟩, ⟨by kernel_rfl, S_ref4_Net_Shortcuts⟩, ⟨by kernel_rfl, S_rank_Worth⟩, ⟨by kernel_rfl, S_ref4_Net_Worth⟩, ⟨by kernel_rfl, S_rank_First⟩, ⟨by kernel_rfl, S_ref4_Net_First⟩, trivial⟩ [.c (.int .i64), .c .slice, .c .slice] (by kernel_rfl) G_law15_RankTells fun t w K => by kernel_rfl

/-- milepost/milepostlaw15.RankKeeps -/
def F_law15_RankKeeps (n : Int) (l : Sl) (at_ : Int) (w : World) (Q : Bool → World → Prop) : Prop :=
  cond (decide (n < (1 : Int)))
  (F_law15_awake  w fun (b1 : Bool) w1 =>
  Q b1 w1)
  (cond (decide (n > (20 : Int)))
  (F_law15_awake  w fun (b2 : Bool) w2 =>
  Q b2 w2)
  (cond (decide (((l.l : Nat) : Int) > (80 : Int)))
  (F_law15_awake  w fun (b3 : Bool) w3 =>
  Q b3 w3)
  (F_law15_made n l w fun (p1 : Option Addr) (p2 : Option Addr) w4 =>
  cond (Option.isNone p1)
  (Q false w4)
  (F_alike_Round at_ n w4 fun (x1 : Int) w5 =>
  F_rank_Shortcuts p1 x1 w5 fun (s1 : Sl) w6 =>
  F_ref4_Net_Copy p2 w6 fun (p3 : Option Addr) w7 =>
  F_ref4_Net_Cut p3 x1 w7 fun w8 =>
  ∀ X1 : (Int × Unit) → World → Prop, (∀ (t1 : Int × Unit) (w9 : World), (
  cond (decide (t1.1 < ((s1.l : Nat) : Int)))
  ((0 ≤ t1.1 ∧ t1.1 < ((s1.l : Nat) : Int)) ∧
  onSome s1.b fun a1 =>
  ld1 (.int .i64) w9 ((a1.add (Int.toNat t1.1 * 4)).add 3) fun (x2 : Int) =>
  cond (x2 != x1)
  (Q false w9)
  ((0 ≤ t1.1 ∧ t1.1 < ((s1.l : Nat) : Int)) ∧
  onSome s1.b fun a2 =>
  ld1 (.int .i64) w9 ((a2.add (Int.toNat t1.1 * 4)).add 0) fun (x3 : Int) =>
  cond (x3 == x1)
  (Q false w9)
  ((0 ≤ t1.1 ∧ t1.1 < ((s1.l : Nat) : Int)) ∧
  onSome s1.b fun a3 =>
  ld1 (.int .i64) w9 ((a3.add (Int.toNat t1.1 * 4)).add 1) fun (x4 : Int) =>
  cond (x4 == x1)
  (Q false w9)
  ((0 ≤ t1.1 ∧ t1.1 < ((s1.l : Nat) : Int)) ∧
  onSome s1.b fun a4 =>
  ldN [.int .i64, .int .i64, .int .i64, .int .i64] w9 (a4.add (Int.toNat t1.1 * 4)) fun (t2 : Int × Int × Int × Int × Unit) =>
  F_ref4_Net_Put p3 (t2.1, t2.2.1, t2.2.2.1, t2.2.2.2.1, ()) w9 fun (_ : Bool) w10 =>
  X1 ((IntKind.wrap .i64 (t1.1 + (1 : Int))), ()) w10))))
  (∀ X2 : (Int × Unit) → World → Prop, (∀ (t3 : Int × Unit) (w11 : World), (
  cond (decide (t3.1 < n))
  (F_ref4_Net_All p2 t3.1 w11 fun (s2 : Sl) w12 =>
  F_ref4_Net_All p3 t3.1 w12 fun (s3 : Sl) w13 =>
  ∀ X3 : (Int × Unit) → World → Prop, (∀ (t4 : Int × Unit) (w14 : World), (
  cond (decide (t4.1 < n))
  (cond (t3.1 != x1)
  (cond (t4.1 != x1)
  ((0 ≤ t4.1 ∧ t4.1 < ((s2.l : Nat) : Int)) ∧
  onSome s2.b fun a5 =>
  ld1 (.int .i64) w14.drew (a5.add (Int.toNat t4.1 * 1)) fun (x5 : Int) =>
  (0 ≤ t4.1 ∧ t4.1 < ((s3.l : Nat) : Int)) ∧
  onSome s3.b fun a6 =>
  ld1 (.int .i64) w14.drew (a6.add (Int.toNat t4.1 * 1)) fun (x6 : Int) =>
  cond (x5 != x6)
  (Q false w14.drew)
  (X3 ((IntKind.wrap .i64 (t4.1 + (1 : Int))), ()) w14.drew))
  (X3 ((IntKind.wrap .i64 (t4.1 + (1 : Int))), ()) w14.drew))
  (X3 ((IntKind.wrap .i64 (t4.1 + (1 : Int))), ()) w14.drew))
  (X2 ((IntKind.wrap .i64 (t3.1 + (1 : Int))), ()) w14)) → X3 t4 w14) →
  X3 ((0 : Int), ()) w13)
  (F_rank_Worth p1 x1 w11 fun (x7 : Int) w15 =>
  F_ref4_Net_In p2 x1 w15 fun (s4 : Sl) w16 =>
  F_ref4_Net_Out p2 x1 w16 fun (s5 : Sl) w17 =>
  cond (x7 == (IntKind.wrap .i64 ((IntKind.wrap .i64 (((s1.l : Nat) : Int) - ((s4.l : Nat) : Int))) - ((s5.l : Nat) : Int))))
  (F_law15_awake  w17 fun (b5 : Bool) w18 =>
  Q b5 w18)
  (Q false w17))) → X2 t3 w11) →
  X2 ((0 : Int), ()) w9)) → X1 t1 w9) →
  X1 ((0 : Int), ()) w8))))
def G_law15_RankKeeps (t : KTs [.c (.int .i64), .c .slice, .c (.int .i64)]) (w : World) (K : Value → World → Prop) : Prop := F_law15_RankKeeps t.1 t.2.1 t.2.2.1 w fun (r0 : Bool) w1 => K (Value.bool r0) w1
abbrev T_law15_RankKeeps : Tr := fun args w K => decK [.c (.int .i64), .c .slice, .c (.int .i64)] args fun t => G_law15_RankKeeps t w K
theorem S_law15_RankKeeps : Sound Try.prog 4 T_law15_RankKeeps := sound_of (fn := Try.f4) Try.func4 (by kernel_rfl) mixed (by kernel_rfl) (.s .n (.s .n (.s .n (.s .n (.s .n (.s .n (.s .n (.s .n (.s (.s .n (.b (.l [(12, .c (.int .i64))] [6, 12, 48, 49, 50, 51, 52, 53, 54, 55, 56, 57, 58, 59, 60, 61, 62, 63, 64, 65, 66, 67, 68, 69, 70, 71, 72, 73, 74, 75, 76, 77, 78, 79, 80, 81, 82, 83, 84] .n))) (.s (.s .n (.b (.l [(13, .c (.int .i64))] [6, 13, 14, 15, 16, 85, 86, 87, 88, 89, 90, 91, 92, 93, 94, 95, 96, 97, 98, 99, 100, 101, 102, 103, 104, 105, 106, 107, 108, 109, 110, 111, 112, 113, 114, 115, 116, 117, 118, 119] (.s .n (.s (.b (.s .n (.s .n (.b (.l [(16, .c (.int .i64))] [6, 16, 96, 97, 98, 99, 100, 101, 102, 103, 104, 105, 106, 107, 108, 109, 110, 111, 112, 113, 114, 115, 116, 117, 118, 119] (.s .n (.s (.b (.s (.r (.fl 0 (.fl 1 (.fl 2 (.fl 3 (.fl 4 (.fl 5 (.fl 6 (.fl 7 (.fl 8 (.fl 9 (.fl 10 (.fl 11 (.fl 12 (.fl 13 (.fl 14 (.fl 15 (.fl 16 (.fl 17 (.fl 18 .fin)))))))))))))))))))) .n)) .n))))))) .n))))) .n)))))))))) [(8, T_law15_awake), (9, T_law15_made), (11, T_rank_Shortcuts), (13, T_rank_Worth), (17, T_alike_Round), (18, T_ref4_Net_Copy), (19, T_ref4_Net_Cut), (20, T_ref4_Net_Put), (21, T_ref4_Net_All), (22, T_ref4_Net_In), (23, T_ref4_Net_Out)] ⟨⟨by kernel_rfl, S_law15_awake⟩, ⟨by kernel_rfl, S_law15_made⟩, ⟨by kernel_rfl, S_rank_Shortcuts⟩, ⟨by kernel_rfl, S_rank_Worth⟩, ⟨by kernel_rfl, S_alike_Round⟩, ⟨by kernel_rfl, S_ref4_Net_Copy⟩, ⟨by kernel_rfl, S_ref4_Net_Cut⟩, ⟨by kernel_rfl, S_ref4_Net_Put⟩, ⟨by kernel_rfl, S_ref4_Net_All⟩, ⟨by kernel_rfl, S_ref4_Net_In⟩, ⟨by kernel_rfl, S_ref4_Net_Out⟩, trivial⟩ [.c (.int .i64), .c .slice, .c (.int .i64)] (by kernel_rfl) G_law15_RankKeeps fun t w K => by kernel_rfl

/-- milepost/milepostlaw15.RankFirst -/
def F_law15_RankFirst (n : Int) (l : Sl) (gone : Sl) (w : World) (Q : Bool → World → Prop) : Prop :=
  cond (decide (n < (1 : Int)))
  (F_law15_awake  w fun (b1 : Bool) w1 =>
  Q b1 w1)
  (cond (decide (n > (15 : Int)))
  (F_law15_awake  w fun (b2 : Bool) w2 =>
  Q b2 w2)
  (cond (decide (((l.l : Nat) : Int) > (60 : Int)))
  (F_law15_awake  w fun (b3 : Bool) w3 =>
  Q b3 w3)
  (cond (decide (((gone.l : Nat) : Int) > (40 : Int)))
  (F_law15_awake  w fun (b4 : Bool) w4 =>
  Q b4 w4)
  (F_law15_made n l w fun (p1 : Option Addr) (_ : Option Addr) w5 =>
  cond (Option.isNone p1)
  (Q false w5)
  (F_rank_First p1 gone w5 fun (x1 : Int) w6 =>
  ∀ X1 : (Int × Int × Unit) → World → Prop, (∀ (t1 : Int × Int × Unit) (w7 : World), (
  cond (decide (t1.2.1 < n))
  (∀ J1 : (Unit) → World → Prop, (∀ (t2 : Unit) (w8 : World), (
  cond (decide (x1 < (0 : Int)))
  (Q false w8)
  (cond (decide (x1 ≥ n))
  (Q false w8)
  (F_rank_Worth p1 t1.2.1 w8 fun (x2 : Int) w9 =>
  F_rank_Worth p1 x1 w9 fun (x3 : Int) w10 =>
  cond (decide (x2 < x3))
  (Q false w10)
  (cond (x2 == x3)
  (cond (decide (t1.2.1 < x1))
  (Q false w10)
  (X1 ((IntKind.wrap .i64 (t1.1 + (1 : Int))), (IntKind.wrap .i64 (t1.2.1 + (1 : Int))), ()) w10))
  (X1 ((IntKind.wrap .i64 (t1.1 + (1 : Int))), (IntKind.wrap .i64 (t1.2.1 + (1 : Int))), ()) w10))))) → J1 t2 w8) →
  cond (decide (t1.2.1 < ((gone.l : Nat) : Int)))
  ((0 ≤ t1.2.1 ∧ t1.2.1 < ((gone.l : Nat) : Int)) ∧
  onSome gone.b fun a1 =>
  ld1 .bool w7 (a1.add (Int.toNat t1.2.1 * 1)) fun (b5 : Bool) =>
  cond b5
  (cond (x1 == t1.2.1)
  (Q false w7)
  (X1 (t1.1, (IntKind.wrap .i64 (t1.2.1 + (1 : Int))), ()) w7))
  (J1 (()) w7))
  (J1 (()) w7))
  (cond (decide (t1.1 > (0 : Int)))
  (F_law15_awake  w7 fun (b6 : Bool) w11 =>
  Q b6 w11)
  (cond (x1 == (-1 : Int))
  (F_law15_awake  w7 fun (b7 : Bool) w12 =>
  Q b7 w12)
  (Q false w7)))) → X1 t1 w7) →
  X1 ((0 : Int), (0 : Int), ()) w6)))))
def G_law15_RankFirst (t : KTs [.c (.int .i64), .c .slice, .c .slice]) (w : World) (K : Value → World → Prop) : Prop := F_law15_RankFirst t.1 t.2.1 t.2.2.1 w fun (r0 : Bool) w1 => K (Value.bool r0) w1
abbrev T_law15_RankFirst : Tr := fun args w K => decK [.c (.int .i64), .c .slice, .c .slice] args fun t => G_law15_RankFirst t w K
theorem S_law15_RankFirst : Sound Try.prog 5 T_law15_RankFirst := sound_of (fn := Try.f5) Try.func5 (by kernel_rfl) mixed (by kernel_rfl) (.s .n (.s .n (.s .n (.s .n (.s .n (.s .n (.s (.s .n (.b (.l [(10, .c (.int .i64)), (11, .c (.int .i64))] [6, 10, 11, 12, 13, 42, 43, 44, 45, 46, 47, 48, 49, 50, 51, 52, 53, 54, 55, 56, 57, 58, 59, 60, 61, 62, 63, 64, 65, 66, 67, 68, 69, 70, 71, 72, 73, 74, 75, 76, 77, 78, 79, 80, 81, 82, 83, 84, 85, 86, 87] (.s .n (.s (.b (.j [] [6, 47, 48, 49, 50, 51, 52, 53, 54, 55, 56, 57, 58, 59] .n .n)) .n))))) .n))))))) [(8, T_law15_awake), (9, T_law15_made), (13, T_rank_Worth), (15, T_rank_First)] ⟨⟨by kernel_rfl, S_law15_awake⟩, ⟨by kernel_rfl, S_law15_made⟩, ⟨by kernel_rfl, S_rank_Worth⟩, ⟨by kernel_rfl, S_rank_First⟩, trivial⟩ [.c (.int .i64), .c .slice, .c .slice] (by kernel_rfl) G_law15_RankFirst fun t w K => by kernel_rfl

/-- milepost/milepostlaw15.RankNeeds -/
def F_law15_RankNeeds (n : Int) (l : Sl) (at_ : Int) (w : World) (Q : Bool → World → Prop) : Prop :=
  cond (decide (n < (1 : Int)))
  (F_law15_awake  w fun (b1 : Bool) w1 =>
  Q b1 w1)
  (cond (decide (n > (15 : Int)))
  (F_law15_awake  w fun (b2 : Bool) w2 =>
  Q b2 w2)
  (cond (decide (((l.l : Nat) : Int) > (60 : Int)))
  (F_law15_awake  w fun (b3 : Bool) w3 =>
  Q b3 w3)
  (F_law15_made n l w fun (p1 : Option Addr) (p2 : Option Addr) w4 =>
  cond (Option.isNone p1)
  (Q false w4)
  (F_alike_Round at_ n w4 fun (x1 : Int) w5 =>
  F_rank_Shortcuts p1 x1 w5 fun (s1 : Sl) w6 =>
  F_ref4_Net_In p2 x1 w6 fun (s2 : Sl) w7 =>
  F_ref4_Net_Out p2 x1 w7 fun (s3 : Sl) w8 =>
  F_ref4_Net_Copy p2 w8 fun (p3 : Option Addr) w9 =>
  F_ref4_Net_Cut p3 x1 w9 fun w10 =>
  ∀ X1 : (Int × Int × Unit) → World → Prop, (∀ (t1 : Int × Int × Unit) (w11 : World), (
  cond (decide (t1.2.1 < ((s2.l : Nat) : Int)))
  ((0 ≤ t1.2.1 ∧ t1.2.1 < ((s2.l : Nat) : Int)) ∧
  onSome s2.b fun a1 =>
  ld1 (.int .i64) w11 ((a1.add (Int.toNat t1.2.1 * 4)).add 0) fun (x2 : Int) =>
  F_ref4_Net_All p3 x2 w11 fun (s4 : Sl) w12 =>
  ∀ X2 : (Int × Int × Unit) → World → Prop, (∀ (t2 : Int × Int × Unit) (w13 : World), (
  cond (decide (t2.2.1 < ((s3.l : Nat) : Int)))
  ((0 ≤ t1.2.1 ∧ t1.2.1 < ((s2.l : Nat) : Int)) ∧
  onSome s2.b fun a2 =>
  ld1 (.int .i64) w13.drew ((a2.add (Int.toNat t1.2.1 * 4)).add 0) fun (x3 : Int) =>
  (0 ≤ t2.2.1 ∧ t2.2.1 < ((s3.l : Nat) : Int)) ∧
  onSome s3.b fun a3 =>
  ld1 (.int .i64) w13.drew ((a3.add (Int.toNat t2.2.1 * 4)).add 1) fun (x4 : Int) =>
  (0 ≤ t1.2.1 ∧ t1.2.1 < ((s2.l : Nat) : Int)) ∧
  onSome s2.b fun a4 =>
  ld1 (.int .i64) w13.drew ((a4.add (Int.toNat t1.2.1 * 4)).add 2) fun (x5 : Int) =>
  (0 ≤ t2.2.1 ∧ t2.2.1 < ((s3.l : Nat) : Int)) ∧
  onSome s3.b fun a5 =>
  ld1 (.int .i64) w13.drew ((a5.add (Int.toNat t2.2.1 * 4)).add 2) fun (x6 : Int) =>
  cond (x3 == x4)
  (X2 (t2.1, (IntKind.wrap .i64 (t2.2.1 + (1 : Int))), ()) w13.drew)
  (∀ J1 : (Int × Unit) → World → Prop, (∀ (t3 : Int × Unit) (w14 : World), (
  (0 ≤ x4 ∧ x4 < ((s4.l : Nat) : Int)) ∧
  onSome s4.b fun a6 =>
  ld1 (.int .i64) w14 (a6.add (Int.toNat x4 * 1)) fun (x7 : Int) =>
  cond (decide (x7 < (0 : Int)))
  (Q false w14)
  ((0 ≤ x4 ∧ x4 < ((s4.l : Nat) : Int)) ∧
  onSome s4.b fun a7 =>
  ld1 (.int .i64) w14 (a7.add (Int.toNat x4 * 1)) fun (x8 : Int) =>
  cond (decide (x8 > (IntKind.wrap .i64 (x5 + x6))))
  (Q false w14)
  (X2 (t3.1, (IntKind.wrap .i64 (t2.2.1 + (1 : Int))), ()) w14))) → J1 t3 w14) →
  cond (decide (t2.1 < ((s1.l : Nat) : Int)))
  ((0 ≤ t2.1 ∧ t2.1 < ((s1.l : Nat) : Int)) ∧
  onSome s1.b fun a8 =>
  ldN [.int .i64, .int .i64, .int .i64, .int .i64] w13.drew (a8.add (Int.toNat t2.1 * 4)) fun (t4 : Int × Int × Int × Int × Unit) =>
  cond ((t4.1 == x3) && ((t4.2.1 == x4) && ((t4.2.2.1 == (IntKind.wrap .i64 (x5 + x6))) && ((t4.2.2.2.1 == x1) && true))))
  (X2 ((IntKind.wrap .i64 (t2.1 + (1 : Int))), (IntKind.wrap .i64 (t2.2.1 + (1 : Int))), ()) w13.drew)
  (J1 (t2.1, ()) w13.drew))
  (J1 (t2.1, ()) w13.drew)))
  (X1 (t2.1, (IntKind.wrap .i64 (t1.2.1 + (1 : Int))), ()) w13)) → X2 t2 w13) →
  X2 (t1.1, (0 : Int), ()) w12)
  (cond (t1.1 == ((s1.l : Nat) : Int))
  (F_law15_awake  w11 fun (b4 : Bool) w15 =>
  Q b4 w15)
  (Q false w11))) → X1 t1 w11) →
  X1 ((0 : Int), (0 : Int), ()) w10))))
def G_law15_RankNeeds (t : KTs [.c (.int .i64), .c .slice, .c (.int .i64)]) (w : World) (K : Value → World → Prop) : Prop := F_law15_RankNeeds t.1 t.2.1 t.2.2.1 w fun (r0 : Bool) w1 => K (Value.bool r0) w1
abbrev T_law15_RankNeeds : Tr := fun args w K => decK [.c (.int .i64), .c .slice, .c (.int .i64)] args fun t => G_law15_RankNeeds t w K
theorem S_law15_RankNeeds : Sound Try.prog 6 T_law15_RankNeeds := sound_of (fn := Try.f6) Try.func6 (by kernel_rfl) mixed (by kernel_rfl) (.s .n (.s .n (.s .n (.s .n (.s .n (.s .n (.s .n (.s .n (.s .n (.s .n (.s (.s .n (.b (.l [(14, .c (.int .i64)), (15, .c (.int .i64))] [6, 14, 15, 16, 17, 18, 19, 20, 58, 59, 60, 61, 62, 63, 64, 65, 66, 67, 68, 69, 70, 71, 72, 73, 74, 75, 76, 77, 78, 79, 80, 81, 82, 83, 84, 85, 86, 87, 88, 89, 90, 91, 92, 93, 94, 95, 96, 97, 98, 99, 100, 101, 102, 103, 104, 105, 106, 107, 108, 109, 110, 111, 112, 113, 114, 115, 116, 117, 118, 119, 120, 121, 122, 123, 124, 125, 126, 127, 128, 129, 130, 131] (.s .n (.s (.b (.s .n (.s .n (.b (.l [(14, .c (.int .i64)), (17, .c (.int .i64))] [6, 14, 17, 18, 19, 20, 71, 72, 73, 74, 75, 76, 77, 78, 79, 80, 81, 82, 83, 84, 85, 86, 87, 88, 89, 90, 91, 92, 93, 94, 95, 96, 97, 98, 99, 100, 101, 102, 103, 104, 105, 106, 107, 108, 109, 110, 111, 112, 113, 114, 115, 116, 117, 118, 119, 120, 121, 122, 123, 124, 125, 126, 127, 128, 129, 130, 131] (.s .n (.s (.b (.s (.r (.fl 0 (.fl 1 (.fl 2 (.fl 3 (.fl 4 (.fl 5 (.fl 6 (.fl 7 (.fl 8 (.fl 9 (.fl 10 (.fl 11 (.fl 12 (.fl 13 (.fl 14 (.fl 15 (.fl 16 (.fl 17 (.fl 18 (.fl 19 (.fl 20 (.fl 21 (.fl 22 (.fl 23 .fin))))))))))))))))))))))))) (.s .n (.j [(14, .c (.int .i64))] [14, 101, 102, 103, 104, 105, 106, 107, 108, 109, 110, 111, 112, 113, 114, 115, 116, 117, 118] .n .n)))) .n))))))) .n))))) .n))))))))))) [(8, T_law15_awake), (9, T_law15_made), (11, T_rank_Shortcuts), (17, T_alike_Round), (18, T_ref4_Net_Copy), (19, T_ref4_Net_Cut), (21, T_ref4_Net_All), (22, T_ref4_Net_In), (23, T_ref4_Net_Out)] ⟨⟨by kernel_rfl, S_law15_awake⟩, ⟨by kernel_rfl, S_law15_made⟩, ⟨by kernel_rfl, S_rank_Shortcuts⟩, ⟨by kernel_rfl, S_alike_Round⟩, ⟨by kernel_rfl, S_ref4_Net_Copy⟩, ⟨by kernel_rfl, S_ref4_Net_Cut⟩, ⟨by kernel_rfl, S_ref4_Net_All⟩, ⟨by kernel_rfl, S_ref4_Net_In⟩, ⟨by kernel_rfl, S_ref4_Net_Out⟩, trivial⟩ [.c (.int .i64), .c .slice, .c (.int .i64)] (by kernel_rfl) G_law15_RankNeeds fun t w K => by kernel_rfl

/-- milepost/milepostlaw15.RankLone -/
def F_law15_RankLone (n : Int) (l : Sl) (at_ : Int) (w : World) (Q : Bool → World → Prop) : Prop :=
  cond (decide (n < (1 : Int)))
  (F_law15_awake  w fun (b1 : Bool) w1 =>
  Q b1 w1)
  (cond (decide (n > (20 : Int)))
  (F_law15_awake  w fun (b2 : Bool) w2 =>
  Q b2 w2)
  (cond (decide (((l.l : Nat) : Int) > (80 : Int)))
  (F_law15_awake  w fun (b3 : Bool) w3 =>
  Q b3 w3)
  (F_law15_made n l w fun (p1 : Option Addr) (_ : Option Addr) w4 =>
  cond (Option.isNone p1)
  (Q false w4)
  (F_alike_Round at_ n w4 fun (x1 : Int) w5 =>
  F_net_Net_In p1 x1 w5 fun (s1 : Sl) w6 =>
  F_net_Net_Out p1 x1 w6 fun (s2 : Sl) w7 =>
  F_rank_Shortcuts p1 x1 w7 fun (s3 : Sl) w8 =>
  cond (decide (((s3.l : Nat) : Int) > (IntKind.wrap .i64 (((s1.l : Nat) : Int) * ((s2.l : Nat) : Int)))))
  (Q false w8)
  (cond (((s1.l : Nat) : Int) == (0 : Int))
  (cond (((s3.l : Nat) : Int) == (0 : Int))
  (F_rank_Worth p1 x1 w8 fun (x2 : Int) w9 =>
  cond (x2 == (IntKind.wrap .i64 ((IntKind.wrap .i64 (0 - ((s1.l : Nat) : Int))) - ((s2.l : Nat) : Int))))
  (F_law15_awake  w9 fun (b4 : Bool) w10 =>
  Q b4 w10)
  (Q false w9))
  (Q false w8))
  (cond (((s2.l : Nat) : Int) == (0 : Int))
  (cond (((s3.l : Nat) : Int) == (0 : Int))
  (F_rank_Worth p1 x1 w8 fun (x3 : Int) w11 =>
  cond (x3 == (IntKind.wrap .i64 ((IntKind.wrap .i64 (0 - ((s1.l : Nat) : Int))) - ((s2.l : Nat) : Int))))
  (F_law15_awake  w11 fun (b5 : Bool) w12 =>
  Q b5 w12)
  (Q false w11))
  (Q false w8))
  (F_net_Net_Cut p1 x1 w8 fun w13 =>
  F_rank_Shortcuts p1 x1 w13 fun (s4 : Sl) w14 =>
  cond (((s4.l : Nat) : Int) == (0 : Int))
  (F_rank_Worth p1 x1 w14 fun (x4 : Int) w15 =>
  cond (x4 == (0 : Int))
  (F_law15_awake  w15 fun (b6 : Bool) w16 =>
  Q b6 w16)
  (Q false w15))
  (Q false w14))))))))
def G_law15_RankLone (t : KTs [.c (.int .i64), .c .slice, .c (.int .i64)]) (w : World) (K : Value → World → Prop) : Prop := F_law15_RankLone t.1 t.2.1 t.2.2.1 w fun (r0 : Bool) w1 => K (Value.bool r0) w1
abbrev T_law15_RankLone : Tr := fun args w K => decK [.c (.int .i64), .c .slice, .c (.int .i64)] args fun t => G_law15_RankLone t w K
theorem S_law15_RankLone : Sound Try.prog 7 T_law15_RankLone := sound_of (fn := Try.f7) Try.func7 (by kernel_rfl) mixed (by kernel_rfl) (.n) [(8, T_law15_awake), (9, T_law15_made), (11, T_rank_Shortcuts), (13, T_rank_Worth), (17, T_alike_Round), (24, T_net_Net_In), (25, T_net_Net_Out), (26, T_net_Net_Cut)] ⟨⟨by kernel_rfl, S_law15_awake⟩, ⟨by kernel_rfl, S_law15_made⟩, ⟨by kernel_rfl, S_rank_Shortcuts⟩, ⟨by kernel_rfl, S_rank_Worth⟩, ⟨by kernel_rfl, S_alike_Round⟩, ⟨by kernel_rfl, S_net_Net_In⟩, ⟨by kernel_rfl, S_net_Net_Out⟩, ⟨by kernel_rfl, S_net_Net_Cut⟩, trivial⟩ [.c (.int .i64), .c .slice, .c (.int .i64)] (by kernel_rfl) G_law15_RankLone fun t w K => by kernel_rfl

end Go.Proofs.Ytadacfoiphklgaa
