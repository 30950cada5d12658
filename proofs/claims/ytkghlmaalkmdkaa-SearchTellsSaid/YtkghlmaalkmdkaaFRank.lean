import Derived.Test.YtkghlmaalkmdkaaA1
import Derived.Test.YtkghlmaalkmdkaaFBase
import Derived.Test.YtkghlmaalkmdkaaFNet
import Derived.Test.YtkghlmaalkmdkaaFWit
namespace Go.Proofs.Ytkghlmaalkmdkaa
open Go Go.Den
set_option maxRecDepth 100000
/-- milepost/rank.Shortcuts -/
def F_rank_Shortcuts (t : Option Addr) (v : Int) (w : World) (Q : Sl → World → Prop) : Prop :=
  F_net_Net_Out t v w fun (s1 : Sl) w1 =>
  F_net_Net_In t v w1 fun (s2 : Sl) w2 =>
  ∀ X1 : (Sl × Int × Unit) → World → Prop, (∀ (t1 : Sl × Int × Unit) (w3 : World), (
  cond (decide (t1.2.1 < ((s2.l : Nat) : Int)))
  ((0 ≤ t1.2.1 ∧ t1.2.1 < ((s2.l : Nat) : Int)) ∧
  onSome s2.b fun a1 =>
  ldN [.int .i64, .int .i64, .int .i64, .int .i64] w3 (a1.add (Int.toNat t1.2.1 * 4)) fun (t2 : Int × Int × Int × Int × Unit) =>
  allocD w3 #[Value.int .i64 (0 : Int), Value.int .i64 (0 : Int), Value.int .i64 (0 : Int), Value.int .i64 (0 : Int)] 38 fun a2 w4 =>
  storeD Try.prog 38 a2 (Value.agg #[(Value.int .i64 t2.1), (Value.int .i64 t2.2.1), (Value.int .i64 t2.2.2.1), (Value.int .i64 t2.2.2.2.1)]) w4 fun w5 =>
  ∀ X2 : (Sl × Int × Unit) → World → Prop, (∀ (t3 : Sl × Int × Unit) (w6 : World), (
  cond (decide (t3.2.1 < ((s1.l : Nat) : Int)))
  ((0 ≤ t3.2.1 ∧ t3.2.1 < ((s1.l : Nat) : Int)) ∧
  onSome s1.b fun a3 =>
  ldN [.int .i64, .int .i64, .int .i64, .int .i64] w6 (a3.add (Int.toNat t3.2.1 * 4)) fun (t4 : Int × Int × Int × Int × Unit) =>
  allocD w6 #[Value.int .i64 (0 : Int), Value.int .i64 (0 : Int), Value.int .i64 (0 : Int), Value.int .i64 (0 : Int)] 38 fun a4 w7 =>
  storeD Try.prog 38 a4 (Value.agg #[(Value.int .i64 t4.1), (Value.int .i64 t4.2.1), (Value.int .i64 t4.2.2.1), (Value.int .i64 t4.2.2.2.1)]) w7 fun w8 =>
  ld1 (.int .i64) w8 (a2.add 0) fun (x1 : Int) =>
  ld1 (.int .i64) w8 (a4.add 1) fun (x2 : Int) =>
  cond (x1 == x2)
  (X2 (t3.1, (IntKind.wrap .i64 (t3.2.1 + (1 : Int))), ()) w8)
  (ld1 (.int .i64) w8 (a2.add 0) fun (x3 : Int) =>
  ld1 (.int .i64) w8 (a4.add 1) fun (x4 : Int) =>
  ld1 (.int .i64) w8 (a2.add 2) fun (x5 : Int) =>
  ld1 (.int .i64) w8 (a4.add 2) fun (x6 : Int) =>
  F_witness_Find t x3 x4 v (IntKind.wrap .i64 (x5 + x6)) (30 : Int) w8 fun (b1 : Bool) w9 =>
  cond b1
  (X2 (t3.1, (IntKind.wrap .i64 (t3.2.1 + (1 : Int))), ()) w9)
  (ld1 (.int .i64) w9 (a2.add 0) fun (x7 : Int) =>
  ld1 (.int .i64) w9 (a4.add 1) fun (x8 : Int) =>
  ld1 (.int .i64) w9 (a2.add 2) fun (x9 : Int) =>
  ld1 (.int .i64) w9 (a4.add 2) fun (x10 : Int) =>
  allocD w9 #[Value.int .i64 x7, Value.int .i64 x8, Value.int .i64 (IntKind.wrap .i64 (x9 + x10)), Value.int .i64 v] 38 fun a5 w10 =>
  appendD Try.prog 39 39 t3.1 (Value.slice (some a5) 1 1) w10 fun (s3 : Sl) w11 =>
  X2 (s3, (IntKind.wrap .i64 (t3.2.1 + (1 : Int))), ()) w11)))
  (X1 (t3.1, (IntKind.wrap .i64 (t1.2.1 + (1 : Int))), ()) w6)) → X2 t3 w6) →
  X2 (t1.1, (0 : Int), ()) w5)
  (Q t1.1 w3)) → X1 t1 w3) →
  X1 (⟨none, 0, 0⟩, (0 : Int), ()) w2
def G_rank_Shortcuts (t : KTs [.c .ptr, .c (.int .i64)]) (w : World) (K : Value → World → Prop) : Prop := F_rank_Shortcuts t.1 t.2.1 w fun (r0 : Sl) w1 => K (Value.slice r0.b r0.l r0.c) w1
abbrev T_rank_Shortcuts : Tr := fun args w K => decK [.c .ptr, .c (.int .i64)] args fun t => G_rank_Shortcuts t w K
theorem S_rank_Shortcuts : Sound Try.prog 37 T_rank_Shortcuts := sound_of (fn := Try.f37) Try.func37 (by kernel_rfl) mixed (by kernel_rfl) (.s .n (.s .n (.s (.s .n (.b (.l [(4, .c .slice), (17, .c (.int .i64))] [4, 7, 9, 17, 18, 19, 20, 21, 22, 23, 24, 25, 26, 27, 28, 29, 30, 31, 32, 33, 34, 35, 36, 37, 38, 39, 40, 41, 42, 43, 44, 45, 46, 47, 48, 49, 50, 51, 52, 53, 54, 55, 56, 57, 58, 59, 60, 61] (.s .n (.s .n (.s (.b (.s .n (.s .n (.b (.l [(4, .c .slice), (23, .c (.int .i64))] [4, 9, 23, 24, 25, 26, 27, 28, 29, 30, 31, 32, 33, 34, 35, 36, 37, 38, 39, 40, 41, 42, 43, 44, 45, 46, 47, 48, 49, 50, 51, 52, 53, 54, 55, 56, 57, 58, 59, 60] .n))))) .n)))))) .n))) [(58, T_net_Net_Out), (59, T_net_Net_In), (60, T_witness_Find)] ⟨⟨by kernel_rfl, S_net_Net_Out⟩, ⟨by kernel_rfl, S_net_Net_In⟩, ⟨by kernel_rfl, S_witness_Find⟩, trivial⟩ [.c .ptr, .c (.int .i64)] (by kernel_rfl) G_rank_Shortcuts fun t w K => by kernel_rfl

/-- milepost/rank.Worth -/
def F_rank_Worth (t : Option Addr) (v : Int) (w : World) (Q : Int → World → Prop) : Prop :=
  F_rank_Shortcuts t v w fun (s1 : Sl) w1 =>
  F_net_Net_In t v w1 fun (s2 : Sl) w2 =>
  F_net_Net_Out t v w2 fun (s3 : Sl) w3 =>
  Q (IntKind.wrap .i64 ((IntKind.wrap .i64 (((s1.l : Nat) : Int) - ((s2.l : Nat) : Int))) - ((s3.l : Nat) : Int))) w3
def G_rank_Worth (t : KTs [.c .ptr, .c (.int .i64)]) (w : World) (K : Value → World → Prop) : Prop := F_rank_Worth t.1 t.2.1 w fun (r0 : Int) w1 => K (Value.int .i64 r0) w1
abbrev T_rank_Worth : Tr := fun args w K => decK [.c .ptr, .c (.int .i64)] args fun t => G_rank_Worth t w K
theorem S_rank_Worth : Sound Try.prog 57 T_rank_Worth := sound_of (fn := Try.f57) Try.func57 (by kernel_rfl) mixed (by kernel_rfl) (.n) [(37, T_rank_Shortcuts), (58, T_net_Net_Out), (59, T_net_Net_In)] ⟨⟨by kernel_rfl, S_rank_Shortcuts⟩, ⟨by kernel_rfl, S_net_Net_Out⟩, ⟨by kernel_rfl, S_net_Net_In⟩, trivial⟩ [.c .ptr, .c (.int .i64)] (by kernel_rfl) G_rank_Worth fun t w K => by kernel_rfl

/-- milepost/rank.First -/
def F_rank_First (t : Option Addr) (gone : Sl) (w : World) (Q : Int → World → Prop) : Prop :=
  F_net_Net_Len t w fun (x1 : Int) w1 =>
  ∀ X1 : (Int × Int × Int × Unit) → World → Prop, (∀ (t1 : Int × Int × Int × Unit) (w2 : World), (
  cond (decide (t1.2.2.1 < x1))
  (∀ J1 : (Unit) → World → Prop, (∀ (t2 : Unit) (w3 : World), (
  F_rank_Worth t t1.2.2.1 w3 fun (x2 : Int) w4 =>
  cond (decide (t1.1 < (0 : Int)))
  (X1 (t1.2.2.1, x2, (IntKind.wrap .i64 (t1.2.2.1 + (1 : Int))), ()) w4)
  (cond (decide (x2 < t1.2.1))
  (X1 (t1.2.2.1, x2, (IntKind.wrap .i64 (t1.2.2.1 + (1 : Int))), ()) w4)
  (X1 (t1.1, t1.2.1, (IntKind.wrap .i64 (t1.2.2.1 + (1 : Int))), ()) w4))) → J1 t2 w3) →
  cond (decide (t1.2.2.1 < ((gone.l : Nat) : Int)))
  ((0 ≤ t1.2.2.1 ∧ t1.2.2.1 < ((gone.l : Nat) : Int)) ∧
  onSome gone.b fun a1 =>
  ld1 .bool w2 (a1.add (Int.toNat t1.2.2.1 * 1)) fun (b1 : Bool) =>
  cond b1
  (X1 (t1.1, t1.2.1, (IntKind.wrap .i64 (t1.2.2.1 + (1 : Int))), ()) w2)
  (J1 (()) w2))
  (J1 (()) w2))
  (Q t1.1 w2)) → X1 t1 w2) →
  X1 ((-1 : Int), (0 : Int), (0 : Int), ()) w1
def G_rank_First (t : KTs [.c .ptr, .c .slice]) (w : World) (K : Value → World → Prop) : Prop := F_rank_First t.1 t.2.1 w fun (r0 : Int) w1 => K (Value.int .i64 r0) w1
abbrev T_rank_First : Tr := fun args w K => decK [.c .ptr, .c .slice] args fun t => G_rank_First t w K
theorem S_rank_First : Sound Try.prog 36 T_rank_First := sound_of (fn := Try.f36) Try.func36 (by kernel_rfl) mixed (by kernel_rfl) (.s .n (.s .n (.s (.s .n (.b (.l [(5, .c (.int .i64)), (6, .c (.int .i64)), (11, .c (.int .i64))] [5, 6, 7, 8, 11, 12, 13, 14, 15, 16, 17, 18, 19, 20, 21, 22, 23, 24, 25, 26, 27, 28, 29, 30, 31, 32, 33, 34, 35, 36] (.s .n (.s .n (.s (.b (.s .n (.j [] [14, 15, 16, 17, 18, 19, 20, 21, 22, 23] .n .n))) .n)))))) .n))) [(35, T_net_Net_Len), (57, T_rank_Worth)] ⟨⟨by kernel_rfl, S_net_Net_Len⟩, ⟨by kernel_rfl, S_rank_Worth⟩, trivial⟩ [.c .ptr, .c .slice] (by kernel_rfl) G_rank_First fun t w K => by kernel_rfl

/-- (*milepost/milepostref4.Net).Shortcuts -/
def F_ref4_Net_Shortcuts (t : Option Addr) (v : Int) (w : World) (Q : Sl → World → Prop) : Prop :=
  F_ref4_Net_In t v w fun (s1 : Sl) w1 =>
  F_ref4_Net_Out t v w1 fun (s2 : Sl) w2 =>
  ∀ X1 : (Sl × Int × Unit) → World → Prop, (∀ (t1 : Sl × Int × Unit) (w3 : World), (
  cond (decide (t1.2.1 < ((s1.l : Nat) : Int)))
  (∀ X2 : (Sl × Int × Unit) → World → Prop, (∀ (t2 : Sl × Int × Unit) (w4 : World), (
  cond (decide (t2.2.1 < ((s2.l : Nat) : Int)))
  ((0 ≤ t1.2.1 ∧ t1.2.1 < ((s1.l : Nat) : Int)) ∧
  onSome s1.b fun a1 =>
  ld1 (.int .i64) w4.drew ((a1.add (Int.toNat t1.2.1 * 4)).add 0) fun (x1 : Int) =>
  (0 ≤ t2.2.1 ∧ t2.2.1 < ((s2.l : Nat) : Int)) ∧
  onSome s2.b fun a2 =>
  ld1 (.int .i64) w4.drew ((a2.add (Int.toNat t2.2.1 * 4)).add 1) fun (x2 : Int) =>
  (0 ≤ t1.2.1 ∧ t1.2.1 < ((s1.l : Nat) : Int)) ∧
  onSome s1.b fun a3 =>
  ld1 (.int .i64) w4.drew ((a3.add (Int.toNat t1.2.1 * 4)).add 2) fun (x3 : Int) =>
  (0 ≤ t2.2.1 ∧ t2.2.1 < ((s2.l : Nat) : Int)) ∧
  onSome s2.b fun a4 =>
  ld1 (.int .i64) w4.drew ((a4.add (Int.toNat t2.2.1 * 4)).add 2) fun (x4 : Int) =>
  allocD w4.drew #[Value.int .i64 (0 : Int), Value.int .i64 (0 : Int), Value.int .i64 (0 : Int), Value.int .i64 (0 : Int)] 38 fun a5 w5 =>
  w5.cell? ((a4.add (Int.toNat t2.2.1 * 4)).add 2) = some (Value.int .i64 x4) ∧
  w5.cell? ((a3.add (Int.toNat t1.2.1 * 4)).add 2) = some (Value.int .i64 x3) ∧
  w5.cell? ((a2.add (Int.toNat t2.2.1 * 4)).add 1) = some (Value.int .i64 x2) ∧
  w5.cell? ((a1.add (Int.toNat t1.2.1 * 4)).add 0) = some (Value.int .i64 x1) ∧
  storeD Try.prog 38 a5 (Value.agg #[(Value.int .i64 x1), (Value.int .i64 x2), (Value.int .i64 (IntKind.wrap .i64 (x3 + x4))), (Value.int .i64 v)]) w5 fun w6 =>
  ld1 (.int .i64) w6 (a5.add 0) fun (x5 : Int) =>
  ld1 (.int .i64) w6 (a5.add 1) fun (x6 : Int) =>
  cond (x5 != x6)
  (ld1 (.int .i64) w6 (a5.add 0) fun (x7 : Int) =>
  ld1 (.int .i64) w6 (a5.add 1) fun (x8 : Int) =>
  ld1 (.int .i64) w6 (a5.add 2) fun (x9 : Int) =>
  F_ref4_Net_Witness t x7 x8 v x9 (30 : Int) w6 fun (b1 : Bool) w7 =>
  cond (!b1)
  (ldN [.int .i64, .int .i64, .int .i64, .int .i64] w7 a5 fun (t3 : Int × Int × Int × Int × Unit) =>
  allocD w7 #[Value.int .i64 t3.1, Value.int .i64 t3.2.1, Value.int .i64 t3.2.2.1, Value.int .i64 t3.2.2.2.1] 38 fun a6 w8 =>
  appendD Try.prog 39 39 t2.1 (Value.slice (some a6) 1 1) w8 fun (s3 : Sl) w9 =>
  X2 (s3, (IntKind.wrap .i64 (t2.2.1 + (1 : Int))), ()) w9)
  (X2 (t2.1, (IntKind.wrap .i64 (t2.2.1 + (1 : Int))), ()) w7))
  (X2 (t2.1, (IntKind.wrap .i64 (t2.2.1 + (1 : Int))), ()) w6))
  (X1 (t2.1, (IntKind.wrap .i64 (t1.2.1 + (1 : Int))), ()) w4)) → X2 t2 w4) →
  X2 (t1.1, (0 : Int), ()) w3)
  (Q t1.1 w3)) → X1 t1 w3) →
  X1 (⟨none, 0, 0⟩, (0 : Int), ()) w2
def G_ref4_Net_Shortcuts (t : KTs [.c .ptr, .c (.int .i64)]) (w : World) (K : Value → World → Prop) : Prop := F_ref4_Net_Shortcuts t.1 t.2.1 w fun (r0 : Sl) w1 => K (Value.slice r0.b r0.l r0.c) w1
abbrev T_ref4_Net_Shortcuts : Tr := fun args w K => decK [.c .ptr, .c (.int .i64)] args fun t => G_ref4_Net_Shortcuts t w K
theorem S_ref4_Net_Shortcuts : Sound Try.prog 42 T_ref4_Net_Shortcuts := sound_of (fn := Try.f42) Try.func42 (by kernel_rfl) mixed (by kernel_rfl) (.s .n (.s .n (.s .n (.s (.s .n (.b (.l [(5, .c .slice), (8, .c (.int .i64))] [5, 8, 9, 10, 17, 18, 19, 20, 21, 22, 23, 24, 25, 26, 27, 28, 29, 30, 31, 32, 33, 34, 35, 36, 37, 38, 39, 40, 41, 42, 43, 44, 45, 46, 47, 48, 49, 50, 51, 52, 53, 54, 55, 56, 57, 58, 59, 60, 61, 62, 63, 64, 65, 66, 67, 68, 69, 70, 71, 72] (.s .n (.s (.b (.s .n (.b (.l [(5, .c .slice), (9, .c (.int .i64))] [5, 9, 10, 23, 24, 25, 26, 27, 28, 29, 30, 31, 32, 33, 34, 35, 36, 37, 38, 39, 40, 41, 42, 43, 44, 45, 46, 47, 48, 49, 50, 51, 52, 53, 54, 55, 56, 57, 58, 59, 60, 61, 62, 63, 64, 65, 66, 67, 68, 69, 70, 71, 72] (.s .n (.s (.b (.s (.r (.fl 0 (.fl 1 (.fl 2 (.fl 3 (.fl 4 (.fl 5 (.fl 6 (.fl 7 (.fl 8 (.fl 9 (.fl 10 (.fl 11 (.fl 12 (.fl 13 (.fl 14 (.fl 15 (.fl 16 (.fl 17 (.fl 18 (.fl 19 (.fl 20 (.fl 21 (.fl 22 (.mn 23 (.mn 24 .fin .no) .no))))))))))))))))))))))))) .n)) .n)))))) .n))))) .n)))) [(67, T_ref4_Net_In), (68, T_ref4_Net_Out), (69, T_ref4_Net_Witness)] ⟨⟨by kernel_rfl, S_ref4_Net_In⟩, ⟨by kernel_rfl, S_ref4_Net_Out⟩, ⟨by kernel_rfl, S_ref4_Net_Witness⟩, trivial⟩ [.c .ptr, .c (.int .i64)] (by kernel_rfl) G_ref4_Net_Shortcuts fun t w K => by kernel_rfl

/-- (*milepost/milepostref4.Net).Worth -/
def F_ref4_Net_Worth (t : Option Addr) (v : Int) (w : World) (Q : Int → World → Prop) : Prop :=
  F_ref4_Net_Shortcuts t v w fun (s1 : Sl) w1 =>
  F_ref4_Net_In t v w1 fun (s2 : Sl) w2 =>
  F_ref4_Net_Out t v w2 fun (s3 : Sl) w3 =>
  Q (IntKind.wrap .i64 ((IntKind.wrap .i64 (((s1.l : Nat) : Int) - ((s2.l : Nat) : Int))) - ((s3.l : Nat) : Int))) w3
def G_ref4_Net_Worth (t : KTs [.c .ptr, .c (.int .i64)]) (w : World) (K : Value → World → Prop) : Prop := F_ref4_Net_Worth t.1 t.2.1 w fun (r0 : Int) w1 => K (Value.int .i64 r0) w1
abbrev T_ref4_Net_Worth : Tr := fun args w K => decK [.c .ptr, .c (.int .i64)] args fun t => G_ref4_Net_Worth t w K
theorem S_ref4_Net_Worth : Sound Try.prog 66 T_ref4_Net_Worth := sound_of (fn := Try.f66) Try.func66 (by kernel_rfl) mixed (by kernel_rfl) (.n) [(42, T_ref4_Net_Shortcuts), (67, T_ref4_Net_In), (68, T_ref4_Net_Out)] ⟨⟨by kernel_rfl, S_ref4_Net_Shortcuts⟩, ⟨by kernel_rfl, S_ref4_Net_In⟩, ⟨by kernel_rfl, S_ref4_Net_Out⟩, trivial⟩ [.c .ptr, .c (.int .i64)] (by kernel_rfl) G_ref4_Net_Worth fun t w K => by kernel_rfl

/-- (*milepost/milepostref4.Net).First -/
def F_ref4_Net_First (t : Option Addr) (gone : Sl) (w : World) (Q : Int → World → Prop) : Prop :=
  ∀ X1 : (Int × Int × Int × Unit) → World → Prop, (∀ (t1 : Int × Int × Int × Unit) (w1 : World), (
  onSome t fun a1 =>
  ld1 (.int .i64) w1 (a1.add 0) fun (x1 : Int) =>
  cond (decide (t1.2.2.1 < x1))
  (∀ J1 : (Unit) → World → Prop, (∀ (t2 : Unit) (w2 : World), (
  F_ref4_Net_Worth t t1.2.2.1 w2 fun (x2 : Int) w3 =>
  cond (decide (t1.2.1 < (0 : Int)))
  (X1 (x2, t1.2.2.1, (IntKind.wrap .i64 (t1.2.2.1 + (1 : Int))), ()) w3)
  (cond (decide (x2 < t1.1))
  (X1 (x2, t1.2.2.1, (IntKind.wrap .i64 (t1.2.2.1 + (1 : Int))), ()) w3)
  (X1 (t1.1, t1.2.1, (IntKind.wrap .i64 (t1.2.2.1 + (1 : Int))), ()) w3))) → J1 t2 w2) →
  cond (decide (t1.2.2.1 < ((gone.l : Nat) : Int)))
  ((0 ≤ t1.2.2.1 ∧ t1.2.2.1 < ((gone.l : Nat) : Int)) ∧
  onSome gone.b fun a2 =>
  ld1 .bool w1 (a2.add (Int.toNat t1.2.2.1 * 1)) fun (b1 : Bool) =>
  cond b1
  (X1 (t1.1, t1.2.1, (IntKind.wrap .i64 (t1.2.2.1 + (1 : Int))), ()) w1)
  (J1 (()) w1))
  (J1 (()) w1))
  (Q t1.2.1 w1)) → X1 t1 w1) →
  X1 ((0 : Int), (-1 : Int), (0 : Int), ()) w
def G_ref4_Net_First (t : KTs [.c .ptr, .c .slice]) (w : World) (K : Value → World → Prop) : Prop := F_ref4_Net_First t.1 t.2.1 w fun (r0 : Int) w1 => K (Value.int .i64 r0) w1
abbrev T_ref4_Net_First : Tr := fun args w K => decK [.c .ptr, .c .slice] args fun t => G_ref4_Net_First t w K
theorem S_ref4_Net_First : Sound Try.prog 41 T_ref4_Net_First := sound_of (fn := Try.f41) Try.func41 (by kernel_rfl) mixed (by kernel_rfl) (.s .n (.s .n (.s (.s .n (.b (.l [(5, .c (.int .i64)), (6, .c (.int .i64)), (7, .c (.int .i64))] [5, 6, 7, 8, 9, 10, 11, 12, 13, 14, 15, 16, 17, 18, 19, 20, 21, 22, 23, 24, 25, 26, 27, 28, 29, 30, 31, 32, 33, 34, 35, 36, 37, 38] (.s .n (.s (.b (.j [] [17, 18, 19, 20, 21, 22, 23, 24, 25, 26] .n .n)) .n))))) .n))) [(66, T_ref4_Net_Worth)] ⟨⟨by kernel_rfl, S_ref4_Net_Worth⟩, trivial⟩ [.c .ptr, .c .slice] (by kernel_rfl) G_ref4_Net_First fun t w K => by kernel_rfl

end Go.Proofs.Ytkghlmaalkmdkaa
