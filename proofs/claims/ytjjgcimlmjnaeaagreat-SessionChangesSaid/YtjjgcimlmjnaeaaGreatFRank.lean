import Derived.Test.YtjjgcimlmjnaeaaGreatA1
import Derived.Test.YtjjgcimlmjnaeaaGreatFBase
import Derived.Test.YtjjgcimlmjnaeaaGreatFNet
import Derived.Test.YtjjgcimlmjnaeaaGreatFWit
namespace Go.Proofs.YtjjgcimlmjnaeaaGreat
open Go Go.Den
set_option maxRecDepth 100000
/-- milepost/rank.Shortcuts -/
def F_rank_Shortcuts (t : Option Addr) (v : Int) (w : World) (Q : Sl → World → Prop) : Prop :=
  F_net_Net_Out t v w fun (s1 : Sl) w1 =>
  F_net_Net_In t v w1 fun (s2 : Sl) w2 =>
  ∀ X1 : (Sl × Int × Unit) → World → Prop, (∀ (t1 : Sl × Int × Unit) (w3 : World), (
  cond (decide (t1.2.1 < ((s2.l : Nat) : Int)))
  ((0 ≤ t1.2.1 ∧ t1.2.1 < ((s2.l : Nat) : Int)) ∧
  onSome s2.b fun a1 =>
  ldN [.int .i64, .int .i64, .int .i64, .int .i64] w3 (a1.add (Int.toNat t1.2.1 * 4)) fun (t2 : Int × Int × Int × Int × Unit) =>
  allocD w3 #[Value.int .i64 (0 : Int), Value.int .i64 (0 : Int), Value.int .i64 (0 : Int), Value.int .i64 (0 : Int)] 91 fun a2 w4 =>
  storeD Tryz.prog 91 a2 (Value.agg #[(Value.int .i64 t2.1), (Value.int .i64 t2.2.1), (Value.int .i64 t2.2.2.1), (Value.int .i64 t2.2.2.2.1)]) w4 fun w5 =>
  ∀ X2 : (Sl × Int × Unit) → World → Prop, (∀ (t3 : Sl × Int × Unit) (w6 : World), (
  cond (decide (t3.2.1 < ((s1.l : Nat) : Int)))
  ((0 ≤ t3.2.1 ∧ t3.2.1 < ((s1.l : Nat) : Int)) ∧
  onSome s1.b fun a3 =>
  ldN [.int .i64, .int .i64, .int .i64, .int .i64] w6 (a3.add (Int.toNat t3.2.1 * 4)) fun (t4 : Int × Int × Int × Int × Unit) =>
  allocD w6 #[Value.int .i64 (0 : Int), Value.int .i64 (0 : Int), Value.int .i64 (0 : Int), Value.int .i64 (0 : Int)] 91 fun a4 w7 =>
  storeD Tryz.prog 91 a4 (Value.agg #[(Value.int .i64 t4.1), (Value.int .i64 t4.2.1), (Value.int .i64 t4.2.2.1), (Value.int .i64 t4.2.2.2.1)]) w7 fun w8 =>
  ld1 (.int .i64) w8 (a2.add 0) fun (x1 : Int) =>
  ld1 (.int .i64) w8 (a4.add 1) fun (x2 : Int) =>
  cond (x1 == x2)
  (X2 (t3.1, (IntKind.wrap .i64 (t3.2.1 + (1 : Int))), ()) w8)
  (ld1 (.int .i64) w8 (a2.add 0) fun (x3 : Int) =>
  ld1 (.int .i64) w8 (a4.add 1) fun (x4 : Int) =>
  ld1 (.int .i64) w8 (a2.add 2) fun (x5 : Int) =>
  ld1 (.int .i64) w8 (a4.add 2) fun (x6 : Int) =>
  F_witness_Find t x3 x4 v (IntKind.wrap .i64 (x5 + x6)) (30 : Int) w8 fun (b1 : Bool) w9 =>
  cond b1
  (X2 (t3.1, (IntKind.wrap .i64 (t3.2.1 + (1 : Int))), ()) w9)
  (ld1 (.int .i64) w9 (a2.add 0) fun (x7 : Int) =>
  ld1 (.int .i64) w9 (a4.add 1) fun (x8 : Int) =>
  ld1 (.int .i64) w9 (a2.add 2) fun (x9 : Int) =>
  ld1 (.int .i64) w9 (a4.add 2) fun (x10 : Int) =>
  allocD w9 #[Value.int .i64 x7, Value.int .i64 x8, Value.int .i64 (IntKind.wrap .i64 (x9 + x10)), Value.int .i64 v] 91 fun a5 w10 =>
  appendD Tryz.prog 88 88 t3.1 (Value.slice (some a5) 1 1) w10 fun (s3 : Sl) w11 =>
  X2 (s3, (IntKind.wrap .i64 (t3.2.1 + (1 : Int))), ()) w11)))
  (X1 (t3.1, (IntKind.wrap .i64 (t1.2.1 + (1 : Int))), ()) w6)) → X2 t3 w6) →
  X2 (t1.1, (0 : Int), ()) w5)
  (Q t1.1 w3)) → X1 t1 w3) →
  X1 (⟨none, 0, 0⟩, (0 : Int), ()) w2
def G_rank_Shortcuts (t : KTs [.c .ptr, .c (.int .i64)]) (w : World) (K : Value → World → Prop) : Prop := F_rank_Shortcuts t.1 t.2.1 w fun (r0 : Sl) w1 => K (Value.slice r0.b r0.l r0.c) w1
abbrev T_rank_Shortcuts : Tr := fun args w K => decK [.c .ptr, .c (.int .i64)] args fun t => G_rank_Shortcuts t w K
theorem S_rank_Shortcuts : Sound Tryz.prog 83 T_rank_Shortcuts := sound_of (fn := Tryz.f83) Tryz.func83 (by kernel_rfl) mixed (by kernel_rfl) (.s .n (.s .n (.s (.s .n (.b (.l [(4, .c .slice), (17, .c (.int .i64))] [4, 7, 9, 17, 18, 19, 20, 21, 22, 23, 24, 25, 26, 27, 28, 29, 30, 31, 32, 33, 34, 35, 36, 37, 38, 39, 40, 41, 42, 43, 44, 45, 46, 47, 48, 49, 50, 51, 52, 53, 54, 55, 56, 57, 58, 59, 60, 61] (.s .n (.s .n (.s (.b (.s .n (.s .n (.b (.l [(4, .c .slice), (23, .c (.int .i64))] [4, 9, 23, 24, 25, 26, 27, 28, 29, 30, 31, 32, 33, 34, 35, 36, 37, 38, 39, 40, 41, 42, 43, 44, 45, 46, 47, 48, 49, 50, 51, 52, 53, 54, 55, 56, 57, 58, 59, 60] .n))))) .n)))))) .n))) [(106, T_net_Net_Out), (107, T_net_Net_In), (108, T_witness_Find)] ⟨⟨by kernel_rfl, S_net_Net_Out⟩, ⟨by kernel_rfl, S_net_Net_In⟩, ⟨by kernel_rfl, S_witness_Find⟩, trivial⟩ [.c .ptr, .c (.int .i64)] (by kernel_rfl) G_rank_Shortcuts fun t w K => by kernel_rfl

/-- milepost/rank.Worth -/
def F_rank_Worth (t : Option Addr) (v : Int) (w : World) (Q : Int → World → Prop) : Prop :=
  F_rank_Shortcuts t v w fun (s1 : Sl) w1 =>
  F_net_Net_In t v w1 fun (s2 : Sl) w2 =>
  F_net_Net_Out t v w2 fun (s3 : Sl) w3 =>
  Q (IntKind.wrap .i64 ((IntKind.wrap .i64 (((s1.l : Nat) : Int) - ((s2.l : Nat) : Int))) - ((s3.l : Nat) : Int))) w3
def G_rank_Worth (t : KTs [.c .ptr, .c (.int .i64)]) (w : World) (K : Value → World → Prop) : Prop := F_rank_Worth t.1 t.2.1 w fun (r0 : Int) w1 => K (Value.int .i64 r0) w1
abbrev T_rank_Worth : Tr := fun args w K => decK [.c .ptr, .c (.int .i64)] args fun t => G_rank_Worth t w K
theorem S_rank_Worth : Sound Tryz.prog 105 T_rank_Worth := sound_of (fn := Tryz.f105) Tryz.func105 (by kernel_rfl) mixed (by kernel_rfl) (.n) [(83, T_rank_Shortcuts), (106, T_net_Net_Out), (107, T_net_Net_In)] ⟨⟨by kernel_rfl, S_rank_Shortcuts⟩, ⟨by kernel_rfl, S_net_Net_Out⟩, ⟨by kernel_rfl, S_net_Net_In⟩, trivial⟩ [.c .ptr, .c (.int .i64)] (by kernel_rfl) G_rank_Worth fun t w K => by kernel_rfl

/-- milepost/rank.First -/
def F_rank_First (t : Option Addr) (gone : Sl) (w : World) (Q : Int → World → Prop) : Prop :=
  F_net_Net_Len t w fun (x1 : Int) w1 =>
  ∀ X1 : (Int × Int × Int × Unit) → World → Prop, (∀ (t1 : Int × Int × Int × Unit) (w2 : World), (
  cond (decide (t1.2.2.1 < x1))
  (∀ J1 : (Unit) → World → Prop, (∀ (t2 : Unit) (w3 : World), (
  F_rank_Worth t t1.2.2.1 w3 fun (x2 : Int) w4 =>
  cond (decide (t1.1 < (0 : Int)))
  (X1 (t1.2.2.1, x2, (IntKind.wrap .i64 (t1.2.2.1 + (1 : Int))), ()) w4)
  (cond (decide (x2 < t1.2.1))
  (X1 (t1.2.2.1, x2, (IntKind.wrap .i64 (t1.2.2.1 + (1 : Int))), ()) w4)
  (X1 (t1.1, t1.2.1, (IntKind.wrap .i64 (t1.2.2.1 + (1 : Int))), ()) w4))) → J1 t2 w3) →
  cond (decide (t1.2.2.1 < ((gone.l : Nat) : Int)))
  ((0 ≤ t1.2.2.1 ∧ t1.2.2.1 < ((gone.l : Nat) : Int)) ∧
  onSome gone.b fun a1 =>
  ld1 .bool w2 (a1.add (Int.toNat t1.2.2.1 * 1)) fun (b1 : Bool) =>
  cond b1
  (X1 (t1.1, t1.2.1, (IntKind.wrap .i64 (t1.2.2.1 + (1 : Int))), ()) w2)
  (J1 (()) w2))
  (J1 (()) w2))
  (Q t1.1 w2)) → X1 t1 w2) →
  X1 ((-1 : Int), (0 : Int), (0 : Int), ()) w1
def G_rank_First (t : KTs [.c .ptr, .c .slice]) (w : World) (K : Value → World → Prop) : Prop := F_rank_First t.1 t.2.1 w fun (r0 : Int) w1 => K (Value.int .i64 r0) w1
abbrev T_rank_First : Tr := fun args w K => decK [.c .ptr, .c .slice] args fun t => G_rank_First t w K
theorem S_rank_First : Sound Tryz.prog 82 T_rank_First := sound_of (fn := Tryz.f82) Tryz.func82 (by kernel_rfl) mixed (by kernel_rfl) (.s .n (.s .n (.s (.s .n (.b (.l [(5, .c (.int .i64)), (6, .c (.int .i64)), (11, .c (.int .i64))] [5, 6, 7, 8, 11, 12, 13, 14, 15, 16, 17, 18, 19, 20, 21, 22, 23, 24, 25, 26, 27, 28, 29, 30, 31, 32, 33, 34, 35, 36] (.s .n (.s .n (.s (.b (.s .n (.j [] [14, 15, 16, 17, 18, 19, 20, 21, 22, 23] .n .n))) .n)))))) .n))) [(81, T_net_Net_Len), (105, T_rank_Worth)] ⟨⟨by kernel_rfl, S_net_Net_Len⟩, ⟨by kernel_rfl, S_rank_Worth⟩, trivial⟩ [.c .ptr, .c .slice] (by kernel_rfl) G_rank_First fun t w K => by kernel_rfl

end Go.Proofs.YtjjgcimlmjnaeaaGreat
