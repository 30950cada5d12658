import Derived.Test.YtjjgcimlmjnaeaaGreatA1
import Derived.Test.YtjjgcimlmjnaeaaGreatFBase
namespace Go.Proofs.YtjjgcimlmjnaeaaGreat
open Go Go.Den
set_option maxRecDepth 100000
/-- milepost/milepostref4.Cmp -/
def F_ref4_Cmp (a : Sl) (b : Sl) (w : World) (Q : Int → World → Prop) : Prop :=
  ∀ J1 : (Unit) → World → Prop, (∀ (t1 : Unit) (w1 : World), (
  cond (decide (((a.l : Nat) : Int) < ((b.l : Nat) : Int)))
  (Q (-1 : Int) w1)
  (cond (decide (((a.l : Nat) : Int) > ((b.l : Nat) : Int)))
  (Q (1 : Int) w1)
  (Q (0 : Int) w1))) → J1 t1 w1) →
  ∀ X1 : (Int × Unit) → World → Prop, (∀ (t2 : Int × Unit) (w2 : World), (
  cond (decide (t2.1 < ((a.l : Nat) : Int)))
  (cond (decide (t2.1 < ((b.l : Nat) : Int)))
  ((0 ≤ t2.1 ∧ t2.1 < ((a.l : Nat) : Int)) ∧
  onSome a.b fun a1 =>
  ld1 (.int .i64) w2.drew (a1.add (Int.toNat t2.1 * 1)) fun (x1 : Int) =>
  (0 ≤ t2.1 ∧ t2.1 < ((b.l : Nat) : Int)) ∧
  onSome b.b fun a2 =>
  ld1 (.int .i64) w2.drew (a2.add (Int.toNat t2.1 * 1)) fun (x2 : Int) =>
  cond (decide (x1 < x2))
  (Q (-1 : Int) w2.drew)
  ((0 ≤ t2.1 ∧ t2.1 < ((a.l : Nat) : Int)) ∧
  onSome a.b fun a3 =>
  ld1 (.int .i64) w2.drew.drew (a3.add (Int.toNat t2.1 * 1)) fun (x3 : Int) =>
  (0 ≤ t2.1 ∧ t2.1 < ((b.l : Nat) : Int)) ∧
  onSome b.b fun a4 =>
  ld1 (.int .i64) w2.drew.drew (a4.add (Int.toNat t2.1 * 1)) fun (x4 : Int) =>
  cond (decide (x3 > x4))
  (Q (1 : Int) w2.drew.drew)
  (X1 ((IntKind.wrap .i64 (t2.1 + (1 : Int))), ()) w2.drew.drew)))
  (J1 (()) w2))
  (J1 (()) w2)) → X1 t2 w2) →
  X1 ((0 : Int), ()) w
def G_ref4_Cmp (t : KTs [.c .slice, .c .slice]) (w : World) (K : Value → World → Prop) : Prop := F_ref4_Cmp t.1 t.2.1 w fun (r0 : Int) w1 => K (Value.int .i64 r0) w1
abbrev T_ref4_Cmp : Tr := fun args w K => decK [.c .slice, .c .slice] args fun t => G_ref4_Cmp t w K
theorem S_ref4_Cmp : Sound Tryz.prog 93 T_ref4_Cmp := sound_of (fn := Tryz.f93) Tryz.func93 (by kernel_rfl) mixed (by kernel_rfl) (.s .n (.j [] [4, 5, 6, 7, 8, 9, 10, 11, 12, 13, 14, 15, 16, 17, 18, 19, 20, 21, 22, 23, 24, 25, 26, 27, 28, 29, 30, 31, 32, 33, 34, 35] (.s .n (.b (.l [(5, .c (.int .i64))] [4, 5, 6, 7, 8, 9, 10, 11, 12, 13, 14, 15, 16, 17, 18, 19, 20, 21, 22, 23, 24, 25, 26, 27, 28, 29, 30, 31, 32, 33, 34, 35] (.s .n (.s (.b (.s (.s (.r (.fl 0 (.fl 1 (.fl 2 (.fl 3 (.fl 4 (.fl 5 (.fl 6 (.fl 7 (.fl 8 .fin)))))))))) .n) (.s (.r (.fl 0 (.fl 1 (.fl 2 (.fl 3 (.fl 4 (.fl 5 (.fl 6 (.fl 7 (.fl 8 .fin)))))))))) .n))) .n))))) .n)) [] trivial [.c .slice, .c .slice] (by kernel_rfl) G_ref4_Cmp fun t w K => by kernel_rfl

end Go.Proofs.YtjjgcimlmjnaeaaGreat
