import Derived.Test.YtjjgcimlmjnaeaaGreatA1
import Derived.Test.YtjjgcimlmjnaeaaGreatFBase
import Derived.Test.YtjjgcimlmjnaeaaGreatFNet
import Derived.Test.YtjjgcimlmjnaeaaGreatFEng
import Derived.Test.YtjjgcimlmjnaeaaGreatFWay
import Derived.Test.YtjjgcimlmjnaeaaGreatFTow
import Derived.Test.YtjjgcimlmjnaeaaGreatFShu
import Derived.Test.YtjjgcimlmjnaeaaGreatFSes
import Derived.Test.YtjjgcimlmjnaeaaGreatFRes
namespace Go.Proofs.YtjjgcimlmjnaeaaGreat
open Go Go.Den
set_option maxRecDepth 100000
/-- milepost/milepostlaw28.made -/
def F_law28_made (l : Sl) (w : World) (Q : (Sl × Sl × Sl × Unit) → (Option Addr) → World → Prop) : Prop :=
  allocD w #[Value.slice none 0 0, Value.slice none 0 0, Value.slice none 0 0] 28 fun a1 w1 =>
  F_ref24_Town l w1 fun (t1 : Sl × Sl × Sl × Unit) w2 =>
  allocD w2 #[Value.slice none 0 0, Value.slice none 0 0, Value.slice none 0 0] 28 fun a2 w3 =>
  storeD Tryz.prog 28 a2 (Value.agg #[(Value.slice t1.1.b t1.1.l t1.1.c), (Value.slice t1.2.1.b t1.2.1.l t1.2.1.c), (Value.slice t1.2.2.1.b t1.2.2.1.l t1.2.2.1.c)]) w3 fun w4 =>
  ldN [.slice, .slice, .slice] w4 a2 fun (t2 : Sl × Sl × Sl × Unit) =>
  F_engine_New (t2.1, t2.2.1, t2.2.2.1, ()) w4 fun (p1 : Option Addr) (x1 : Int) w5 =>
  cond (x1 != (0 : Int))
  (ldN [.slice, .slice, .slice] w5 a2 fun (t3 : Sl × Sl × Sl × Unit) =>
  storeD Tryz.prog 28 a1 (Value.agg #[(Value.slice t3.1.b t3.1.l t3.1.c), (Value.slice t3.2.1.b t3.2.1.l t3.2.1.c), (Value.slice t3.2.2.1.b t3.2.2.1.l t3.2.2.1.c)]) w5 fun w6 =>
  ldN [.slice, .slice, .slice] w6 a1 fun (t4 : Sl × Sl × Sl × Unit) =>
  Q (t4.1, t4.2.1, t4.2.2.1, ()) none w6)
  (ldN [.slice, .slice, .slice] w5 a2 fun (t5 : Sl × Sl × Sl × Unit) =>
  storeD Tryz.prog 28 a1 (Value.agg #[(Value.slice t5.1.b t5.1.l t5.1.c), (Value.slice t5.2.1.b t5.2.1.l t5.2.1.c), (Value.slice t5.2.2.1.b t5.2.2.1.l t5.2.2.1.c)]) w5 fun w7 =>
  ldN [.slice, .slice, .slice] w7 a1 fun (t6 : Sl × Sl × Sl × Unit) =>
  Q (t6.1, t6.2.1, t6.2.2.1, ()) p1 w7)
def G_law28_made (t : KTs [.c .slice]) (w : World) (K : Value → World → Prop) : Prop := F_law28_made t.1 w fun (r0 : Sl × Sl × Sl × Unit) (r1 : Option Addr) w1 => K (Value.tuple #[(Value.agg #[(Value.slice r0.1.b r0.1.l r0.1.c), (Value.slice r0.2.1.b r0.2.1.l r0.2.1.c), (Value.slice r0.2.2.1.b r0.2.2.1.l r0.2.2.1.c)]), (Value.pointer r1)]) w1
abbrev T_law28_made : Tr := fun args w K => decK [.c .slice] args fun t => G_law28_made t w K
theorem S_law28_made : Sound Tryz.prog 9 T_law28_made := sound_of (fn := Tryz.f9) Tryz.func9 (by kernel_rfl) mixed (by kernel_rfl) (.n) [(31, T_ref24_Town), (32, T_engine_New)] ⟨⟨by kernel_rfl, S_ref24_Town⟩, ⟨by kernel_rfl, S_engine_New⟩, trivial⟩ [.c .slice] (by kernel_rfl) G_law28_made fun t w K => by kernel_rfl

/-- milepost/milepostref1.SameMsg -/
def F_ref1_SameMsg (a : Int × Int × Int × Sl × Int × Int × Int × Int × Int × Unit) (b : Int × Int × Int × Sl × Int × Int × Int × Int × Int × Unit) (w : World) (Q : Bool → World → Prop) : Prop :=
  allocD w #[Value.int .i64 a.1, Value.int .i64 a.2.1, Value.int .i64 a.2.2.1, Value.slice a.2.2.2.1.b a.2.2.2.1.l a.2.2.2.1.c, Value.int .i64 a.2.2.2.2.1, Value.int .i64 a.2.2.2.2.2.1, Value.int .i64 a.2.2.2.2.2.2.1, Value.int .i64 a.2.2.2.2.2.2.2.1, Value.int .i64 a.2.2.2.2.2.2.2.2.1] 47 fun a1 w1 =>
  allocD w1 #[Value.int .i64 b.1, Value.int .i64 b.2.1, Value.int .i64 b.2.2.1, Value.slice b.2.2.2.1.b b.2.2.2.1.l b.2.2.2.1.c, Value.int .i64 b.2.2.2.2.1, Value.int .i64 b.2.2.2.2.2.1, Value.int .i64 b.2.2.2.2.2.2.1, Value.int .i64 b.2.2.2.2.2.2.2.1, Value.int .i64 b.2.2.2.2.2.2.2.2.1] 47 fun a2 w2 =>
  ld1 (.int .i64) w2 (a1.add 0) fun (x1 : Int) =>
  ld1 (.int .i64) w2 (a2.add 0) fun (x2 : Int) =>
  cond (x1 != x2)
  (Q false w2)
  (ld1 (.int .i64) w2 (a1.add 1) fun (x3 : Int) =>
  ld1 (.int .i64) w2 (a2.add 1) fun (x4 : Int) =>
  cond (x3 != x4)
  (Q false w2)
  (ld1 (.int .i64) w2 (a1.add 2) fun (x5 : Int) =>
  ld1 (.int .i64) w2 (a2.add 2) fun (x6 : Int) =>
  cond (x5 != x6)
  (Q false w2)
  (ld1 (.int .i64) w2 (a1.add 4) fun (x7 : Int) =>
  ld1 (.int .i64) w2 (a2.add 4) fun (x8 : Int) =>
  cond (x7 != x8)
  (Q false w2)
  (ldN [.int .i64, .int .i64, .int .i64, .int .i64] w2 (a1.add 5) fun (t1 : Int × Int × Int × Int × Unit) =>
  ldN [.int .i64, .int .i64, .int .i64, .int .i64] w2 (a2.add 5) fun (t2 : Int × Int × Int × Int × Unit) =>
  cond (!((t1.1 == t2.1) && ((t1.2.1 == t2.2.1) && ((t1.2.2.1 == t2.2.2.1) && ((t1.2.2.2.1 == t2.2.2.2.1) && true)))))
  (Q false w2)
  (ld1 .slice w2 (a1.add 3) fun (s1 : Sl) =>
  ld1 .slice w2 (a2.add 3) fun (s2 : Sl) =>
  cond (((s1.l : Nat) : Int) != ((s2.l : Nat) : Int))
  (Q false w2)
  (∀ X1 : (Int × Unit) → World → Prop, (∀ (t3 : Int × Unit) (w3 : World), (
  ld1 .slice w3 (a1.add 3) fun (s3 : Sl) =>
  cond (decide (t3.1 < ((s3.l : Nat) : Int)))
  (ld1 .slice w3.drew (a1.add 3) fun (s4 : Sl) =>
  (0 ≤ t3.1 ∧ t3.1 < ((s4.l : Nat) : Int)) ∧
  onSome s4.b fun a3 =>
  ld1 (.int .i64) w3.drew (a3.add (Int.toNat t3.1 * 1)) fun (x9 : Int) =>
  ld1 .slice w3.drew (a2.add 3) fun (s5 : Sl) =>
  (0 ≤ t3.1 ∧ t3.1 < ((s5.l : Nat) : Int)) ∧
  onSome s5.b fun a4 =>
  ld1 (.int .i64) w3.drew (a4.add (Int.toNat t3.1 * 1)) fun (x10 : Int) =>
  cond (x9 != x10)
  (Q false w3.drew)
  (X1 ((IntKind.wrap .i64 (t3.1 + (1 : Int))), ()) w3.drew))
  (Q true w3)) → X1 t3 w3) →
  X1 ((0 : Int), ()) w2))))))
def G_ref1_SameMsg (t : KTs [.agg [.int .i64, .int .i64, .int .i64, .slice, .int .i64, .int .i64, .int .i64, .int .i64, .int .i64], .agg [.int .i64, .int .i64, .int .i64, .slice, .int .i64, .int .i64, .int .i64, .int .i64, .int .i64]]) (w : World) (K : Value → World → Prop) : Prop := F_ref1_SameMsg t.1 t.2.1 w fun (r0 : Bool) w1 => K (Value.bool r0) w1
abbrev T_ref1_SameMsg : Tr := fun args w K => decK [.agg [.int .i64, .int .i64, .int .i64, .slice, .int .i64, .int .i64, .int .i64, .int .i64, .int .i64], .agg [.int .i64, .int .i64, .int .i64, .slice, .int .i64, .int .i64, .int .i64, .int .i64, .int .i64]] args fun t => G_ref1_SameMsg t w K
theorem S_ref1_SameMsg : Sound Tryz.prog 44 T_ref1_SameMsg := sound_of (fn := Tryz.f44) Tryz.func44 (by kernel_rfl) mixed (by kernel_rfl) (.s .n (.s .n (.s (.s .n (.b (.l [(5, .c (.int .i64))] [4, 5, 48, 49, 50, 51, 52, 53, 54, 55, 56, 57, 58, 59, 60, 61, 62, 63, 64, 65] (.s .n (.s (.b (.s (.r (.fl 0 (.fl 1 (.fl 2 (.fl 3 (.fl 4 (.fl 5 (.fl 6 (.fl 7 (.fl 8 (.fl 9 (.fl 10 .fin)))))))))))) .n)) .n))))) .n))) [] trivial [.agg [.int .i64, .int .i64, .int .i64, .slice, .int .i64, .int .i64, .int .i64, .int .i64, .int .i64], .agg [.int .i64, .int .i64, .int .i64, .slice, .int .i64, .int .i64, .int .i64, .int .i64, .int .i64]] (by kernel_rfl) G_ref1_SameMsg fun t w K => by kernel_rfl

/-- milepost/milepostlaw28.alike -/
def F_law28_alike (a : Sl) (b : Sl) (w : World) (Q : Bool → World → Prop) : Prop :=
  cond (((a.l : Nat) : Int) != ((b.l : Nat) : Int))
  (Q false w)
  (∀ X1 : (Int × Unit) → World → Prop, (∀ (t1 : Int × Unit) (w1 : World), (
  cond (decide (t1.1 < ((a.l : Nat) : Int)))
  ((0 ≤ t1.1 ∧ t1.1 < ((a.l : Nat) : Int)) ∧
  onSome a.b fun a1 =>
  ldN [.int .i64, .int .i64, .int .i64, .slice, .int .i64, .int .i64, .int .i64, .int .i64, .int .i64] w1.drew (a1.add (Int.toNat t1.1 * 9)) fun (t2 : Int × Int × Int × Sl × Int × Int × Int × Int × Int × Unit) =>
  (0 ≤ t1.1 ∧ t1.1 < ((b.l : Nat) : Int)) ∧
  onSome b.b fun a2 =>
  ldN [.int .i64, .int .i64, .int .i64, .slice, .int .i64, .int .i64, .int .i64, .int .i64, .int .i64] w1.drew (a2.add (Int.toNat t1.1 * 9)) fun (t3 : Int × Int × Int × Sl × Int × Int × Int × Int × Int × Unit) =>
  F_ref1_SameMsg (t2.1, t2.2.1, t2.2.2.1, t2.2.2.2.1, t2.2.2.2.2.1, t2.2.2.2.2.2.1, t2.2.2.2.2.2.2.1, t2.2.2.2.2.2.2.2.1, t2.2.2.2.2.2.2.2.2.1, ()) (t3.1, t3.2.1, t3.2.2.1, t3.2.2.2.1, t3.2.2.2.2.1, t3.2.2.2.2.2.1, t3.2.2.2.2.2.2.1, t3.2.2.2.2.2.2.2.1, t3.2.2.2.2.2.2.2.2.1, ()) w1.drew fun (b1 : Bool) w2 =>
  cond (!b1)
  (Q false w2)
  (X1 ((IntKind.wrap .i64 (t1.1 + (1 : Int))), ()) w2))
  (Q true w1)) → X1 t1 w1) →
  X1 ((0 : Int), ()) w)
def G_law28_alike (t : KTs [.c .slice, .c .slice]) (w : World) (K : Value → World → Prop) : Prop := F_law28_alike t.1 t.2.1 w fun (r0 : Bool) w1 => K (Value.bool r0) w1
abbrev T_law28_alike : Tr := fun args w K => decK [.c .slice, .c .slice] args fun t => G_law28_alike t w K
theorem S_law28_alike : Sound Tryz.prog 21 T_law28_alike := sound_of (fn := Tryz.f21) Tryz.func21 (by kernel_rfl) mixed (by kernel_rfl) (.s .n (.s .n (.s (.s .n (.b (.l [(5, .c (.int .i64))] [4, 5, 11, 12, 13, 14, 15, 16, 17, 18, 19, 20, 21, 22, 23, 24, 25, 26] (.s .n (.s (.b (.s (.r (.fl 0 (.fl 1 (.fl 2 (.fl 3 (.fl 4 (.fl 5 (.fl 6 (.fl 7 (.mn 8 (.fl 9 .fin) .no)))))))))) .n)) .n))))) .n))) [(44, T_ref1_SameMsg)] ⟨⟨by kernel_rfl, S_ref1_SameMsg⟩, trivial⟩ [.c .slice, .c .slice] (by kernel_rfl) G_law28_alike fun t w K => by kernel_rfl

/-- milepost/milepostlaw28.awake -/
def F_law28_awake  (w : World) (Q : Bool → World → Prop) : Prop :=
  allocD w #[Value.int .i64 (3 : Int), Value.int .i64 (3 : Int), Value.int .i64 (5 : Int)] 3 fun a1 w1 =>
  F_law28_made ⟨(some a1), 3, 3⟩ w1 fun (t1 : Sl × Sl × Sl × Unit) (p1 : Option Addr) w2 =>
  allocD w2 #[Value.slice none 0 0, Value.slice none 0 0, Value.slice none 0 0] 28 fun a2 w3 =>
  storeD Tryz.prog 28 a2 (Value.agg #[(Value.slice t1.1.b t1.1.l t1.1.c), (Value.slice t1.2.1.b t1.2.1.l t1.2.1.c), (Value.slice t1.2.2.1.b t1.2.2.1.l t1.2.2.1.c)]) w3 fun w4 =>
  cond (Option.isNone p1)
  (Q false w4)
  (ld1 .slice w4 (a2.add 1) fun (s1 : Sl) =>
  cond (((s1.l : Nat) : Int) == (0 : Int))
  (Q false w4)
  (ld1 .slice w4 (a2.add 1) fun (s2 : Sl) =>
  (0 ≤ (0 : Int) ∧ (0 : Int) < ((s2.l : Nat) : Int)) ∧
  onSome s2.b fun a3 =>
  ld1 (.int .i64) w4 ((a3.add (Int.toNat (0 : Int) * 3)).add 1) fun (x1 : Int) =>
  F_session_New p1 (0 : Int) x1 ⟨none, 0, 0⟩ w4 fun (p2 : Option Addr) (s3 : Sl) (x2 : Int) w5 =>
  F_session_New p1 (-1 : Int) (0 : Int) ⟨none, 0, 0⟩ w5 fun (_ : Option Addr) (_ : Sl) (x3 : Int) w6 =>
  F_session_New none (0 : Int) (0 : Int) ⟨none, 0, 0⟩ w6 fun (_ : Option Addr) (_ : Sl) (x4 : Int) w7 =>
  cond (x2 != (0 : Int))
  (Q false w7)
  (cond (Option.isNone p2)
  (Q false w7)
  (F_session_Session_Left p2 w7 fun (s6 : Sl) (b1 : Bool) w8 =>
  allocD w8 #[Value.int .i64 (4 : Int), Value.int .i64 (0 : Int), Value.int .i64 (0 : Int), Value.slice none 0 0, Value.int .i64 (0 : Int), Value.int .i64 (0 : Int), Value.int .i64 (0 : Int), Value.int .i64 (0 : Int), Value.int .i64 (0 : Int), Value.int .i64 (5 : Int), Value.int .i64 (0 : Int), Value.int .i64 (0 : Int), Value.slice none 0 0, Value.int .i64 (0 : Int), Value.int .i64 (0 : Int), Value.int .i64 (0 : Int), Value.int .i64 (0 : Int), Value.int .i64 (0 : Int), Value.int .i64 (8 : Int), Value.int .i64 (0 : Int), Value.int .i64 (0 : Int), Value.slice none 0 0, Value.int .i64 (0 : Int), Value.int .i64 (0 : Int), Value.int .i64 (0 : Int), Value.int .i64 (0 : Int), Value.int .i64 (0 : Int)] 47 fun a4 w9 =>
  F_law28_alike s3 ⟨(some a4), 3, 3⟩ w9 fun (b2 : Bool) w10 =>
  cond b2
  (cond (x3 == (1 : Int))
  (cond (x4 == (1 : Int))
  (F_session_Session_Done p2 w10 fun (b3 : Bool) w11 =>
  cond b3
  (F_session_Session_At p2 w11 fun (x5 : Int) w12 =>
  cond (x5 == (0 : Int))
  (cond b1
  (cond (((s6.l : Nat) : Int) == (0 : Int))
  (F_session_Session_Report p2 (0 : Int) ⟨none, 0, 0⟩ w12 fun (s7 : Sl) w13 =>
  cond (((s7.l : Nat) : Int) == (0 : Int))
  (F_session_Session_Done none w13 fun (b4 : Bool) w14 =>
  cond b4
  (F_session_Session_Report none (0 : Int) ⟨none, 0, 0⟩ w14 fun (s8 : Sl) w15 =>
  Q (((s8.l : Nat) : Int) == (0 : Int)) w15)
  (Q false w14))
  (Q false w13))
  (Q false w12))
  (Q false w12))
  (Q false w12))
  (Q false w11))
  (Q false w10))
  (Q false w10))
  (Q false w10)))))
def G_law28_awake (_ : KTs []) (w : World) (K : Value → World → Prop) : Prop := F_law28_awake  w fun (r0 : Bool) w1 => K (Value.bool r0) w1
abbrev T_law28_awake : Tr := fun args w K => decK [] args fun t => G_law28_awake t w K
theorem S_law28_awake : Sound Tryz.prog 8 T_law28_awake := sound_of (fn := Tryz.f8) Tryz.func8 (by kernel_rfl) mixed (by kernel_rfl) (.n) [(9, T_law28_made), (11, T_session_New), (13, T_session_Session_Left), (14, T_session_Session_At), (16, T_session_Session_Done), (17, T_session_Session_Report), (21, T_law28_alike)] ⟨⟨by kernel_rfl, S_law28_made⟩, ⟨by kernel_rfl, S_session_New⟩, ⟨by kernel_rfl, S_session_Session_Left⟩, ⟨by kernel_rfl, S_session_Session_At⟩, ⟨by kernel_rfl, S_session_Session_Done⟩, ⟨by kernel_rfl, S_session_Session_Report⟩, ⟨by kernel_rfl, S_law28_alike⟩, trivial⟩ [] (by kernel_rfl) G_law28_awake fun t w K => by kernel_rfl

/-- milepost/milepostlaw28.SessionChanges -/
def F_law28_SessionChanges (l : Sl) (at_ : Int) (node : Int) (shut : Sl) (w : World) (Q : Bool → World → Prop) : Prop :=
  cond (decide (((l.l : Nat) : Int) > (100 : Int)))
  (F_law28_awake  w fun (b1 : Bool) w1 =>
  Q b1 w1)
  (cond (decide (((shut.l : Nat) : Int) > (30 : Int)))
  (F_law28_awake  w fun (b2 : Bool) w2 =>
  Q b2 w2)
  (F_law28_made l w fun (t1 : Sl × Sl × Sl × Unit) (p1 : Option Addr) w3 =>
  allocD w3 #[Value.slice none 0 0, Value.slice none 0 0, Value.slice none 0 0] 28 fun a1 w4 =>
  storeD Tryz.prog 28 a1 (Value.agg #[(Value.slice t1.1.b t1.1.l t1.1.c), (Value.slice t1.2.1.b t1.2.1.l t1.2.1.c), (Value.slice t1.2.2.1.b t1.2.2.1.l t1.2.2.1.c)]) w4 fun w5 =>
  cond (Option.isNone p1)
  (Q false w5)
  (ld1 .slice w5.drew (a1.add 1) fun (s1 : Sl) =>
  ld1 .slice w5.drew (a1.add 0) fun (s2 : Sl) =>
  F_alike_Round at_ ((s1.l : Nat) : Int) w5.drew fun (x1 : Int) w6 =>
  w6.cell? (a1.add 0) = some (Value.slice s2.b s2.l s2.c) ∧
  F_alike_Round node ((s2.l : Nat) : Int) w6 fun (x2 : Int) w7 =>
  F_session_New p1 x1 x2 ⟨none, 0, 0⟩ w7 fun (p2 : Option Addr) (_ : Sl) (x3 : Int) w8 =>
  cond (x3 != (0 : Int))
  (Q false w8)
  (cond (Option.isNone p2)
  (Q false w8)
  (ld1 .slice w8 (a1.add 1) fun (s4 : Sl) =>
  makeSliceD Tryz.prog 54 (Value.int .i64 ((s4.l : Nat) : Int)) (Value.int .i64 ((s4.l : Nat) : Int)) w8 fun (s5 : Sl) w9 =>
  ∀ X1 : (Int × Unit) → World → Prop, (∀ (t2 : Int × Unit) (w10 : World), (
  cond (decide (t2.1 < ((shut.l : Nat) : Int)))
  (∀ J1 : (Unit) → World → Prop, (∀ (t3 : Unit) (w11 : World), (
  X1 ((IntKind.wrap .i64 (t2.1 + (1 : Int))), ()) w11) → J1 t3 w11) →
  (0 ≤ t2.1 ∧ t2.1 < ((shut.l : Nat) : Int)) ∧
  onSome shut.b fun a2 =>
  ld1 (.int .i64) w10.drew (a2.add (Int.toNat t2.1 * 1)) fun (x4 : Int) =>
  ld1 .slice w10.drew (a1.add 1) fun (s6 : Sl) =>
  F_alike_Round x4 ((s6.l : Nat) : Int) w10.drew fun (x5 : Int) w12 =>
  F_session_Session_Left p2 w12 fun (s7 : Sl) (b3 : Bool) w13 =>
  F_session_Session_Done p2 w13 fun (b4 : Bool) w14 =>
  ∀ X2 : (Bool × Int × Unit) → World → Prop, (∀ (t4 : Bool × Int × Unit) (w15 : World), (
  cond (decide (t4.2.1 < ((s7.l : Nat) : Int)))
  (cond t4.1
  (X2 (true, (IntKind.wrap .i64 (t4.2.1 + (1 : Int))), ()) w15)
  ((0 ≤ t4.2.1 ∧ t4.2.1 < ((s7.l : Nat) : Int)) ∧
  onSome s7.b fun a3 =>
  ld1 (.int .i64) w15 (a3.add (Int.toNat t4.2.1 * 1)) fun (x6 : Int) =>
  X2 ((x6 == x5), (IntKind.wrap .i64 (t4.2.1 + (1 : Int))), ()) w15))
  (∀ J2 : (Bool × Sl × Unit) → World → Prop, (∀ (t5 : Bool × Sl × Unit) (w16 : World), (
  ldN [.slice, .slice, .slice] w16 a1 fun (t6 : Sl × Sl × Sl × Unit) =>
  F_ref4_Between (t6.1, t6.2.1, t6.2.2.1, ()) x1 x2 s5 w16 fun (x7 : Int) w17 =>
  F_session_Session_Left p2 w17 fun (s8 : Sl) (b5 : Bool) w18 =>
  cond b4
  (cond (((t5.2.1.l : Nat) : Int) != (0 : Int))
  (Q false w18)
  (J1 (()) w18))
  (∀ J3 : (Bool × Unit) → World → Prop, (∀ (t7 : Bool × Unit) (w19 : World), (
  cond t7.1
  (cond (((t5.2.1.l : Nat) : Int) != (0 : Int))
  (Q false w19)
  (cond (!b5)
  (Q false w19)
  (F_alike_Ints s8 s7 w19 fun (b6 : Bool) w20 =>
  cond (!b6)
  (Q false w20)
  (J1 (()) w20))))
  (cond (decide (x7 < (0 : Int)))
  (cond b5
  (Q false w19)
  (cond b3
  (cond (((t5.2.1.l : Nat) : Int) != (1 : Int))
  (Q false w19)
  ((0 ≤ (0 : Int) ∧ (0 : Int) < ((t5.2.1.l : Nat) : Int)) ∧
  onSome t5.2.1.b fun a4 =>
  ld1 (.int .i64) w19 ((a4.add (Int.toNat (0 : Int) * 9)).add 0) fun (x8 : Int) =>
  cond (x8 != (6 : Int))
  (Q false w19)
  (cond (!b3)
  (cond (((t5.2.1.l : Nat) : Int) != (0 : Int))
  (Q false w19)
  (J1 (()) w19))
  (J1 (()) w19))))
  (cond (!b3)
  (cond (((t5.2.1.l : Nat) : Int) != (0 : Int))
  (Q false w19)
  (J1 (()) w19))
  (J1 (()) w19))))
  (∀ J4 : (Bool × Unit) → World → Prop, (∀ (t8 : Bool × Unit) (w21 : World), (
  cond t8.1
  (cond (decide (((t5.2.1.l : Nat) : Int) < (2 : Int)))
  (Q false w21)
  ((0 ≤ (0 : Int) ∧ (0 : Int) < ((t5.2.1.l : Nat) : Int)) ∧
  onSome t5.2.1.b fun a5 =>
  ld1 (.int .i64) w21 ((a5.add (Int.toNat (0 : Int) * 9)).add 0) fun (x9 : Int) =>
  cond (x9 != (5 : Int))
  (Q false w21)
  ((0 ≤ (0 : Int) ∧ (0 : Int) < ((t5.2.1.l : Nat) : Int)) ∧
  onSome t5.2.1.b fun a6 =>
  ld1 (.int .i64) w21 ((a6.add (Int.toNat (0 : Int) * 9)).add 4) fun (x10 : Int) =>
  cond (x10 != x7)
  (Q false w21)
  (cond (!b5)
  (Q false w21)
  (∀ X3 : (Int × Unit) → World → Prop, (∀ (t9 : Int × Unit) (w22 : World), (
  cond (decide (t9.1 < ((s8.l : Nat) : Int)))
  (ldN [.slice, .slice, .slice] w22.drew a1 fun (t10 : Sl × Sl × Sl × Unit) =>
  (0 ≤ t9.1 ∧ t9.1 < ((s8.l : Nat) : Int)) ∧
  onSome s8.b fun a7 =>
  ld1 (.int .i64) w22.drew (a7.add (Int.toNat t9.1 * 1)) fun (x11 : Int) =>
  F_ref4_Edge (t10.1, t10.2.1, t10.2.2.1, ()) x11 w22.drew fun (b7 : Bool) w23 =>
  cond (!b7)
  (Q false w23)
  ((0 ≤ t9.1 ∧ t9.1 < ((s8.l : Nat) : Int)) ∧
  onSome s8.b fun a8 =>
  ld1 (.int .i64) w23 (a8.add (Int.toNat t9.1 * 1)) fun (x12 : Int) =>
  (0 ≤ x12 ∧ x12 < ((s5.l : Nat) : Int)) ∧
  onSome s5.b fun a9 =>
  ld1 .bool w23 (a9.add (Int.toNat x12 * 1)) fun (b8 : Bool) =>
  cond b8
  (Q false w23)
  (X3 ((IntKind.wrap .i64 (t9.1 + (1 : Int))), ()) w23)))
  (J1 (()) w22)) → X3 t9 w22) →
  X3 ((0 : Int), ()) w21)))))
  (J1 (()) w21)) → J4 t8 w21) →
  cond b3
  (J4 (true, ()) w19)
  ((0 ≤ x5 ∧ x5 < ((s5.l : Nat) : Int)) ∧
  onSome s5.b fun a10 =>
  ld1 .bool w19 (a10.add (Int.toNat x5 * 1)) fun (b9 : Bool) =>
  J4 ((!b9), ()) w19)))) → J3 t7 w19) →
  cond b3
  (J3 ((!t5.1), ()) w18)
  (J3 (false, ()) w18))) → J2 t5 w16) →
  (0 ≤ x5 ∧ x5 < ((s5.l : Nat) : Int)) ∧
  onSome s5.b fun a11 =>
  ld1 .bool w15 (a11.add (Int.toNat x5 * 1)) fun (b10 : Bool) =>
  cond b10
  ((0 ≤ x5 ∧ x5 < ((s5.l : Nat) : Int)) ∧
  onSome s5.b fun a12 =>
  storeD Tryz.prog 4 (a12.add (Int.toNat x5 * 1)) (Value.bool false) w15 fun w24 =>
  allocD w24 #[Value.int .i64 x5] 3 fun a13 w25 =>
  F_session_Session_Changed p2 ⟨none, 0, 0⟩ ⟨(some a13), 1, 1⟩ s5 w25 fun (s9 : Sl) w26 =>
  J2 (false, s9, ()) w26)
  ((0 ≤ x5 ∧ x5 < ((s5.l : Nat) : Int)) ∧
  onSome s5.b fun a14 =>
  storeD Tryz.prog 4 (a14.add (Int.toNat x5 * 1)) (Value.bool true) w15 fun w27 =>
  allocD w27 #[Value.int .i64 x5] 3 fun a15 w28 =>
  F_session_Session_Changed p2 ⟨(some a15), 1, 1⟩ ⟨none, 0, 0⟩ s5 w28 fun (s10 : Sl) w29 =>
  J2 (t4.1, s10, ()) w29))) → X2 t4 w15) →
  X2 (false, (0 : Int), ()) w14)
  (F_law28_awake  w10 fun (b11 : Bool) w30 =>
  Q b11 w30)) → X1 t2 w10) →
  X1 ((0 : Int), ()) w9)))))
def G_law28_SessionChanges (t : KTs [.c .slice, .c (.int .i64), .c (.int .i64), .c .slice]) (w : World) (K : Value → World → Prop) : Prop := F_law28_SessionChanges t.1 t.2.1 t.2.2.1 t.2.2.2.1 w fun (r0 : Bool) w1 => K (Value.bool r0) w1
abbrev T_law28_SessionChanges : Tr := fun args w K => decK [.c .slice, .c (.int .i64), .c (.int .i64), .c .slice] args fun t => G_law28_SessionChanges t w K
theorem S_law28_SessionChanges : Sound Tryz.prog 5 T_law28_SessionChanges := sound_of (fn := Tryz.f5) Tryz.func5 (by kernel_rfl) mixed (by kernel_rfl) (.s .n (.s .n (.s .n (.s .n (.s (.r (.fl 0 (.fl 1 (.fl 2 (.fl 3 (.fl 5 (.fl 6 (.fl 7 (.fl 8 (.mn 4 (.mn 9 (.fl 10 (.fl 11 .fin)) .no) .no)))))))))) (.s .n (.s .n (.s .n (.s (.s .n (.b (.l [(17, .c (.int .i64))] [8, 17, 18, 19, 20, 21, 22, 23, 24, 25, 26, 27, 28, 73, 74, 75, 76, 77, 78, 79, 80, 81, 82, 83, 84, 85, 86, 87, 88, 89, 90, 91, 92, 93, 94, 95, 96, 97, 98, 99, 100, 101, 102, 103, 104, 105, 106, 107, 108, 109, 110, 111, 112, 113, 114, 115, 116, 117, 118, 119, 120, 121, 122, 123, 124, 125, 126, 127, 128, 129, 130, 131, 132, 133, 134, 135, 136, 137, 138, 139, 140, 141, 142, 143, 144, 145, 146, 147, 148, 149, 150, 151, 152, 153, 154, 155, 156, 157, 158, 159, 160, 161, 162, 163, 164, 165, 166, 167, 168, 169, 170, 171, 172, 173, 174, 175, 176, 177, 178, 179, 180, 181, 182, 183, 184, 185, 186, 187, 188, 189, 190, 191, 192, 193, 194, 195, 196, 197, 198, 199, 200, 201, 202, 203, 204, 205, 206, 207, 208, 209, 210, 211, 212, 213, 214, 215, 216, 217, 218, 219, 220, 221, 222, 223, 224, 225, 226, 227, 228, 229, 230, 231, 232, 233, 234, 235, 236, 237, 238, 239, 240, 241, 242, 243] (.s .n (.j [] [8, 18, 19, 20, 21, 22, 23, 24, 25, 26, 27, 28, 79, 80, 81, 82, 83, 84, 85, 86, 87, 88, 89, 90, 91, 92, 93, 94, 95, 96, 97, 98, 99, 100, 101, 102, 103, 104, 105, 106, 107, 108, 109, 110, 111, 112, 113, 114, 115, 116, 117, 118, 119, 120, 121, 122, 123, 124, 125, 126, 127, 128, 129, 130, 131, 132, 133, 134, 135, 136, 137, 138, 139, 140, 141, 142, 143, 144, 145, 146, 147, 148, 149, 150, 151, 152, 153, 154, 155, 156, 157, 158, 159, 160, 161, 162, 163, 164, 165, 166, 167, 168, 169, 170, 171, 172, 173, 174, 175, 176, 177, 178, 179, 180, 181, 182, 183, 184, 185, 186, 187, 188, 189, 190, 191, 192, 193, 194, 195, 196, 197, 198, 199, 200, 201, 202, 203, 204, 205, 206, 207, 208, 209, 210, 211, 212, 213, 214, 215, 216, 217, 218, 219, 220, 221, 222, 223, 224, 225, 226, 227, 228, 229, 230, 231, 232, 233, 234, 235, 236, 237, 238, 239, 240, 241, 242, 243] (.b (.s (.r (.fl 0 (.fl 1 (.fl 2 (.fl 3 (.fl 4 (.fl 5 (.fl 6 (.mn 7 (.fl 8 .fin) .no))))))))) (.s .n (.s .n (.s .n (.s (.s .n (.b (.l [(22, .c .bool), (23, .c (.int .i64))] [22, 23, 94, 95, 96, 97, 98, 99, 100, 101, 102, 103, 104, 105, 106, 107, 108] .n))) (.s .n (.j [(22, .c .bool), (24, .c .slice)] [22, 24, 109, 110, 111, 112, 113, 114, 115, 116, 117, 118, 119, 120, 121, 122, 123, 124, 125, 126, 127, 128] .n (.s .n (.s .n (.b (.s .n (.c .n (.j [(144, .c .bool)] [144, 145, 146, 147, 148, 149] .n (.c .n (.s .n (.c .n (.j [(191, .c .bool)] [191, 192, 193, 194, 195, 196, 197, 198, 199] .n (.c (.s .n (.s .n (.b (.l [(28, .c (.int .i64))] [8, 28, 222, 223, 224, 225, 226, 227, 228, 229, 230, 231, 232, 233, 234, 235, 236, 237, 238, 239, 240, 241, 242, 243] (.s .n (.s (.b (.s (.r (.fl 0 (.fl 1 (.fl 2 (.fl 3 (.fl 4 (.mn 5 (.fl 6 (.fl 7 (.fl 8 (.fl 9 (.fl 10 (.fl 11 (.fl 12 (.fl 13 (.fl 14 (.fl 15 .fin)))))))))) .no))))))) .n)) .n)))))) .n))))))))))))))))))) .n))))) .n))))))))) [(8, T_law28_awake), (9, T_law28_made), (10, T_alike_Round), (11, T_session_New), (13, T_session_Session_Left), (15, T_ref4_Edge), (16, T_session_Session_Done), (24, T_session_Session_Changed), (27, T_alike_Ints), (28, T_ref4_Between)] ⟨⟨by kernel_rfl, S_law28_awake⟩, ⟨by kernel_rfl, S_law28_made⟩, ⟨by kernel_rfl, S_alike_Round⟩, ⟨by kernel_rfl, S_session_New⟩, ⟨by kernel_rfl, S_session_Session_Left⟩, ⟨by kernel_rfl, S_ref4_Edge⟩, ⟨by kernel_rfl, S_session_Session_Done⟩, ⟨by kernel_rfl, S_session_Session_Changed⟩, ⟨by kernel_rfl, S_alike_Ints⟩, ⟨by kernel_rfl, S_ref4_Between⟩, trivial⟩ [.c .slice, .c (.int .i64), .c (.int .i64), .c .slice] (by kernel_rfl) G_law28_SessionChanges fun t w K => by kernel_rfl

end Go.Proofs.YtjjgcimlmjnaeaaGreat
