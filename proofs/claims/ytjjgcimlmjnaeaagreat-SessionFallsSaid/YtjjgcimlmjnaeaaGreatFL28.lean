import Derived.Test.YtjjgcimlmjnaeaaGreatA1
import Derived.Test.YtjjgcimlmjnaeaaGreatFBase
import Derived.Test.YtjjgcimlmjnaeaaGreatFNet
import Derived.Test.YtjjgcimlmjnaeaaGreatFEng
import Derived.Test.YtjjgcimlmjnaeaaGreatFWay
import Derived.Test.YtjjgcimlmjnaeaaGreatFTow
import Derived.Test.YtjjgcimlmjnaeaaGreatFShu
import Derived.Test.YtjjgcimlmjnaeaaGreatFSes
import Derived.Test.YtjjgcimlmjnaeaaGreatFRes
namespace Go.Proofs.YtjjgcimlmjnaeaaGreat
open Go Go.Den
set_option maxRecDepth 100000
/-- milepost/milepostlaw28.made -/
def F_law28_made (l : Sl) (w : World) (Q : (Sl × Sl × Sl × Unit) → (Option Addr) → World → Prop) : Prop :=
  allocD w #[Value.slice none 0 0, Value.slice none 0 0, Value.slice none 0 0] 28 fun a1 w1 =>
  F_ref24_Town l w1 fun (t1 : Sl × Sl × Sl × Unit) w2 =>
  allocD w2 #[Value.slice none 0 0, Value.slice none 0 0, Value.slice none 0 0] 28 fun a2 w3 =>
  storeD Tryz.prog 28 a2 (Value.agg #[(Value.slice t1.1.b t1.1.l t1.1.c), (Value.slice t1.2.1.b t1.2.1.l t1.2.1.c), (Value.slice t1.2.2.1.b t1.2.2.1.l t1.2.2.1.c)]) w3 fun w4 =>
  ldN [.slice, .slice, .slice] w4 a2 fun (t2 : Sl × Sl × Sl × Unit) =>
  F_engine_New (t2.1, t2.2.1, t2.2.2.1, ()) w4 fun (p1 : Option Addr) (x1 : Int) w5 =>
  cond (x1 != (0 : Int))
  (ldN [.slice, .slice, .slice] w5 a2 fun (t3 : Sl × Sl × Sl × Unit) =>
  storeD Tryz.prog 28 a1 (Value.agg #[(Value.slice t3.1.b t3.1.l t3.1.c), (Value.slice t3.2.1.b t3.2.1.l t3.2.1.c), (Value.slice t3.2.2.1.b t3.2.2.1.l t3.2.2.1.c)]) w5 fun w6 =>
  ldN [.slice, .slice, .slice] w6 a1 fun (t4 : Sl × Sl × Sl × Unit) =>
  Q (t4.1, t4.2.1, t4.2.2.1, ()) none w6)
  (ldN [.slice, .slice, .slice] w5 a2 fun (t5 : Sl × Sl × Sl × Unit) =>
  storeD Tryz.prog 28 a1 (Value.agg #[(Value.slice t5.1.b t5.1.l t5.1.c), (Value.slice t5.2.1.b t5.2.1.l t5.2.1.c), (Value.slice t5.2.2.1.b t5.2.2.1.l t5.2.2.1.c)]) w5 fun w7 =>
  ldN [.slice, .slice, .slice] w7 a1 fun (t6 : Sl × Sl × Sl × Unit) =>
  Q (t6.1, t6.2.1, t6.2.2.1, ()) p1 w7)
def G_law28_made (t : KTs [.c .slice]) (w : World) (K : Value → World → Prop) : Prop := F_law28_made t.1 w fun (r0 : Sl × Sl × Sl × Unit) (r1 : Option Addr) w1 => K (Value.tuple #[(Value.agg #[(Value.slice r0.1.b r0.1.l r0.1.c), (Value.slice r0.2.1.b r0.2.1.l r0.2.1.c), (Value.slice r0.2.2.1.b r0.2.2.1.l r0.2.2.1.c)]), (Value.pointer r1)]) w1
abbrev T_law28_made : Tr := fun args w K => decK [.c .slice] args fun t => G_law28_made t w K
theorem S_law28_made : Sound Tryz.prog 9 T_law28_made := sound_of (fn := Tryz.f9) Tryz.func9 (by kernel_rfl) mixed (by kernel_rfl) (.n) [(31, T_ref24_Town), (32, T_engine_New)] ⟨⟨by kernel_rfl, S_ref24_Town⟩, ⟨by kernel_rfl, S_engine_New⟩, trivial⟩ [.c .slice] (by kernel_rfl) G_law28_made fun t w K => by kernel_rfl

/-- milepost/milepostref1.SameMsg -/
def F_ref1_SameMsg (a : Int × Int × Int × Sl × Int × Int × Int × Int × Int × Unit) (b : Int × Int × Int × Sl × Int × Int × Int × Int × Int × Unit) (w : World) (Q : Bool → World → Prop) : Prop :=
  allocD w #[Value.int .i64 a.1, Value.int .i64 a.2.1, Value.int .i64 a.2.2.1, Value.slice a.2.2.2.1.b a.2.2.2.1.l a.2.2.2.1.c, Value.int .i64 a.2.2.2.2.1, Value.int .i64 a.2.2.2.2.2.1, Value.int .i64 a.2.2.2.2.2.2.1, Value.int .i64 a.2.2.2.2.2.2.2.1, Value.int .i64 a.2.2.2.2.2.2.2.2.1] 47 fun a1 w1 =>
  allocD w1 #[Value.int .i64 b.1, Value.int .i64 b.2.1, Value.int .i64 b.2.2.1, Value.slice b.2.2.2.1.b b.2.2.2.1.l b.2.2.2.1.c, Value.int .i64 b.2.2.2.2.1, Value.int .i64 b.2.2.2.2.2.1, Value.int .i64 b.2.2.2.2.2.2.1, Value.int .i64 b.2.2.2.2.2.2.2.1, Value.int .i64 b.2.2.2.2.2.2.2.2.1] 47 fun a2 w2 =>
  ld1 (.int .i64) w2 (a1.add 0) fun (x1 : Int) =>
  ld1 (.int .i64) w2 (a2.add 0) fun (x2 : Int) =>
  cond (x1 != x2)
  (Q false w2)
  (ld1 (.int .i64) w2 (a1.add 1) fun (x3 : Int) =>
  ld1 (.int .i64) w2 (a2.add 1) fun (x4 : Int) =>
  cond (x3 != x4)
  (Q false w2)
  (ld1 (.int .i64) w2 (a1.add 2) fun (x5 : Int) =>
  ld1 (.int .i64) w2 (a2.add 2) fun (x6 : Int) =>
  cond (x5 != x6)
  (Q false w2)
  (ld1 (.int .i64) w2 (a1.add 4) fun (x7 : Int) =>
  ld1 (.int .i64) w2 (a2.add 4) fun (x8 : Int) =>
  cond (x7 != x8)
  (Q false w2)
  (ldN [.int .i64, .int .i64, .int .i64, .int .i64] w2 (a1.add 5) fun (t1 : Int × Int × Int × Int × Unit) =>
  ldN [.int .i64, .int .i64, .int .i64, .int .i64] w2 (a2.add 5) fun (t2 : Int × Int × Int × Int × Unit) =>
  cond (!((t1.1 == t2.1) && ((t1.2.1 == t2.2.1) && ((t1.2.2.1 == t2.2.2.1) && ((t1.2.2.2.1 == t2.2.2.2.1) && true)))))
  (Q false w2)
  (ld1 .slice w2 (a1.add 3) fun (s1 : Sl) =>
  ld1 .slice w2 (a2.add 3) fun (s2 : Sl) =>
  cond (((s1.l : Nat) : Int) != ((s2.l : Nat) : Int))
  (Q false w2)
  (∀ X1 : (Int × Unit) → World → Prop, (∀ (t3 : Int × Unit) (w3 : World), (
  ld1 .slice w3 (a1.add 3) fun (s3 : Sl) =>
  cond (decide (t3.1 < ((s3.l : Nat) : Int)))
  (ld1 .slice w3.drew (a1.add 3) fun (s4 : Sl) =>
  (0 ≤ t3.1 ∧ t3.1 < ((s4.l : Nat) : Int)) ∧
  onSome s4.b fun a3 =>
  ld1 (.int .i64) w3.drew (a3.add (Int.toNat t3.1 * 1)) fun (x9 : Int) =>
  ld1 .slice w3.drew (a2.add 3) fun (s5 : Sl) =>
  (0 ≤ t3.1 ∧ t3.1 < ((s5.l : Nat) : Int)) ∧
  onSome s5.b fun a4 =>
  ld1 (.int .i64) w3.drew (a4.add (Int.toNat t3.1 * 1)) fun (x10 : Int) =>
  cond (x9 != x10)
  (Q false w3.drew)
  (X1 ((IntKind.wrap .i64 (t3.1 + (1 : Int))), ()) w3.drew))
  (Q true w3)) → X1 t3 w3) →
  X1 ((0 : Int), ()) w2))))))
def G_ref1_SameMsg (t : KTs [.agg [.int .i64, .int .i64, .int .i64, .slice, .int .i64, .int .i64, .int .i64, .int .i64, .int .i64], .agg [.int .i64, .int .i64, .int .i64, .slice, .int .i64, .int .i64, .int .i64, .int .i64, .int .i64]]) (w : World) (K : Value → World → Prop) : Prop := F_ref1_SameMsg t.1 t.2.1 w fun (r0 : Bool) w1 => K (Value.bool r0) w1
abbrev T_ref1_SameMsg : Tr := fun args w K => decK [.agg [.int .i64, .int .i64, .int .i64, .slice, .int .i64, .int .i64, .int .i64, .int .i64, .int .i64], .agg [.int .i64, .int .i64, .int .i64, .slice, .int .i64, .int .i64, .int .i64, .int .i64, .int .i64]] args fun t => G_ref1_SameMsg t w K
theorem S_ref1_SameMsg : Sound Tryz.prog 44 T_ref1_SameMsg := sound_of (fn := Tryz.f44) Tryz.func44 (by kernel_rfl) mixed (by kernel_rfl) (.s .n (.s .n (.s (.s .n (.b (.l [(5, .c (.int .i64))] [4, 5, 48, 49, 50, 51, 52, 53, 54, 55, 56, 57, 58, 59, 60, 61, 62, 63, 64, 65] (.s .n (.s (.b (.s (.r (.fl 0 (.fl 1 (.fl 2 (.fl 3 (.fl 4 (.fl 5 (.fl 6 (.fl 7 (.fl 8 (.fl 9 (.fl 10 .fin)))))))))))) .n)) .n))))) .n))) [] trivial [.agg [.int .i64, .int .i64, .int .i64, .slice, .int .i64, .int .i64, .int .i64, .int .i64, .int .i64], .agg [.int .i64, .int .i64, .int .i64, .slice, .int .i64, .int .i64, .int .i64, .int .i64, .int .i64]] (by kernel_rfl) G_ref1_SameMsg fun t w K => by kernel_rfl

/-- milepost/milepostlaw28.alike -/
def F_law28_alike (a : Sl) (b : Sl) (w : World) (Q : Bool → World → Prop) : Prop :=
  cond (((a.l : Nat) : Int) != ((b.l : Nat) : Int))
  (Q false w)
  (∀ X1 : (Int × Unit) → World → Prop, (∀ (t1 : Int × Unit) (w1 : World), (
  cond (decide (t1.1 < ((a.l : Nat) : Int)))
  ((0 ≤ t1.1 ∧ t1.1 < ((a.l : Nat) : Int)) ∧
  onSome a.b fun a1 =>
  ldN [.int .i64, .int .i64, .int .i64, .slice, .int .i64, .int .i64, .int .i64, .int .i64, .int .i64] w1.drew (a1.add (Int.toNat t1.1 * 9)) fun (t2 : Int × Int × Int × Sl × Int × Int × Int × Int × Int × Unit) =>
  (0 ≤ t1.1 ∧ t1.1 < ((b.l : Nat) : Int)) ∧
  onSome b.b fun a2 =>
  ldN [.int .i64, .int .i64, .int .i64, .slice, .int .i64, .int .i64, .int .i64, .int .i64, .int .i64] w1.drew (a2.add (Int.toNat t1.1 * 9)) fun (t3 : Int × Int × Int × Sl × Int × Int × Int × Int × Int × Unit) =>
  F_ref1_SameMsg (t2.1, t2.2.1, t2.2.2.1, t2.2.2.2.1, t2.2.2.2.2.1, t2.2.2.2.2.2.1, t2.2.2.2.2.2.2.1, t2.2.2.2.2.2.2.2.1, t2.2.2.2.2.2.2.2.2.1, ()) (t3.1, t3.2.1, t3.2.2.1, t3.2.2.2.1, t3.2.2.2.2.1, t3.2.2.2.2.2.1, t3.2.2.2.2.2.2.1, t3.2.2.2.2.2.2.2.1, t3.2.2.2.2.2.2.2.2.1, ()) w1.drew fun (b1 : Bool) w2 =>
  cond (!b1)
  (Q false w2)
  (X1 ((IntKind.wrap .i64 (t1.1 + (1 : Int))), ()) w2))
  (Q true w1)) → X1 t1 w1) →
  X1 ((0 : Int), ()) w)
def G_law28_alike (t : KTs [.c .slice, .c .slice]) (w : World) (K : Value → World → Prop) : Prop := F_law28_alike t.1 t.2.1 w fun (r0 : Bool) w1 => K (Value.bool r0) w1
abbrev T_law28_alike : Tr := fun args w K => decK [.c .slice, .c .slice] args fun t => G_law28_alike t w K
theorem S_law28_alike : Sound Tryz.prog 21 T_law28_alike := sound_of (fn := Tryz.f21) Tryz.func21 (by kernel_rfl) mixed (by kernel_rfl) (.s .n (.s .n (.s (.s .n (.b (.l [(5, .c (.int .i64))] [4, 5, 11, 12, 13, 14, 15, 16, 17, 18, 19, 20, 21, 22, 23, 24, 25, 26] (.s .n (.s (.b (.s (.r (.fl 0 (.fl 1 (.fl 2 (.fl 3 (.fl 4 (.fl 5 (.fl 6 (.fl 7 (.mn 8 (.fl 9 .fin) .no)))))))))) .n)) .n))))) .n))) [(44, T_ref1_SameMsg)] ⟨⟨by kernel_rfl, S_ref1_SameMsg⟩, trivial⟩ [.c .slice, .c .slice] (by kernel_rfl) G_law28_alike fun t w K => by kernel_rfl

/-- milepost/milepostlaw28.awake -/
def F_law28_awake  (w : World) (Q : Bool → World → Prop) : Prop :=
  allocD w #[Value.int .i64 (3 : Int), Value.int .i64 (3 : Int), Value.int .i64 (5 : Int)] 3 fun a1 w1 =>
  F_law28_made ⟨(some a1), 3, 3⟩ w1 fun (t1 : Sl × Sl × Sl × Unit) (p1 : Option Addr) w2 =>
  allocD w2 #[Value.slice none 0 0, Value.slice none 0 0, Value.slice none 0 0] 28 fun a2 w3 =>
  storeD Tryz.prog 28 a2 (Value.agg #[(Value.slice t1.1.b t1.1.l t1.1.c), (Value.slice t1.2.1.b t1.2.1.l t1.2.1.c), (Value.slice t1.2.2.1.b t1.2.2.1.l t1.2.2.1.c)]) w3 fun w4 =>
  cond (Option.isNone p1)
  (Q false w4)
  (ld1 .slice w4 (a2.add 1) fun (s1 : Sl) =>
  cond (((s1.l : Nat) : Int) == (0 : Int))
  (Q false w4)
  (ld1 .slice w4 (a2.add 1) fun (s2 : Sl) =>
  (0 ≤ (0 : Int) ∧ (0 : Int) < ((s2.l : Nat) : Int)) ∧
  onSome s2.b fun a3 =>
  ld1 (.int .i64) w4 ((a3.add (Int.toNat (0 : Int) * 3)).add 1) fun (x1 : Int) =>
  F_session_New p1 (0 : Int) x1 ⟨none, 0, 0⟩ w4 fun (p2 : Option Addr) (s3 : Sl) (x2 : Int) w5 =>
  F_session_New p1 (-1 : Int) (0 : Int) ⟨none, 0, 0⟩ w5 fun (_ : Option Addr) (_ : Sl) (x3 : Int) w6 =>
  F_session_New none (0 : Int) (0 : Int) ⟨none, 0, 0⟩ w6 fun (_ : Option Addr) (_ : Sl) (x4 : Int) w7 =>
  cond (x2 != (0 : Int))
  (Q false w7)
  (cond (Option.isNone p2)
  (Q false w7)
  (F_session_Session_Left p2 w7 fun (s6 : Sl) (b1 : Bool) w8 =>
  allocD w8 #[Value.int .i64 (4 : Int), Value.int .i64 (0 : Int), Value.int .i64 (0 : Int), Value.slice none 0 0, Value.int .i64 (0 : Int), Value.int .i64 (0 : Int), Value.int .i64 (0 : Int), Value.int .i64 (0 : Int), Value.int .i64 (0 : Int), Value.int .i64 (5 : Int), Value.int .i64 (0 : Int), Value.int .i64 (0 : Int), Value.slice none 0 0, Value.int .i64 (0 : Int), Value.int .i64 (0 : Int), Value.int .i64 (0 : Int), Value.int .i64 (0 : Int), Value.int .i64 (0 : Int), Value.int .i64 (8 : Int), Value.int .i64 (0 : Int), Value.int .i64 (0 : Int), Value.slice none 0 0, Value.int .i64 (0 : Int), Value.int .i64 (0 : Int), Value.int .i64 (0 : Int), Value.int .i64 (0 : Int), Value.int .i64 (0 : Int)] 47 fun a4 w9 =>
  F_law28_alike s3 ⟨(some a4), 3, 3⟩ w9 fun (b2 : Bool) w10 =>
  cond b2
  (cond (x3 == (1 : Int))
  (cond (x4 == (1 : Int))
  (F_session_Session_Done p2 w10 fun (b3 : Bool) w11 =>
  cond b3
  (F_session_Session_At p2 w11 fun (x5 : Int) w12 =>
  cond (x5 == (0 : Int))
  (cond b1
  (cond (((s6.l : Nat) : Int) == (0 : Int))
  (F_session_Session_Report p2 (0 : Int) ⟨none, 0, 0⟩ w12 fun (s7 : Sl) w13 =>
  cond (((s7.l : Nat) : Int) == (0 : Int))
  (F_session_Session_Done none w13 fun (b4 : Bool) w14 =>
  cond b4
  (F_session_Session_Report none (0 : Int) ⟨none, 0, 0⟩ w14 fun (s8 : Sl) w15 =>
  Q (((s8.l : Nat) : Int) == (0 : Int)) w15)
  (Q false w14))
  (Q false w13))
  (Q false w12))
  (Q false w12))
  (Q false w12))
  (Q false w11))
  (Q false w10))
  (Q false w10))
  (Q false w10)))))
def G_law28_awake (_ : KTs []) (w : World) (K : Value → World → Prop) : Prop := F_law28_awake  w fun (r0 : Bool) w1 => K (Value.bool r0) w1
abbrev T_law28_awake : Tr := fun args w K => decK [] args fun t => G_law28_awake t w K
theorem S_law28_awake : Sound Tryz.prog 8 T_law28_awake := sound_of (fn := Tryz.f8) Tryz.func8 (by kernel_rfl) mixed (by kernel_rfl) (.n) [(9, T_law28_made), (11, T_session_New), (13, T_session_Session_Left), (14, T_session_Session_At), (16, T_session_Session_Done), (17, T_session_Session_Report), (21, T_law28_alike)] ⟨⟨by kernel_rfl, S_law28_made⟩, ⟨by kernel_rfl, S_session_New⟩, ⟨by kernel_rfl, S_session_Session_Left⟩, ⟨by kernel_rfl, S_session_Session_At⟩, ⟨by kernel_rfl, S_session_Session_Done⟩, ⟨by kernel_rfl, S_session_Session_Report⟩, ⟨by kernel_rfl, S_law28_alike⟩, trivial⟩ [] (by kernel_rfl) G_law28_awake fun t w K => by kernel_rfl

/-- milepost/milepostlaw28.SessionFalls -/
def F_law28_SessionFalls (l : Sl) (at_ : Int) (node : Int) (off : Sl) (w : World) (Q : Bool → World → Prop) : Prop :=
  cond (decide (((l.l : Nat) : Int) > (100 : Int)))
  (F_law28_awake  w fun (b1 : Bool) w1 =>
  Q b1 w1)
  (cond (decide (((off.l : Nat) : Int) > (20 : Int)))
  (F_law28_awake  w fun (b2 : Bool) w2 =>
  Q b2 w2)
  (F_law28_made l w fun (t1 : Sl × Sl × Sl × Unit) (p1 : Option Addr) w3 =>
  allocD w3 #[Value.slice none 0 0, Value.slice none 0 0, Value.slice none 0 0] 28 fun a1 w4 =>
  storeD Tryz.prog 28 a1 (Value.agg #[(Value.slice t1.1.b t1.1.l t1.1.c), (Value.slice t1.2.1.b t1.2.1.l t1.2.1.c), (Value.slice t1.2.2.1.b t1.2.2.1.l t1.2.2.1.c)]) w4 fun w5 =>
  cond (Option.isNone p1)
  (Q false w5)
  (ld1 .slice w5.drew (a1.add 1) fun (s1 : Sl) =>
  ld1 .slice w5.drew (a1.add 0) fun (s2 : Sl) =>
  F_alike_Round at_ ((s1.l : Nat) : Int) w5.drew fun (x1 : Int) w6 =>
  w6.cell? (a1.add 0) = some (Value.slice s2.b s2.l s2.c) ∧
  F_alike_Round node ((s2.l : Nat) : Int) w6 fun (x2 : Int) w7 =>
  F_session_New p1 x1 x2 ⟨none, 0, 0⟩ w7 fun (p2 : Option Addr) (s3 : Sl) (x3 : Int) w8 =>
  cond (x3 != (0 : Int))
  (Q false w8)
  (cond (Option.isNone p2)
  (Q false w8)
  (cond (decide (((s3.l : Nat) : Int) < (2 : Int)))
  (Q false w8)
  (ldN [.slice, .slice, .slice] w8 a1 fun (t2 : Sl × Sl × Sl × Unit) =>
  F_ref4_To (t2.1, t2.2.1, t2.2.2.1, ()) x2 ⟨none, 0, 0⟩ w8 fun (s4 : Sl) w9 =>
  ∀ X1 : (Int × Unit) → World → Prop, (∀ (t3 : Int × Unit) (w10 : World), (
  cond (decide (t3.1 < (200 : Int)))
  (∀ J1 : (Unit) → World → Prop, (∀ (t4 : Unit) (w11 : World), (
  X1 ((IntKind.wrap .i64 (t3.1 + (1 : Int))), ()) w11) → J1 t4 w11) →
  F_session_Session_Left p2 w10 fun (s5 : Sl) (b3 : Bool) w12 =>
  F_session_Session_At p2 w12 fun (x4 : Int) w13 =>
  ldN [.slice, .slice, .slice] w13 a1 fun (t5 : Sl × Sl × Sl × Unit) =>
  F_ref4_Edge (t5.1, t5.2.1, t5.2.2.1, ()) x4 w13 fun (b4 : Bool) w14 =>
  cond (!b4)
  (Q false w14)
  ((0 ≤ x4 ∧ x4 < ((s4.l : Nat) : Int)) ∧
  onSome s4.b fun a2 =>
  ld1 (.int .i64) w14 (a2.add (Int.toNat x4 * 1)) fun (x5 : Int) =>
  cond (!(b3 == (decide (x5 ≥ (0 : Int)))))
  (Q false w14)
  (F_session_Session_Done p2 w14 fun (b5 : Bool) w15 =>
  cond b5
  ((0 ≤ x4 ∧ x4 < ((s4.l : Nat) : Int)) ∧
  onSome s4.b fun a3 =>
  ld1 (.int .i64) w15 (a3.add (Int.toNat x4 * 1)) fun (x6 : Int) =>
  cond (x6 == (0 : Int))
  (F_law28_awake  w15 fun (b6 : Bool) w16 =>
  Q b6 w16)
  (Q false w15))
  (cond (!b3)
  (cond (!b3)
  (F_law28_awake  w15 fun (b7 : Bool) w17 =>
  Q b7 w17)
  (Q false w15))
  (cond (((s5.l : Nat) : Int) == (0 : Int))
  (cond (!b3)
  (F_law28_awake  w15 fun (b8 : Bool) w18 =>
  Q b8 w18)
  (Q false w15))
  ((0 ≤ (0 : Int) ∧ (0 : Int) < ((s5.l : Nat) : Int)) ∧
  onSome s5.b fun a4 =>
  ld1 (.int .i64) w15 (a4.add (Int.toNat (0 : Int) * 1)) fun (x7 : Int) =>
  ∀ J2 : (Int × Unit) → World → Prop, (∀ (t6 : Int × Unit) (w19 : World), (
  F_session_Session_Report p2 t6.1 ⟨none, 0, 0⟩ w19 fun (s6 : Sl) w20 =>
  cond (((s6.l : Nat) : Int) == (0 : Int))
  (Q false w20)
  (F_session_Session_At p2 w20 fun (x8 : Int) w21 =>
  cond (x8 != t6.1)
  (Q false w21)
  ((0 ≤ IntKind.wrap .i64 (((s6.l : Nat) : Int) - (1 : Int)) ∧ IntKind.wrap .i64 (((s6.l : Nat) : Int) - (1 : Int)) < ((s6.l : Nat) : Int)) ∧
  onSome s6.b fun a5 =>
  ldN [.int .i64, .int .i64, .int .i64, .slice, .int .i64, .int .i64, .int .i64, .int .i64, .int .i64] w21 (a5.add (Int.toNat (IntKind.wrap .i64 (((s6.l : Nat) : Int) - (1 : Int))) * 9)) fun (t7 : Int × Int × Int × Sl × Int × Int × Int × Int × Int × Unit) =>
  allocD w21 #[Value.int .i64 (0 : Int), Value.int .i64 (0 : Int), Value.int .i64 (0 : Int), Value.slice none 0 0, Value.int .i64 (0 : Int), Value.int .i64 (0 : Int), Value.int .i64 (0 : Int), Value.int .i64 (0 : Int), Value.int .i64 (0 : Int)] 47 fun a6 w22 =>
  storeD Tryz.prog 47 a6 (Value.agg #[(Value.int .i64 t7.1), (Value.int .i64 t7.2.1), (Value.int .i64 t7.2.2.1), (Value.slice t7.2.2.2.1.b t7.2.2.2.1.l t7.2.2.2.1.c), (Value.int .i64 t7.2.2.2.2.1), (Value.int .i64 t7.2.2.2.2.2.1), (Value.int .i64 t7.2.2.2.2.2.2.1), (Value.int .i64 t7.2.2.2.2.2.2.2.1), (Value.int .i64 t7.2.2.2.2.2.2.2.2.1)]) w22 fun w23 =>
  ∀ J3 : (Unit) → World → Prop, (∀ (t8 : Unit) (w24 : World), (
  ∀ J4 : (Unit) → World → Prop, (∀ (t9 : Unit) (w25 : World), (
  (0 ≤ (0 : Int) ∧ (0 : Int) < ((s5.l : Nat) : Int)) ∧
  onSome s5.b fun a7 =>
  ld1 (.int .i64) w25.drew (a7.add (Int.toNat (0 : Int) * 1)) fun (x9 : Int) =>
  cond (t6.1 != x9)
  (cond (t6.1 != x4)
  (cond (decide (((s6.l : Nat) : Int) < (1 : Int)))
  (Q false w25.drew)
  ((0 ≤ (0 : Int) ∧ (0 : Int) < ((s6.l : Nat) : Int)) ∧
  onSome s6.b fun a8 =>
  ld1 (.int .i64) w25.drew ((a8.add (Int.toNat (0 : Int) * 9)).add 0) fun (x10 : Int) =>
  cond (x10 != (5 : Int))
  ((0 ≤ (0 : Int) ∧ (0 : Int) < ((s6.l : Nat) : Int)) ∧
  onSome s6.b fun a9 =>
  ld1 (.int .i64) w25.drew ((a9.add (Int.toNat (0 : Int) * 9)).add 0) fun (x11 : Int) =>
  cond (x11 != (6 : Int))
  (Q false w25.drew)
  ((0 ≤ (0 : Int) ∧ (0 : Int) < ((s6.l : Nat) : Int)) ∧
  onSome s6.b fun a10 =>
  ld1 (.int .i64) w25.drew ((a10.add (Int.toNat (0 : Int) * 9)).add 0) fun (x12 : Int) =>
  cond (x12 == (5 : Int))
  ((0 ≤ (0 : Int) ∧ (0 : Int) < ((s6.l : Nat) : Int)) ∧
  onSome s6.b fun a11 =>
  ld1 (.int .i64) w25.drew ((a11.add (Int.toNat (0 : Int) * 9)).add 4) fun (x13 : Int) =>
  (0 ≤ t6.1 ∧ t6.1 < ((s4.l : Nat) : Int)) ∧
  onSome s4.b fun a12 =>
  ld1 (.int .i64) w25.drew (a12.add (Int.toNat t6.1 * 1)) fun (x14 : Int) =>
  cond (x13 != x14)
  (Q false w25.drew)
  (J1 (()) w25.drew))
  (J1 (()) w25.drew)))
  ((0 ≤ (0 : Int) ∧ (0 : Int) < ((s6.l : Nat) : Int)) ∧
  onSome s6.b fun a13 =>
  ld1 (.int .i64) w25.drew ((a13.add (Int.toNat (0 : Int) * 9)).add 0) fun (x15 : Int) =>
  cond (x15 == (5 : Int))
  ((0 ≤ (0 : Int) ∧ (0 : Int) < ((s6.l : Nat) : Int)) ∧
  onSome s6.b fun a14 =>
  ld1 (.int .i64) w25.drew ((a14.add (Int.toNat (0 : Int) * 9)).add 4) fun (x16 : Int) =>
  (0 ≤ t6.1 ∧ t6.1 < ((s4.l : Nat) : Int)) ∧
  onSome s4.b fun a15 =>
  ld1 (.int .i64) w25.drew (a15.add (Int.toNat t6.1 * 1)) fun (x17 : Int) =>
  cond (x16 != x17)
  (Q false w25.drew)
  (J1 (()) w25.drew))
  (J1 (()) w25.drew))))
  (J1 (()) w25.drew))
  (J1 (()) w25.drew)) → J4 t9 w25) →
  (0 ≤ (0 : Int) ∧ (0 : Int) < ((s5.l : Nat) : Int)) ∧
  onSome s5.b fun a16 =>
  ld1 (.int .i64) w24.drew (a16.add (Int.toNat (0 : Int) * 1)) fun (x18 : Int) =>
  cond (t6.1 == x18)
  (cond (((s6.l : Nat) : Int) != (1 : Int))
  (Q false w24.drew)
  ((0 ≤ t6.1 ∧ t6.1 < ((s4.l : Nat) : Int)) ∧
  onSome s4.b fun a17 =>
  ld1 (.int .i64) w24.drew (a17.add (Int.toNat t6.1 * 1)) fun (x19 : Int) =>
  (0 ≤ x4 ∧ x4 < ((s4.l : Nat) : Int)) ∧
  onSome s4.b fun a18 =>
  ld1 (.int .i64) w24.drew (a18.add (Int.toNat x4 * 1)) fun (x20 : Int) =>
  ld1 .slice w24.drew (a1.add 1) fun (s7 : Sl) =>
  (0 ≤ t6.1 ∧ t6.1 < ((s7.l : Nat) : Int)) ∧
  onSome s7.b fun a19 =>
  ld1 (.int .i64) w24.drew ((a19.add (Int.toNat t6.1 * 3)).add 2) fun (x21 : Int) =>
  cond (x19 != (IntKind.wrap .i64 (x20 - x21)))
  (Q false w24.drew)
  (J4 (()) w24.drew)))
  (J4 (()) w24.drew)) → J3 t8 w24) →
  (0 ≤ t6.1 ∧ t6.1 < ((s4.l : Nat) : Int)) ∧
  onSome s4.b fun a20 =>
  ld1 (.int .i64) w23 (a20.add (Int.toNat t6.1 * 1)) fun (x22 : Int) =>
  cond (x22 == (0 : Int))
  (ld1 (.int .i64) w23 (a6.add 0) fun (x23 : Int) =>
  cond (x23 != (8 : Int))
  (Q false w23)
  (J3 (()) w23))
  ((0 ≤ t6.1 ∧ t6.1 < ((s4.l : Nat) : Int)) ∧
  onSome s4.b fun a21 =>
  ld1 (.int .i64) w23 (a21.add (Int.toNat t6.1 * 1)) fun (x24 : Int) =>
  cond (decide (x24 < (0 : Int)))
  (ld1 (.int .i64) w23 (a6.add 0) fun (x25 : Int) =>
  cond (x25 != (6 : Int))
  (Q false w23)
  (J3 (()) w23))
  (ld1 (.int .i64) w23.drew (a6.add 0) fun (x26 : Int) =>
  cond (x26 != (7 : Int))
  (Q false w23.drew)
  (ld1 (.int .i64) w23.drew ((a6.add 5).add 3) fun (x27 : Int) =>
  (0 ≤ t6.1 ∧ t6.1 < ((s4.l : Nat) : Int)) ∧
  onSome s4.b fun a22 =>
  ld1 (.int .i64) w23.drew (a22.add (Int.toNat t6.1 * 1)) fun (x28 : Int) =>
  cond (x27 != x28)
  (Q false w23.drew)
  (J3 (()) w23.drew))))))) → J2 t6 w19) →
  cond (decide (t3.1 < ((off.l : Nat) : Int)))
  ((0 ≤ t3.1 ∧ t3.1 < ((off.l : Nat) : Int)) ∧
  onSome off.b fun a23 =>
  ld1 (.int .i64) w15.drew (a23.add (Int.toNat t3.1 * 1)) fun (x29 : Int) =>
  ld1 .slice w15.drew (a1.add 1) fun (s8 : Sl) =>
  F_alike_Round x29 ((s8.l : Nat) : Int) w15.drew fun (x30 : Int) w26 =>
  J2 (x30, ()) w26)
  (J2 (x7, ()) w15)))))))
  (Q false w10)) → X1 t3 w10) →
  X1 ((0 : Int), ()) w9))))))
def G_law28_SessionFalls (t : KTs [.c .slice, .c (.int .i64), .c (.int .i64), .c .slice]) (w : World) (K : Value → World → Prop) : Prop := F_law28_SessionFalls t.1 t.2.1 t.2.2.1 t.2.2.2.1 w fun (r0 : Bool) w1 => K (Value.bool r0) w1
abbrev T_law28_SessionFalls : Tr := fun args w K => decK [.c .slice, .c (.int .i64), .c (.int .i64), .c .slice] args fun t => G_law28_SessionFalls t w K
theorem S_law28_SessionFalls : Sound Tryz.prog 3 T_law28_SessionFalls := sound_of (fn := Tryz.f3) Tryz.func3 (by kernel_rfl) mixed (by kernel_rfl) (.s .n (.s .n (.s .n (.s .n (.s (.r (.fl 0 (.fl 1 (.fl 2 (.fl 3 (.fl 5 (.fl 6 (.fl 7 (.fl 8 (.mn 4 (.mn 9 (.fl 10 (.fl 11 .fin)) .no) .no)))))))))) (.s .n (.s .n (.s .n (.s (.s .n (.b (.l [(17, .c (.int .i64))] [8, 17, 18, 19, 20, 21, 22, 23, 72, 73, 74, 75, 76, 77, 78, 79, 80, 81, 82, 83, 84, 85, 86, 87, 88, 89, 90, 91, 92, 93, 94, 95, 96, 97, 98, 99, 100, 101, 102, 103, 104, 105, 106, 107, 108, 109, 110, 111, 112, 113, 114, 115, 116, 117, 118, 119, 120, 121, 122, 123, 124, 125, 126, 127, 128, 129, 130, 131, 132, 133, 134, 135, 136, 137, 138, 139, 140, 141, 142, 143, 144, 145, 146, 147, 148, 149, 150, 151, 152, 153, 154, 155, 156, 157, 158, 159, 160, 161, 162, 163, 164, 165, 166, 167, 168, 169, 170, 171, 172, 173, 174, 175, 176, 177, 178, 179, 180, 181, 182, 183, 184, 185, 186, 187, 188, 189, 190, 191, 192, 193, 194, 195, 196, 197, 198, 199, 200, 201, 202, 203, 204, 205, 206, 207, 208, 209, 210, 211, 212, 213, 214, 215, 216, 217, 218, 219, 220, 221, 222, 223, 224, 225, 226, 227, 228, 229, 230, 231, 232, 233, 234, 235, 236, 237, 238, 239, 240, 241, 242, 243, 244, 245, 246, 247, 248, 249, 250, 251, 252, 253, 254, 255, 256] (.s .n (.j [] [8, 18, 19, 20, 21, 22, 23, 76, 77, 78, 79, 80, 81, 82, 83, 84, 85, 86, 87, 88, 89, 90, 91, 92, 93, 94, 95, 96, 97, 98, 99, 100, 101, 102, 103, 104, 105, 106, 107, 108, 109, 110, 111, 112, 113, 114, 115, 116, 117, 118, 119, 120, 121, 122, 123, 124, 125, 126, 127, 128, 129, 130, 131, 132, 133, 134, 135, 136, 137, 138, 139, 140, 141, 142, 143, 144, 145, 146, 147, 148, 149, 150, 151, 152, 153, 154, 155, 156, 157, 158, 159, 160, 161, 162, 163, 164, 165, 166, 167, 168, 169, 170, 171, 172, 173, 174, 175, 176, 177, 178, 179, 180, 181, 182, 183, 184, 185, 186, 187, 188, 189, 190, 191, 192, 193, 194, 195, 196, 197, 198, 199, 200, 201, 202, 203, 204, 205, 206, 207, 208, 209, 210, 211, 212, 213, 214, 215, 216, 217, 218, 219, 220, 221, 222, 223, 224, 225, 226, 227, 228, 229, 230, 231, 232, 233, 234, 235, 236, 237, 238, 239, 240, 241, 242, 243, 244, 245, 246, 247, 248, 249, 250, 251, 252, 253, 254, 255, 256] (.b (.s .n (.s .n (.s .n (.s .n (.s .n (.s .n (.j [(21, .c (.int .i64))] [21, 121, 122, 123, 124, 125, 126, 127, 128, 129, 130, 131, 132] (.s .n (.c (.r (.fl 0 (.fl 1 (.fl 2 (.fl 3 (.fl 4 (.fl 5 (.fl 6 (.mn 7 (.fl 8 .fin) .no))))))))) .n)) (.s .n (.s .n (.s .n (.j [] [8, 151, 152, 153, 154, 155, 156, 157, 158, 159, 160, 161, 162, 163, 164, 165, 166, 167, 168, 169, 170, 171, 172, 173, 174, 175, 176, 177, 178, 179, 180, 181] (.b (.s .n (.c .n (.s .n (.c .n (.s (.r (.fl 0 (.fl 1 (.fl 2 (.fl 3 (.fl 4 (.fl 5 (.fl 6 (.fl 7 (.fl 8 (.fl 9 (.fl 10 (.fl 11 (.fl 12 .fin)))))))))))))) .n)))))) (.j [] [8, 182, 183, 184, 185, 186, 187, 188, 189, 190, 191, 192, 193, 194, 195, 196, 197, 198, 199, 200, 201, 202, 203, 204, 205, 206, 207, 208, 209] (.s (.r (.fl 0 (.fl 1 (.fl 2 (.fl 3 (.fl 4 (.fl 5 (.fl 6 (.fl 7 (.fl 8 (.fl 9 (.fl 10 (.fl 11 (.fl 12 (.fl 13 (.fl 14 (.fl 15 (.fl 16 (.fl 17 (.fl 18 (.fl 19 (.fl 20 (.fl 21 (.fl 22 (.fl 23 (.fl 24 (.fl 25 (.fl 26 (.fl 27 .fin))))))))))))))))))))))))))))) .n) (.s (.r (.fl 0 (.fl 1 (.fl 2 (.fl 3 (.fl 4 (.fl 5 (.fl 6 (.fl 7 (.fl 8 (.fl 9 (.fl 10 (.fl 11 (.fl 12 (.fl 13 (.fl 14 (.fl 15 (.fl 16 (.fl 17 (.fl 18 (.fl 19 (.fl 20 (.fl 21 (.fl 22 (.fl 23 (.fl 24 (.fl 25 (.fl 26 (.fl 27 (.fl 28 (.fl 29 (.fl 30 (.fl 31 (.fl 32 (.fl 33 (.fl 34 (.fl 35 (.fl 36 (.fl 37 (.fl 38 (.fl 39 (.fl 40 (.fl 41 (.fl 42 (.fl 43 (.fl 44 (.fl 45 (.fl 46 .fin)))))))))))))))))))))))))))))))))))))))))))))))) .n)))))))))))))) .n))))) .n))))))))) [(8, T_law28_awake), (9, T_law28_made), (10, T_alike_Round), (11, T_session_New), (12, T_ref4_To), (13, T_session_Session_Left), (14, T_session_Session_At), (15, T_ref4_Edge), (16, T_session_Session_Done), (17, T_session_Session_Report)] ⟨⟨by kernel_rfl, S_law28_awake⟩, ⟨by kernel_rfl, S_law28_made⟩, ⟨by kernel_rfl, S_alike_Round⟩, ⟨by kernel_rfl, S_session_New⟩, ⟨by kernel_rfl, S_ref4_To⟩, ⟨by kernel_rfl, S_session_Session_Left⟩, ⟨by kernel_rfl, S_session_Session_At⟩, ⟨by kernel_rfl, S_ref4_Edge⟩, ⟨by kernel_rfl, S_session_Session_Done⟩, ⟨by kernel_rfl, S_session_Session_Report⟩, trivial⟩ [.c .slice, .c (.int .i64), .c (.int .i64), .c .slice] (by kernel_rfl) G_law28_SessionFalls fun t w K => by kernel_rfl

end Go.Proofs.YtjjgcimlmjnaeaaGreat
