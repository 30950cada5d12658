import Derived.Test.YtelbklglflhleaaMpDenS
import Derived.Test.YtelbklglflhleaaFBase
import Derived.Test.YtelbklglflhleaaFNet
namespace Go.Proofs.Ytelbklglflhleaa
open Go Go.Den
set_option maxRecDepth 100000
/-- milepost/milepostlaw13.awake -/
def F_law13_awake  (w : World) (Q : Bool → World → Prop) : Prop :=
  allocD w #[Value.int .i64 (0 : Int), Value.int .i64 (1 : Int), Value.int .i64 (5 : Int), Value.int .i64 (-1 : Int), Value.int .i64 (0 : Int), Value.int .i64 (1 : Int), Value.int .i64 (3 : Int), Value.int .i64 (2 : Int)] 32 fun a1 w1 =>
  F_net_New (3 : Int) ⟨(some a1), 2, 2⟩ w1 fun (p1 : Option Addr) (x1 : Int) w2 =>
  allocD w2 #[Value.int .i64 (0 : Int), Value.int .i64 (0 : Int), Value.int .i64 (5 : Int), Value.int .i64 (-1 : Int)] 32 fun a2 w3 =>
  F_net_New (3 : Int) ⟨(some a2), 1, 1⟩ w3 fun (_ : Option Addr) (x2 : Int) w4 =>
  F_net_New (-1 : Int) ⟨none, 0, 0⟩ w4 fun (_ : Option Addr) (x3 : Int) w5 =>
  cond (x1 != (0 : Int))
  (Q false w5)
  (cond (Option.isNone p1)
  (Q false w5)
  (F_net_Net_Arc p1 (0 : Int) (1 : Int) w5 fun (t1 : Int × Int × Int × Int × Unit) (b1 : Bool) w6 =>
  allocD w6 #[Value.int .i64 (0 : Int), Value.int .i64 (0 : Int), Value.int .i64 (0 : Int), Value.int .i64 (0 : Int)] 32 fun a3 w7 =>
  storeD Try.prog 32 a3 (Value.agg #[(Value.int .i64 t1.1), (Value.int .i64 t1.2.1), (Value.int .i64 t1.2.2.1), (Value.int .i64 t1.2.2.2.1)]) w7 fun w8 =>
  F_net_Net_Put p1 ((0 : Int), (1 : Int), (3 : Int), (-1 : Int), ()) w8 fun (b2 : Bool) w9 =>
  F_net_Net_Put p1 ((1 : Int), (2 : Int), (1 : Int), (-1 : Int), ()) w9 fun (b3 : Bool) w10 =>
  F_net_Net_Copy p1 w10 fun (p4 : Option Addr) w11 =>
  F_net_Net_Cut p1 (1 : Int) w11 fun w12 =>
  cond (x2 == (1 : Int))
  (cond (x3 == (1 : Int))
  (cond b1
  (ld1 (.int .i64) w12 (a3.add 3) fun (x4 : Int) =>
  cond (x4 == (2 : Int))
  (cond (!b2)
  (cond b3
  (F_net_Net_All p1 w12 fun (s1 : Sl) w13 =>
  cond (((s1.l : Nat) : Int) == (0 : Int))
  (cond (!(Option.isNone p4))
  (F_net_Net_All p4 w13 fun (s2 : Sl) w14 =>
  cond (((s2.l : Nat) : Int) == (2 : Int))
  (F_net_Net_Len p1 w14 fun (x5 : Int) w15 =>
  cond (x5 == (3 : Int))
  (F_net_Net_Len none w15 fun (x6 : Int) w16 =>
  cond (x6 == (0 : Int))
  (F_net_Net_Copy none w16 fun (p5 : Option Addr) w17 =>
  cond (Option.isNone p5)
  (ldN [.int .i64, .int .i64, .int .i64, .int .i64] w17 a3 fun (t2 : Int × Int × Int × Int × Unit) =>
  F_net_Net_Put none (t2.1, t2.2.1, t2.2.2.1, t2.2.2.2.1, ()) w17 fun (b4 : Bool) w18 =>
  Q (!b4) w18)
  (Q false w17))
  (Q false w16))
  (Q false w15))
  (Q false w14))
  (Q false w13))
  (Q false w13))
  (Q false w12))
  (Q false w12))
  (Q false w12))
  (Q false w12))
  (Q false w12))
  (Q false w12)))
def G_law13_awake (_ : KTs []) (w : World) (K : Value → World → Prop) : Prop := F_law13_awake  w fun (r0 : Bool) w1 => K (Value.bool r0) w1
abbrev T_law13_awake : Tr := fun args w K => decK [] args fun t => G_law13_awake t w K
theorem S_law13_awake : Sound Try.prog 6 T_law13_awake := sound_of (fn := Try.f6) Try.func6 (by kernel_rfl) mixed (by kernel_rfl) (.n) [(7, T_net_New), (9, T_net_Net_Put), (11, T_net_Net_Cut), (13, T_net_Net_Arc), (16, T_net_Net_All), (21, T_net_Net_Len), (22, T_net_Net_Copy)] ⟨⟨by kernel_rfl, S_net_New⟩, ⟨by kernel_rfl, S_net_Net_Put⟩, ⟨by kernel_rfl, S_net_Net_Cut⟩, ⟨by kernel_rfl, S_net_Net_Arc⟩, ⟨by kernel_rfl, S_net_Net_All⟩, ⟨by kernel_rfl, S_net_Net_Len⟩, ⟨by kernel_rfl, S_net_Net_Copy⟩, trivial⟩ [] (by kernel_rfl) G_law13_awake fun t w K => by kernel_rfl

/-- milepost/milepostlaw13.NetActs -/
def F_law13_NetActs (n : Int) (l : Sl) (acts : Sl) (w : World) (Q : Bool → World → Prop) : Prop :=
  cond (decide (((l.l : Nat) : Int) > (40 : Int)))
  (F_law13_awake  w fun (b1 : Bool) w1 =>
  Q b1 w1)
  (cond (decide (((acts.l : Nat) : Int) > (40 : Int)))
  (F_law13_awake  w fun (b2 : Bool) w2 =>
  Q b2 w2)
  (F_net_New n l w fun (p1 : Option Addr) (x1 : Int) w3 =>
  F_ref4_NewNet n l w3 fun (p2 : Option Addr) w4 =>
  cond (Option.isNone p2)
  (cond (x1 == (1 : Int))
  (cond (Option.isNone p1)
  (F_law13_awake  w4 fun (b3 : Bool) w5 =>
  Q b3 w5)
  (Q false w4))
  (Q false w4))
  (cond (x1 != (0 : Int))
  (Q false w4)
  (cond (Option.isNone p1)
  (Q false w4)
  (∀ X1 : (Int × Unit) → World → Prop, (∀ (t1 : Int × Unit) (w6 : World), (
  cond (decide (t1.1 < ((acts.l : Nat) : Int)))
  ((0 ≤ t1.1 ∧ t1.1 < ((acts.l : Nat) : Int)) ∧
  onSome acts.b fun a1 =>
  ldN [.int .i64, .int .i64, .int .i64, .int .i64, .int .i64, .int .i64] w6 (a1.add (Int.toNat t1.1 * 6)) fun (t2 : Int × Int × Int × Int × Int × Int × Unit) =>
  allocD w6 #[Value.int .i64 (0 : Int), Value.int .i64 (0 : Int), Value.int .i64 (0 : Int), Value.int .i64 (0 : Int), Value.int .i64 (0 : Int), Value.int .i64 (0 : Int)] 34 fun a2 w7 =>
  storeD Try.prog 34 a2 (Value.agg #[(Value.int .i64 t2.1), (Value.int .i64 t2.2.1), (Value.int .i64 t2.2.2.1), (Value.int .i64 t2.2.2.2.1), (Value.int .i64 t2.2.2.2.2.1), (Value.int .i64 t2.2.2.2.2.2.1)]) w7 fun w8 =>
  ∀ J1 : (Unit) → World → Prop, (∀ (t3 : Unit) (w9 : World), (
  ld1 (.int .i64) w9 ((a2.add 1).add 0) fun (x2 : Int) =>
  ld1 (.int .i64) w9 ((a2.add 1).add 1) fun (x3 : Int) =>
  F_net_Net_Arc p1 x2 x3 w9 fun (t4 : Int × Int × Int × Int × Unit) (b4 : Bool) w10 =>
  allocD w10 #[Value.int .i64 (0 : Int), Value.int .i64 (0 : Int), Value.int .i64 (0 : Int), Value.int .i64 (0 : Int)] 32 fun a3 w11 =>
  storeD Try.prog 32 a3 (Value.agg #[(Value.int .i64 t4.1), (Value.int .i64 t4.2.1), (Value.int .i64 t4.2.2.1), (Value.int .i64 t4.2.2.2.1)]) w11 fun w12 =>
  ld1 (.int .i64) w12 ((a2.add 1).add 0) fun (x4 : Int) =>
  ld1 (.int .i64) w12 ((a2.add 1).add 1) fun (x5 : Int) =>
  F_ref4_Net_Find p2 x4 x5 w12 fun (x6 : Int) (b5 : Bool) w13 =>
  cond (!(b4 == b5))
  (Q false w13.drew)
  (cond b4
  (ldN [.int .i64, .int .i64, .int .i64, .int .i64] w13.drew a3 fun (t5 : Int × Int × Int × Int × Unit) =>
  onSome p2 fun a4 =>
  ld1 .slice w13.drew (a4.add 1) fun (s1 : Sl) =>
  (0 ≤ x6 ∧ x6 < ((s1.l : Nat) : Int)) ∧
  onSome s1.b fun a5 =>
  ldN [.int .i64, .int .i64, .int .i64, .int .i64] w13.drew (a5.add (Int.toNat x6 * 4)) fun (t6 : Int × Int × Int × Int × Unit) =>
  cond (!((t5.1 == t6.1) && ((t5.2.1 == t6.2.1) && ((t5.2.2.1 == t6.2.2.1) && ((t5.2.2.2.1 == t6.2.2.2.1) && true)))))
  (Q false w13.drew)
  (onSome p2 fun a6 =>
  ld1 .slice w13.drew (a6.add 1) fun (s2 : Sl) =>
  F_net_Net_All p1 w13.drew fun (s3 : Sl) w14 =>
  w14.cell? (a6.add 1) = some (Value.slice s2.b s2.l s2.c) ∧
  F_ref4_ArcsSame s3 s2 w14 fun (b6 : Bool) w15 =>
  cond (!b6)
  (Q false w15)
  (ld1 (.int .i64) w15 (a2.add 5) fun (x7 : Int) =>
  ld1 (.int .i64) w15 (a2.add 5) fun (x8 : Int) =>
  F_net_Net_Out p1 x7 w15 fun (s4 : Sl) w16 =>
  w16.cell? (a2.add 5) = some (Value.int .i64 x8) ∧
  F_ref4_Net_Out p2 x8 w16 fun (s5 : Sl) w17 =>
  F_ref4_ArcsSame s4 s5 w17 fun (b7 : Bool) w18 =>
  cond (!b7)
  (Q false w18)
  (ld1 (.int .i64) w18 (a2.add 5) fun (x9 : Int) =>
  ld1 (.int .i64) w18 (a2.add 5) fun (x10 : Int) =>
  F_net_Net_In p1 x9 w18 fun (s6 : Sl) w19 =>
  w19.cell? (a2.add 5) = some (Value.int .i64 x10) ∧
  F_ref4_Net_In p2 x10 w19 fun (s7 : Sl) w20 =>
  F_ref4_ArcsSame s6 s7 w20 fun (b8 : Bool) w21 =>
  cond (!b8)
  (Q false w21)
  (onSome p2 fun a7 =>
  ld1 (.int .i64) w21 (a7.add 0) fun (x11 : Int) =>
  F_net_Net_Len p1 w21 fun (x12 : Int) w22 =>
  w22.cell? (a7.add 0) = some (Value.int .i64 x11) ∧
  cond (x12 != x11)
  (Q false w22)
  (X1 ((IntKind.wrap .i64 (t1.1 + (1 : Int))), ()) w22))))))
  (onSome p2 fun a8 =>
  ld1 .slice w13.drew (a8.add 1) fun (s8 : Sl) =>
  F_net_Net_All p1 w13.drew fun (s9 : Sl) w23 =>
  w23.cell? (a8.add 1) = some (Value.slice s8.b s8.l s8.c) ∧
  F_ref4_ArcsSame s9 s8 w23 fun (b9 : Bool) w24 =>
  cond (!b9)
  (Q false w24)
  (ld1 (.int .i64) w24 (a2.add 5) fun (x13 : Int) =>
  ld1 (.int .i64) w24 (a2.add 5) fun (x14 : Int) =>
  F_net_Net_Out p1 x13 w24 fun (s10 : Sl) w25 =>
  w25.cell? (a2.add 5) = some (Value.int .i64 x14) ∧
  F_ref4_Net_Out p2 x14 w25 fun (s11 : Sl) w26 =>
  F_ref4_ArcsSame s10 s11 w26 fun (b10 : Bool) w27 =>
  cond (!b10)
  (Q false w27)
  (ld1 (.int .i64) w27 (a2.add 5) fun (x15 : Int) =>
  ld1 (.int .i64) w27 (a2.add 5) fun (x16 : Int) =>
  F_net_Net_In p1 x15 w27 fun (s12 : Sl) w28 =>
  w28.cell? (a2.add 5) = some (Value.int .i64 x16) ∧
  F_ref4_Net_In p2 x16 w28 fun (s13 : Sl) w29 =>
  F_ref4_ArcsSame s12 s13 w29 fun (b11 : Bool) w30 =>
  cond (!b11)
  (Q false w30)
  (onSome p2 fun a9 =>
  ld1 (.int .i64) w30 (a9.add 0) fun (x17 : Int) =>
  F_net_Net_Len p1 w30 fun (x18 : Int) w31 =>
  w31.cell? (a9.add 0) = some (Value.int .i64 x17) ∧
  cond (x18 != x17)
  (Q false w31)
  (X1 ((IntKind.wrap .i64 (t1.1 + (1 : Int))), ()) w31))))))) → J1 t3 w9) →
  ld1 (.int .i64) w8 (a2.add 0) fun (x19 : Int) =>
  cond (x19 == (1 : Int))
  (ldN [.int .i64, .int .i64, .int .i64, .int .i64] w8.drew (a2.add 1) fun (t7 : Int × Int × Int × Int × Unit) =>
  ldN [.int .i64, .int .i64, .int .i64, .int .i64] w8.drew (a2.add 1) fun (t8 : Int × Int × Int × Int × Unit) =>
  F_net_Net_Put p1 (t7.1, t7.2.1, t7.2.2.1, t7.2.2.2.1, ()) w8.drew fun (b12 : Bool) w32 =>
  HoldsAt w32 (a2.add 1) 0 [Value.int .i64 t8.1, Value.int .i64 t8.2.1, Value.int .i64 t8.2.2.1, Value.int .i64 t8.2.2.2.1] ∧
  F_ref4_Net_Put p2 (t8.1, t8.2.1, t8.2.2.1, t8.2.2.2.1, ()) w32 fun (b13 : Bool) w33 =>
  cond (!(b12 == b13))
  (Q false w33)
  (J1 (()) w33))
  (cond (x19 == (2 : Int))
  (ld1 (.int .i64) w8 (a2.add 5) fun (x20 : Int) =>
  F_net_Net_Cut p1 x20 w8 fun w34 =>
  ld1 (.int .i64) w34 (a2.add 5) fun (x21 : Int) =>
  F_ref4_Net_Cut p2 x21 w34 fun w35 =>
  J1 (()) w35)
  (J1 (()) w8)))
  (F_net_Net_Copy p1 w6 fun (p3 : Option Addr) w36 =>
  cond (!(Option.isNone p3))
  (onSome p2 fun a10 =>
  ld1 .slice w36.drew (a10.add 1) fun (s14 : Sl) =>
  F_net_Net_All p3 w36.drew fun (s15 : Sl) w37 =>
  w37.cell? (a10.add 1) = some (Value.slice s14.b s14.l s14.c) ∧
  F_ref4_ArcsSame s15 s14 w37 fun (b14 : Bool) w38 =>
  cond b14
  (onSome p2 fun a11 =>
  ld1 (.int .i64) w38 (a11.add 0) fun (x22 : Int) =>
  F_net_Net_Len p3 w38 fun (x23 : Int) w39 =>
  w39.cell? (a11.add 0) = some (Value.int .i64 x22) ∧
  cond (x23 == x22)
  (F_law13_awake  w39 fun (b15 : Bool) w40 =>
  Q b15 w40)
  (Q false w39))
  (Q false w38))
  (Q false w36.drew))) → X1 t1 w6) →
  X1 ((0 : Int), ()) w4)))))
def G_law13_NetActs (t : KTs [.c (.int .i64), .c .slice, .c .slice]) (w : World) (K : Value → World → Prop) : Prop := F_law13_NetActs t.1 t.2.1 t.2.2.1 w fun (r0 : Bool) w1 => K (Value.bool r0) w1
abbrev T_law13_NetActs : Tr := fun args w K => decK [.c (.int .i64), .c .slice, .c .slice] args fun t => G_law13_NetActs t w K
theorem S_law13_NetActs : Sound Try.prog 3 T_law13_NetActs := sound_of (fn := Try.f3) Try.func3 (by kernel_rfl) mixed (by kernel_rfl) (.s .n (.s .n (.s .n (.s .n (.s .n (.s .n (.s (.s .n (.b (.l [(10, .c (.int .i64))] [6, 10, 11, 12, 13, 14, 15, 52, 53, 54, 55, 56, 57, 58, 59, 60, 61, 62, 63, 64, 65, 66, 67, 68, 69, 70, 71, 72, 73, 74, 75, 76, 77, 78, 79, 80, 81, 82, 83, 84, 85, 86, 87, 88, 89, 90, 91, 92, 93, 94, 95, 96, 97, 98, 99, 100, 101, 102, 103, 104, 105, 106, 107, 108, 109, 110, 111, 112, 113, 114, 115, 116, 117, 118, 119, 120, 121, 122, 123, 124, 125, 126, 127, 128, 129, 130, 131, 132, 133, 134, 135, 136, 137, 138, 139, 140, 141, 142, 143, 144, 145, 146, 147, 148, 149, 150, 151, 152, 153, 154, 155, 156, 157, 158, 159, 160, 161, 162, 163, 164, 165, 166] (.s .n (.s (.b (.s .n (.j [] [6, 62, 63, 64, 65, 66, 67, 68, 69, 70, 71, 72, 73, 74, 75, 76, 77, 78, 79, 80, 81, 82, 83, 84] (.s .n (.b (.s .n (.c (.s (.r (.fl 0 (.fl 1 (.fl 2 (.fl 4 (.fl 5 (.fl 6 (.mn 3 (.mn 7 (.fl 8 .fin) .no) .no)))))))) .n) .n)))) (.s .n (.s .n (.s (.r (.fl 0 (.fl 1 (.fl 2 (.fl 3 (.fl 4 (.fl 5 (.fl 6 (.fl 7 (.fl 8 (.fl 9 (.fl 10 (.fl 11 (.fl 12 (.fl 13 (.fl 14 (.fl 15 (.fl 16 (.fl 17 (.fl 18 (.fl 20 (.fl 21 (.fl 22 (.fl 23 (.mn 19 (.mn 24 (.fl 25 (.fl 26 (.fl 27 (.fl 28 (.fl 29 (.fl 30 (.fl 32 (.fl 33 (.fl 34 (.mn 31 (.mn 35 (.mn 36 (.fl 37 (.fl 38 (.fl 39 (.fl 40 (.fl 41 (.fl 42 (.fl 44 (.fl 45 (.fl 46 (.mn 43 (.mn 47 (.mn 48 (.fl 49 (.fl 50 (.fl 51 (.fl 52 (.fl 54 (.fl 55 (.fl 56 (.fl 57 (.mn 53 (.fl 58 (.fl 59 .fin)) .no))))))))) .no) .no) .no)))))))))) .no) .no) .no)))))))))) .no) .no))))))))))))))))))))))))) .n)))))) .n))))) (.s .n (.s (.r (.fl 0 (.fl 1 (.fl 2 (.fl 3 (.fl 5 (.fl 6 (.fl 7 (.fl 8 (.mn 4 (.mn 9 (.fl 10 (.fl 11 (.fl 12 (.fl 14 (.fl 15 (.fl 16 (.fl 17 (.mn 13 (.fl 18 (.fl 19 (.fl 20 (.mn 21 (.fl 22 (.fl 23 .fin)) .no)))) .no)))))))) .no) .no)))))))))) .n))))))))) [(6, T_law13_awake), (7, T_net_New), (8, T_ref4_NewNet), (9, T_net_Net_Put), (10, T_ref4_Net_Put), (11, T_net_Net_Cut), (12, T_ref4_Net_Cut), (13, T_net_Net_Arc), (14, T_ref4_Net_Find), (15, T_ref4_ArcsSame), (16, T_net_Net_All), (17, T_net_Net_Out), (18, T_ref4_Net_Out), (19, T_net_Net_In), (20, T_ref4_Net_In), (21, T_net_Net_Len), (22, T_net_Net_Copy)] ⟨⟨by kernel_rfl, S_law13_awake⟩, ⟨by kernel_rfl, S_net_New⟩, ⟨by kernel_rfl, S_ref4_NewNet⟩, ⟨by kernel_rfl, S_net_Net_Put⟩, ⟨by kernel_rfl, S_ref4_Net_Put⟩, ⟨by kernel_rfl, S_net_Net_Cut⟩, ⟨by kernel_rfl, S_ref4_Net_Cut⟩, ⟨by kernel_rfl, S_net_Net_Arc⟩, ⟨by kernel_rfl, S_ref4_Net_Find⟩, ⟨by kernel_rfl, S_ref4_ArcsSame⟩, ⟨by kernel_rfl, S_net_Net_All⟩, ⟨by kernel_rfl, S_net_Net_Out⟩, ⟨by kernel_rfl, S_ref4_Net_Out⟩, ⟨by kernel_rfl, S_net_Net_In⟩, ⟨by kernel_rfl, S_ref4_Net_In⟩, ⟨by kernel_rfl, S_net_Net_Len⟩, ⟨by kernel_rfl, S_net_Net_Copy⟩, trivial⟩ [.c (.int .i64), .c .slice, .c .slice] (by kernel_rfl) G_law13_NetActs fun t w K => by kernel_rfl

/-- milepost/milepostlaw13.arcs -/
def F_law13_arcs (n : Int) (l : Sl) (w : World) (Q : Sl → World → Prop) : Prop :=
  ∀ X1 : (Sl × Int × Unit) → World → Prop, (∀ (t1 : Sl × Int × Unit) (w1 : World), (
  cond (decide (t1.2.1 < ((l.l : Nat) : Int)))
  (cond (decide (n > (1 : Int)))
  ((0 ≤ t1.2.1 ∧ t1.2.1 < ((l.l : Nat) : Int)) ∧
  onSome l.b fun a1 =>
  (0 ≤ (0 : Int) ∧ (0 : Int) < ((3 : Nat) : Int)) ∧
  ld1 (.int .i64) w1.drew ((a1.add (Int.toNat t1.2.1 * 3)).add (Int.toNat (0 : Int) * 1)) fun (x1 : Int) =>
  (0 ≤ t1.2.1 ∧ t1.2.1 < ((l.l : Nat) : Int)) ∧
  onSome l.b fun a2 =>
  (0 ≤ (1 : Int) ∧ (1 : Int) < ((3 : Nat) : Int)) ∧
  ld1 (.int .i64) w1.drew ((a2.add (Int.toNat t1.2.1 * 3)).add (Int.toNat (1 : Int) * 1)) fun (x2 : Int) =>
  F_alike_Round x1 n w1.drew fun (x3 : Int) w2 =>
  w2.cell? ((a2.add (Int.toNat t1.2.1 * 3)).add (Int.toNat (1 : Int) * 1)) = some (Value.int .i64 x2) ∧
  F_alike_Round x2 n w2 fun (x4 : Int) w3 =>
  cond (x3 != x4)
  ((0 ≤ t1.2.1 ∧ t1.2.1 < ((l.l : Nat) : Int)) ∧
  onSome l.b fun a3 =>
  (0 ≤ (2 : Int) ∧ (2 : Int) < ((3 : Nat) : Int)) ∧
  ld1 (.int .i64) w3 ((a3.add (Int.toNat t1.2.1 * 3)).add (Int.toNat (2 : Int) * 1)) fun (x5 : Int) =>
  F_alike_Round x5 (20 : Int) w3 fun (x6 : Int) w4 =>
  allocD w4 #[Value.int .i64 x3, Value.int .i64 x4, Value.int .i64 (IntKind.wrap .i64 ((1 : Int) + x6)), Value.int .i64 (-1 : Int)] 32 fun a4 w5 =>
  appendD Try.prog 22 22 t1.1 (Value.slice (some a4) 1 1) w5 fun (s1 : Sl) w6 =>
  X1 (s1, (IntKind.wrap .i64 (t1.2.1 + (1 : Int))), ()) w6)
  (X1 (t1.1, (IntKind.wrap .i64 (t1.2.1 + (1 : Int))), ()) w3))
  (Q t1.1 w1))
  (Q t1.1 w1)) → X1 t1 w1) →
  X1 (⟨none, 0, 0⟩, (0 : Int), ()) w
def G_law13_arcs (t : KTs [.c (.int .i64), .c .slice]) (w : World) (K : Value → World → Prop) : Prop := F_law13_arcs t.1 t.2.1 w fun (r0 : Sl) w1 => K (Value.slice r0.b r0.l r0.c) w1
abbrev T_law13_arcs : Tr := fun args w K => decK [.c (.int .i64), .c .slice] args fun t => G_law13_arcs t w K
theorem S_law13_arcs : Sound Try.prog 24 T_law13_arcs := sound_of (fn := Try.f24) Try.func24 (by kernel_rfl) mixed (by kernel_rfl) (.s .n (.s .n (.s (.s .n (.b (.l [(5, .c .slice), (6, .c (.int .i64))] [5, 6, 7, 8, 9, 10, 11, 12, 13, 14, 15, 16, 17, 18, 19, 20, 21, 22, 23, 24, 25, 26, 27, 28, 29, 30, 31, 32, 33, 34, 35, 36, 37, 38, 39, 40, 41, 42, 43, 44, 45, 46, 47, 48] (.s .n (.s (.b (.s (.r (.fl 0 (.fl 1 (.fl 2 (.fl 3 (.fl 4 (.fl 5 (.fl 7 (.fl 8 (.fl 9 (.fl 10 (.fl 11 (.fl 12 (.mn 6 (.mn 13 (.fl 14 (.fl 15 .fin)) .no) .no)))))))))))))) .n)) .n))))) .n))) [(25, T_alike_Round)] ⟨⟨by kernel_rfl, S_alike_Round⟩, trivial⟩ [.c (.int .i64), .c .slice] (by kernel_rfl) G_law13_arcs fun t w K => by kernel_rfl

/-- milepost/milepostlaw13.made -/
def F_law13_made (n : Int) (l : Sl) (w : World) (Q : (Option Addr) → (Option Addr) → World → Prop) : Prop :=
  F_law13_arcs n l w fun (s1 : Sl) w1 =>
  F_net_New n s1 w1 fun (p1 : Option Addr) (x1 : Int) w2 =>
  cond (x1 != (0 : Int))
  (Q none none w2)
  (F_law13_arcs n l w2 fun (s2 : Sl) w3 =>
  F_ref4_NewNet n s2 w3 fun (p2 : Option Addr) w4 =>
  Q p1 p2 w4)
def G_law13_made (t : KTs [.c (.int .i64), .c .slice]) (w : World) (K : Value → World → Prop) : Prop := F_law13_made t.1 t.2.1 w fun (r0 : Option Addr) (r1 : Option Addr) w1 => K (Value.tuple #[(Value.pointer r0), (Value.pointer r1)]) w1
abbrev T_law13_made : Tr := fun args w K => decK [.c (.int .i64), .c .slice] args fun t => G_law13_made t w K
theorem S_law13_made : Sound Try.prog 23 T_law13_made := sound_of (fn := Try.f23) Try.func23 (by kernel_rfl) mixed (by kernel_rfl) (.n) [(7, T_net_New), (8, T_ref4_NewNet), (24, T_law13_arcs)] ⟨⟨by kernel_rfl, S_net_New⟩, ⟨by kernel_rfl, S_ref4_NewNet⟩, ⟨by kernel_rfl, S_law13_arcs⟩, trivial⟩ [.c (.int .i64), .c .slice] (by kernel_rfl) G_law13_made fun t w K => by kernel_rfl

/-- milepost/milepostlaw13.NetLightest -/
def F_law13_NetLightest (n : Int) (l : Sl) (w : World) (Q : Bool → World → Prop) : Prop :=
  cond (decide (n < (0 : Int)))
  (F_law13_awake  w fun (b1 : Bool) w1 =>
  Q b1 w1)
  (cond (decide (n > (40 : Int)))
  (F_law13_awake  w fun (b2 : Bool) w2 =>
  Q b2 w2)
  (cond (decide (((l.l : Nat) : Int) > (100 : Int)))
  (F_law13_awake  w fun (b3 : Bool) w3 =>
  Q b3 w3)
  (F_law13_made n l w fun (p1 : Option Addr) (_ : Option Addr) w4 =>
  cond (Option.isNone p1)
  (Q false w4)
  (mapNewD w4 fun m1 w5 =>
  F_law13_arcs n l w5 fun (s1 : Sl) w6 =>
  ∀ X1 : (Int × Unit) → World → Prop, (∀ (t1 : Int × Unit) (w7 : World), (
  cond (decide (t1.1 < ((s1.l : Nat) : Int)))
  ((0 ≤ t1.1 ∧ t1.1 < ((s1.l : Nat) : Int)) ∧
  onSome s1.b fun a1 =>
  ldN [.int .i64, .int .i64, .int .i64, .int .i64] w7 (a1.add (Int.toNat t1.1 * 4)) fun (t2 : Int × Int × Int × Int × Unit) =>
  allocD w7 #[Value.int .i64 (0 : Int), Value.int .i64 (0 : Int), Value.int .i64 (0 : Int), Value.int .i64 (0 : Int)] 32 fun a2 w8 =>
  storeD Try.prog 32 a2 (Value.agg #[(Value.int .i64 t2.1), (Value.int .i64 t2.2.1), (Value.int .i64 t2.2.2.1), (Value.int .i64 t2.2.2.2.1)]) w8 fun w9 =>
  ld1 (.int .i64) w9 (a2.add 0) fun (x1 : Int) =>
  ld1 (.int .i64) w9 (a2.add 1) fun (x2 : Int) =>
  lookup2D Try.prog (.c (.int .i64)) 52 (Value.map (some m1)) (Value.agg #[(Value.int .i64 x1), (Value.int .i64 x2)]) w9 fun (x3 : Int) (b4 : Bool) w10 =>
  cond (!b4)
  (ld1 (.int .i64) w10 (a2.add 0) fun (x4 : Int) =>
  ld1 (.int .i64) w10 (a2.add 1) fun (x5 : Int) =>
  ld1 (.int .i64) w10 (a2.add 2) fun (x6 : Int) =>
  mapUpdateD Try.prog 52 (Value.map (some m1)) (Value.agg #[(Value.int .i64 x4), (Value.int .i64 x5)]) (Value.int .i64 x6) w10 fun w11 =>
  X1 ((IntKind.wrap .i64 (t1.1 + (1 : Int))), ()) w11)
  (ld1 (.int .i64) w10 (a2.add 2) fun (x7 : Int) =>
  cond (decide (x7 < x3))
  (ld1 (.int .i64) w10 (a2.add 0) fun (x8 : Int) =>
  ld1 (.int .i64) w10 (a2.add 1) fun (x9 : Int) =>
  ld1 (.int .i64) w10 (a2.add 2) fun (x10 : Int) =>
  mapUpdateD Try.prog 52 (Value.map (some m1)) (Value.agg #[(Value.int .i64 x8), (Value.int .i64 x9)]) (Value.int .i64 x10) w10 fun w12 =>
  X1 ((IntKind.wrap .i64 (t1.1 + (1 : Int))), ()) w12)
  (X1 ((IntKind.wrap .i64 (t1.1 + (1 : Int))), ()) w10)))
  (F_net_Net_All p1 w7 fun (s2 : Sl) w13 =>
  ∀ X2 : (Int × Int × Int × Unit) → World → Prop, (∀ (t3 : Int × Int × Int × Unit) (w14 : World), (
  cond (decide (t3.2.2.1 < n))
  (F_net_Net_In p1 t3.2.2.1 w14 fun (s3 : Sl) w15 =>
  F_net_Net_Out p1 t3.2.2.1 w15 fun (s4 : Sl) w16 =>
  X2 ((IntKind.wrap .i64 (t3.1 + ((s3.l : Nat) : Int))), (IntKind.wrap .i64 (t3.2.1 + ((s4.l : Nat) : Int))), (IntKind.wrap .i64 (t3.2.2.1 + (1 : Int))), ()) w16)
  (∀ X3 : (Int × Unit) → World → Prop, (∀ (t4 : Int × Unit) (w17 : World), (
  cond (decide (t4.1 < ((s2.l : Nat) : Int)))
  ((0 ≤ t4.1 ∧ t4.1 < ((s2.l : Nat) : Int)) ∧
  onSome s2.b fun a3 =>
  ldN [.int .i64, .int .i64, .int .i64, .int .i64] w17 (a3.add (Int.toNat t4.1 * 4)) fun (t5 : Int × Int × Int × Int × Unit) =>
  allocD w17 #[Value.int .i64 (0 : Int), Value.int .i64 (0 : Int), Value.int .i64 (0 : Int), Value.int .i64 (0 : Int)] 32 fun a4 w18 =>
  storeD Try.prog 32 a4 (Value.agg #[(Value.int .i64 t5.1), (Value.int .i64 t5.2.1), (Value.int .i64 t5.2.2.1), (Value.int .i64 t5.2.2.2.1)]) w18 fun w19 =>
  ld1 (.int .i64) w19.drew (a4.add 0) fun (x11 : Int) =>
  ld1 (.int .i64) w19.drew (a4.add 1) fun (x12 : Int) =>
  ld1 (.int .i64) w19.drew (a4.add 2) fun (x13 : Int) =>
  lookup1D Try.prog (.c (.int .i64)) 52 (Value.map (some m1)) (Value.agg #[(Value.int .i64 x11), (Value.int .i64 x12)]) w19.drew fun (x14 : Int) w20 =>
  w20.cell? (a4.add 2) = some (Value.int .i64 x13) ∧
  cond (x14 != x13)
  (Q false w20)
  (cond (decide (t4.1 > (0 : Int)))
  ((0 ≤ IntKind.wrap .i64 (t4.1 - (1 : Int)) ∧ IntKind.wrap .i64 (t4.1 - (1 : Int)) < ((s2.l : Nat) : Int)) ∧
  onSome s2.b fun a5 =>
  ld1 (.int .i64) w20 ((a5.add (Int.toNat (IntKind.wrap .i64 (t4.1 - (1 : Int))) * 4)).add 0) fun (x15 : Int) =>
  ld1 (.int .i64) w20 (a4.add 0) fun (x16 : Int) =>
  cond (decide (x15 > x16))
  (Q false w20)
  ((0 ≤ IntKind.wrap .i64 (t4.1 - (1 : Int)) ∧ IntKind.wrap .i64 (t4.1 - (1 : Int)) < ((s2.l : Nat) : Int)) ∧
  onSome s2.b fun a6 =>
  ld1 (.int .i64) w20 ((a6.add (Int.toNat (IntKind.wrap .i64 (t4.1 - (1 : Int))) * 4)).add 0) fun (x17 : Int) =>
  ld1 (.int .i64) w20 (a4.add 0) fun (x18 : Int) =>
  cond (x17 == x18)
  ((0 ≤ IntKind.wrap .i64 (t4.1 - (1 : Int)) ∧ IntKind.wrap .i64 (t4.1 - (1 : Int)) < ((s2.l : Nat) : Int)) ∧
  onSome s2.b fun a7 =>
  ld1 (.int .i64) w20 ((a7.add (Int.toNat (IntKind.wrap .i64 (t4.1 - (1 : Int))) * 4)).add 1) fun (x19 : Int) =>
  ld1 (.int .i64) w20 (a4.add 1) fun (x20 : Int) =>
  cond (decide (x19 ≥ x20))
  (Q false w20)
  (X3 ((IntKind.wrap .i64 (t4.1 + (1 : Int))), ()) w20))
  (X3 ((IntKind.wrap .i64 (t4.1 + (1 : Int))), ()) w20)))
  (X3 ((IntKind.wrap .i64 (t4.1 + (1 : Int))), ()) w20)))
  (mapLenD Try.prog 52 (Value.map (some m1)) w17 fun (x21 : Int) w21 =>
  cond (((s2.l : Nat) : Int) == x21)
  (cond (t3.1 == ((s2.l : Nat) : Int))
  (cond (t3.2.1 == ((s2.l : Nat) : Int))
  (F_law13_awake  w21 fun (b5 : Bool) w22 =>
  Q b5 w22)
  (Q false w21))
  (Q false w21))
  (Q false w21))) → X3 t4 w17) →
  X3 ((0 : Int), ()) w14)) → X2 t3 w14) →
  X2 ((0 : Int), (0 : Int), (0 : Int), ()) w13)) → X1 t1 w7) →
  X1 ((0 : Int), ()) w6))))
def G_law13_NetLightest (t : KTs [.c (.int .i64), .c .slice]) (w : World) (K : Value → World → Prop) : Prop := F_law13_NetLightest t.1 t.2.1 w fun (r0 : Bool) w1 => K (Value.bool r0) w1
abbrev T_law13_NetLightest : Tr := fun args w K => decK [.c (.int .i64), .c .slice] args fun t => G_law13_NetLightest t w K
theorem S_law13_NetLightest : Sound Try.prog 4 T_law13_NetLightest := sound_of (fn := Try.f4) Try.func4 (by kernel_rfl) mixed (by kernel_rfl) (.s .n (.s .n (.s .n (.s .n (.s .n (.s (.s .n (.b (.l [(43, .c (.int .i64))] [9, 10, 11, 43, 44, 45, 46, 47, 48, 49, 50, 51, 52, 53, 54, 55, 56, 57, 58, 59, 60, 61, 62, 63, 64, 65, 66, 67, 68, 69, 70, 71, 72, 73] .n))) (.s .n (.s .n (.s (.s .n (.b (.l [(13, .c (.int .i64)), (14, .c (.int .i64)), (15, .c (.int .i64))] [13, 14, 15, 76, 77, 78, 79, 80, 81, 82, 83, 84, 85, 86, 87, 88, 89, 90, 91, 92] .n))) (.s (.s .n (.b (.l [(16, .c (.int .i64))] [4, 16, 17, 93, 94, 95, 96, 97, 98, 99, 100, 101, 102, 103, 104, 105, 106, 107, 108, 109, 110, 111, 112, 113, 114, 115, 116, 117, 118, 119, 120, 121, 122, 123, 124, 125, 126, 127, 128, 129, 130, 131, 132, 133, 134, 135, 136, 137, 138, 139, 140, 141, 142, 143, 144, 145, 146, 147, 148, 149] (.s .n (.s (.b (.s .n (.s (.r (.fl 0 (.fl 1 (.fl 2 (.fl 3 (.fl 4 (.fl 5 (.fl 7 (.fl 8 (.mn 6 (.fl 9 (.fl 10 (.fl 11 (.fl 12 (.fl 13 (.fl 14 (.fl 15 (.fl 16 (.fl 17 (.fl 18 (.fl 19 (.fl 20 (.fl 21 (.fl 22 (.fl 23 (.fl 24 (.fl 25 (.fl 26 (.fl 27 (.fl 28 (.fl 29 (.fl 30 (.fl 31 (.fl 32 (.fl 33 (.fl 34 (.fl 35 (.fl 36 (.fl 37 (.fl 38 (.fl 39 (.fl 40 (.fl 41 (.fl 42 (.fl 43 (.fl 44 (.fl 45 (.fl 46 .fin)))))))))))))))))))))))))))))))))))))) .no)))))))))) .n))) .n))))) .n)))))))))) [(6, T_law13_awake), (16, T_net_Net_All), (17, T_net_Net_Out), (19, T_net_Net_In), (23, T_law13_made), (24, T_law13_arcs)] ⟨⟨by kernel_rfl, S_law13_awake⟩, ⟨by kernel_rfl, S_net_Net_All⟩, ⟨by kernel_rfl, S_net_Net_Out⟩, ⟨by kernel_rfl, S_net_Net_In⟩, ⟨by kernel_rfl, S_law13_made⟩, ⟨by kernel_rfl, S_law13_arcs⟩, trivial⟩ [.c (.int .i64), .c .slice] (by kernel_rfl) G_law13_NetLightest fun t w K => by kernel_rfl

/-- milepost/milepostlaw13.NetCuts -/
def F_law13_NetCuts (n : Int) (l : Sl) (cuts : Sl) (w : World) (Q : Bool → World → Prop) : Prop :=
  cond (decide (n < (1 : Int)))
  (F_law13_awake  w fun (b1 : Bool) w1 =>
  Q b1 w1)
  (cond (decide (n > (40 : Int)))
  (F_law13_awake  w fun (b2 : Bool) w2 =>
  Q b2 w2)
  (cond (decide (((l.l : Nat) : Int) > (100 : Int)))
  (F_law13_awake  w fun (b3 : Bool) w3 =>
  Q b3 w3)
  (cond (decide (((cuts.l : Nat) : Int) > (20 : Int)))
  (F_law13_awake  w fun (b4 : Bool) w4 =>
  Q b4 w4)
  (F_law13_made n l w fun (p1 : Option Addr) (_ : Option Addr) w5 =>
  cond (Option.isNone p1)
  (Q false w5)
  (F_net_Net_All p1 w5 fun (s1 : Sl) w6 =>
  F_net_Net_Copy p1 w6 fun (p3 : Option Addr) w7 =>
  cond (Option.isNone p3)
  (Q false w7)
  (makeSliceD Try.prog 57 (Value.int .i64 n) (Value.int .i64 n) w7 fun (s2 : Sl) w8 =>
  ∀ X1 : (Int × Unit) → World → Prop, (∀ (t1 : Int × Unit) (w9 : World), (
  cond (decide (t1.1 < ((cuts.l : Nat) : Int)))
  ((0 ≤ t1.1 ∧ t1.1 < ((cuts.l : Nat) : Int)) ∧
  onSome cuts.b fun a1 =>
  ld1 (.int .i64) w9 (a1.add (Int.toNat t1.1 * 1)) fun (x1 : Int) =>
  F_alike_Round x1 n w9 fun (x2 : Int) w10 =>
  F_net_Net_Cut p1 x2 w10 fun w11 =>
  (0 ≤ x2 ∧ x2 < ((s2.l : Nat) : Int)) ∧
  onSome s2.b fun a2 =>
  storeD Try.prog 4 (a2.add (Int.toNat x2 * 1)) (Value.bool true) w11 fun w12 =>
  F_net_Net_In p1 x2 w12 fun (s3 : Sl) w13 =>
  F_net_Net_Out p1 x2 w13 fun (s4 : Sl) w14 =>
  cond ((IntKind.wrap .i64 (((s3.l : Nat) : Int) + ((s4.l : Nat) : Int))) != (0 : Int))
  (Q false w14)
  (X1 ((IntKind.wrap .i64 (t1.1 + (1 : Int))), ()) w14))
  (∀ X2 : (Sl × Int × Unit) → World → Prop, (∀ (t2 : Sl × Int × Unit) (w15 : World), (
  cond (decide (t2.2.1 < ((s1.l : Nat) : Int)))
  ((0 ≤ t2.2.1 ∧ t2.2.1 < ((s1.l : Nat) : Int)) ∧
  onSome s1.b fun a3 =>
  ld1 (.int .i64) w15 ((a3.add (Int.toNat t2.2.1 * 4)).add 0) fun (x3 : Int) =>
  cond (decide (x3 < (0 : Int)))
  (Q false w15)
  ((0 ≤ t2.2.1 ∧ t2.2.1 < ((s1.l : Nat) : Int)) ∧
  onSome s1.b fun a4 =>
  ld1 (.int .i64) w15 ((a4.add (Int.toNat t2.2.1 * 4)).add 0) fun (x4 : Int) =>
  cond (decide (x4 ≥ n))
  (Q false w15)
  ((0 ≤ t2.2.1 ∧ t2.2.1 < ((s1.l : Nat) : Int)) ∧
  onSome s1.b fun a5 =>
  ld1 (.int .i64) w15 ((a5.add (Int.toNat t2.2.1 * 4)).add 1) fun (x5 : Int) =>
  cond (decide (x5 < (0 : Int)))
  (Q false w15)
  ((0 ≤ t2.2.1 ∧ t2.2.1 < ((s1.l : Nat) : Int)) ∧
  onSome s1.b fun a6 =>
  ld1 (.int .i64) w15 ((a6.add (Int.toNat t2.2.1 * 4)).add 1) fun (x6 : Int) =>
  cond (decide (x6 ≥ n))
  (Q false w15)
  ((0 ≤ t2.2.1 ∧ t2.2.1 < ((s1.l : Nat) : Int)) ∧
  onSome s1.b fun a7 =>
  ld1 (.int .i64) w15 ((a7.add (Int.toNat t2.2.1 * 4)).add 0) fun (x7 : Int) =>
  (0 ≤ x7 ∧ x7 < ((s2.l : Nat) : Int)) ∧
  onSome s2.b fun a8 =>
  ld1 .bool w15 (a8.add (Int.toNat x7 * 1)) fun (b5 : Bool) =>
  cond (!b5)
  ((0 ≤ t2.2.1 ∧ t2.2.1 < ((s1.l : Nat) : Int)) ∧
  onSome s1.b fun a9 =>
  ld1 (.int .i64) w15 ((a9.add (Int.toNat t2.2.1 * 4)).add 1) fun (x8 : Int) =>
  (0 ≤ x8 ∧ x8 < ((s2.l : Nat) : Int)) ∧
  onSome s2.b fun a10 =>
  ld1 .bool w15 (a10.add (Int.toNat x8 * 1)) fun (b6 : Bool) =>
  cond (!b6)
  ((0 ≤ t2.2.1 ∧ t2.2.1 < ((s1.l : Nat) : Int)) ∧
  onSome s1.b fun a11 =>
  ldN [.int .i64, .int .i64, .int .i64, .int .i64] w15 (a11.add (Int.toNat t2.2.1 * 4)) fun (t3 : Int × Int × Int × Int × Unit) =>
  allocD w15 #[Value.int .i64 t3.1, Value.int .i64 t3.2.1, Value.int .i64 t3.2.2.1, Value.int .i64 t3.2.2.2.1] 32 fun a12 w16 =>
  appendD Try.prog 22 22 t2.1 (Value.slice (some a12) 1 1) w16 fun (s5 : Sl) w17 =>
  X2 (s5, (IntKind.wrap .i64 (t2.2.1 + (1 : Int))), ()) w17)
  (X2 (t2.1, (IntKind.wrap .i64 (t2.2.1 + (1 : Int))), ()) w15))
  (X2 (t2.1, (IntKind.wrap .i64 (t2.2.1 + (1 : Int))), ()) w15))))))
  (F_net_Net_All p1 w15 fun (s6 : Sl) w18 =>
  F_ref4_ArcsSame s6 t2.1 w18 fun (b7 : Bool) w19 =>
  cond b7
  (F_net_Net_All p3 w19 fun (s7 : Sl) w20 =>
  F_ref4_ArcsSame s7 s1 w20 fun (b8 : Bool) w21 =>
  cond b8
  (F_net_Net_Len p1 w21 fun (x9 : Int) w22 =>
  cond (x9 == n)
  (F_law13_awake  w22 fun (b9 : Bool) w23 =>
  Q b9 w23)
  (Q false w22))
  (Q false w21))
  (Q false w19))) → X2 t2 w15) →
  X2 (⟨none, 0, 0⟩, (0 : Int), ()) w9)) → X1 t1 w9) →
  X1 ((0 : Int), ()) w8))))))
def G_law13_NetCuts (t : KTs [.c (.int .i64), .c .slice, .c .slice]) (w : World) (K : Value → World → Prop) : Prop := F_law13_NetCuts t.1 t.2.1 t.2.2.1 w fun (r0 : Bool) w1 => K (Value.bool r0) w1
abbrev T_law13_NetCuts : Tr := fun args w K => decK [.c (.int .i64), .c .slice, .c .slice] args fun t => G_law13_NetCuts t w K
theorem S_law13_NetCuts : Sound Try.prog 5 T_law13_NetCuts := sound_of (fn := Try.f5) Try.func5 (by kernel_rfl) mixed (by kernel_rfl) (.s .n (.s .n (.s .n (.s .n (.s .n (.s .n (.s .n (.s .n (.s (.s .n (.b (.l [(12, .c (.int .i64))] [6, 12, 13, 49, 50, 51, 52, 53, 54, 55, 56, 57, 58, 59, 60, 61, 62, 63, 64, 65, 66, 67, 68, 69, 70, 71, 72, 73, 74, 75, 76] .n))) (.s .n (.s (.s .n (.b (.l [(14, .c .slice), (15, .c (.int .i64))] [6, 14, 15, 77, 78, 79, 80, 81, 82, 83, 84, 85, 86, 87, 88, 89, 90, 91, 92, 93, 94, 95, 96, 97, 98, 99, 100, 101, 102, 103, 104, 105, 106, 107, 108, 109, 110, 111, 112, 113, 114, 115, 116, 117, 118, 119, 120, 121, 122, 123, 124, 125, 126, 127, 128, 129, 130, 131, 132, 133, 134, 135, 136, 137, 138, 139, 140, 141] .n))) .n))))))))))) [(6, T_law13_awake), (11, T_net_Net_Cut), (15, T_ref4_ArcsSame), (16, T_net_Net_All), (17, T_net_Net_Out), (19, T_net_Net_In), (21, T_net_Net_Len), (22, T_net_Net_Copy), (23, T_law13_made), (25, T_alike_Round)] ⟨⟨by kernel_rfl, S_law13_awake⟩, ⟨by kernel_rfl, S_net_Net_Cut⟩, ⟨by kernel_rfl, S_ref4_ArcsSame⟩, ⟨by kernel_rfl, S_net_Net_All⟩, ⟨by kernel_rfl, S_net_Net_Out⟩, ⟨by kernel_rfl, S_net_Net_In⟩, ⟨by kernel_rfl, S_net_Net_Len⟩, ⟨by kernel_rfl, S_net_Net_Copy⟩, ⟨by kernel_rfl, S_law13_made⟩, ⟨by kernel_rfl, S_alike_Round⟩, trivial⟩ [.c (.int .i64), .c .slice, .c .slice] (by kernel_rfl) G_law13_NetCuts fun t w K => by kernel_rfl

end Go.Proofs.Ytelbklglflhleaa
