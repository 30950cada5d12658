import Derived.Test.YtljiijljeipdhaaGreatA1
import Derived.Test.YtljiijljeipdhaaGreatFBase
import Derived.Test.YtljiijljeipdhaaGreatFNet
import Derived.Test.YtljiijljeipdhaaGreatFSea
import Derived.Test.YtljiijljeipdhaaGreatFGra
import Derived.Test.YtljiijljeipdhaaGreatFEng
import Derived.Test.YtljiijljeipdhaaGreatFWay
import Derived.Test.YtljiijljeipdhaaGreatFTow
namespace Go.Proofs.YtljiijljeipdhaaGreat
open Go Go.Den
set_option maxRecDepth 100000
/-- milepost/milepostlaw20.awake -/
def F_law20_awake  (w : World) (Q : Bool → World → Prop) : Prop :=
  allocD w #[Value.int .i64 (3 : Int), Value.int .i64 (3 : Int), Value.int .i64 (5 : Int)] 3 fun a1 w1 =>
  F_ref24_Town ⟨(some a1), 3, 3⟩ w1 fun (t1 : Sl × Sl × Sl × Unit) w2 =>
  allocD w2 #[Value.slice none 0 0, Value.slice none 0 0, Value.slice none 0 0] 30 fun a2 w3 =>
  storeD Tryz.prog 30 a2 (Value.agg #[(Value.slice t1.1.b t1.1.l t1.1.c), (Value.slice t1.2.1.b t1.2.1.l t1.2.1.c), (Value.slice t1.2.2.1.b t1.2.2.1.l t1.2.2.1.c)]) w3 fun w4 =>
  ldN [.slice, .slice, .slice] w4 a2 fun (t2 : Sl × Sl × Sl × Unit) =>
  F_engine_New (t2.1, t2.2.1, t2.2.2.1, ()) w4 fun (p1 : Option Addr) (x1 : Int) w5 =>
  F_engine_New (⟨none, 0, 0⟩, ⟨none, 0, 0⟩, ⟨none, 0, 0⟩, ()) w5 fun (_ : Option Addr) (x2 : Int) w6 =>
  cond (x1 != (0 : Int))
  (Q false w6)
  (cond (Option.isNone p1)
  (Q false w6)
  (ld1 .slice w6 (a2.add 1) fun (s1 : Sl) =>
  (0 ≤ (0 : Int) ∧ (0 : Int) < ((s1.l : Nat) : Int)) ∧
  onSome s1.b fun a3 =>
  ld1 (.int .i64) w6 ((a3.add (Int.toNat (0 : Int) * 3)).add 1) fun (x3 : Int) =>
  F_engine_Engine_Way p1 (0 : Int) x3 ⟨none, 0, 0⟩ w6 fun (t3 : Sl × Int × Bool × Bool × Unit) w7 =>
  allocD w7 #[Value.slice none 0 0, Value.int .i64 (0 : Int), Value.bool false, Value.bool false] 42 fun a4 w8 =>
  storeD Tryz.prog 42 a4 (Value.agg #[(Value.slice t3.1.b t3.1.l t3.1.c), (Value.int .i64 t3.2.1), (Value.bool t3.2.2.1), (Value.bool t3.2.2.2.1)]) w8 fun w9 =>
  F_engine_Engine_Way p1 (0 : Int) (99 : Int) ⟨none, 0, 0⟩ w9 fun (t4 : Sl × Int × Bool × Bool × Unit) w10 =>
  allocD w10 #[Value.slice none 0 0, Value.int .i64 (0 : Int), Value.bool false, Value.bool false] 42 fun a5 w11 =>
  storeD Tryz.prog 42 a5 (Value.agg #[(Value.slice t4.1.b t4.1.l t4.1.c), (Value.int .i64 t4.2.1), (Value.bool t4.2.2.1), (Value.bool t4.2.2.2.1)]) w11 fun w12 =>
  cond (x2 == (1 : Int))
  (ld1 .bool w12.drew (a4.add 2) fun (b1 : Bool) =>
  cond b1
  (ld1 (.int .i64) w12.drew (a4.add 1) fun (x4 : Int) =>
  cond (x4 == (0 : Int))
  (ld1 .slice w12.drew (a4.add 0) fun (s2 : Sl) =>
  cond (((s2.l : Nat) : Int) == (0 : Int))
  (ld1 .bool w12.drew (a4.add 3) fun (b2 : Bool) =>
  cond (!b2)
  (ld1 .bool w12.drew (a5.add 2) fun (b3 : Bool) =>
  cond (!b3)
  (F_engine_Engine_Way none (0 : Int) (0 : Int) ⟨none, 0, 0⟩ w12.drew fun (t5 : Sl × Int × Bool × Bool × Unit) w13 =>
  cond (!t5.2.2.1)
  (F_engine_Engine_Levels p1 w13 fun (p3 : Option Addr) w14 =>
  cond (!(Option.isNone p3))
  (onSome p1 fun a6 =>
  ld1 .ptr w14 (a6.add 0) fun (p4 : Option Addr) =>
  onSome p4 fun a7 =>
  ld1 .ptr w14 (a7.add 0) fun (p5 : Option Addr) =>
  ld1 .slice w14 (a2.add 1) fun (s3 : Sl) =>
  F_graph_Graph_Edges p5 w14 fun (x5 : Int) w15 =>
  w15.cell? (a2.add 1) = some (Value.slice s3.b s3.l s3.c) ∧
  Q (x5 == ((s3.l : Nat) : Int)) w15)
  (Q false w14))
  (Q false w13))
  (Q false w12.drew))
  (Q false w12.drew))
  (Q false w12.drew))
  (Q false w12.drew))
  (Q false w12.drew))
  (Q false w12.drew)))
def G_law20_awake (_ : KTs []) (w : World) (K : Value → World → Prop) : Prop := F_law20_awake  w fun (r0 : Bool) w1 => K (Value.bool r0) w1
abbrev T_law20_awake : Tr := fun args w K => decK [] args fun t => G_law20_awake t w K
theorem S_law20_awake : Sound Tryz.prog 6 T_law20_awake := sound_of (fn := Tryz.f6) Tryz.func6 (by kernel_rfl) mixed (by kernel_rfl) (.s .n (.s .n (.s .n (.s .n (.s .n (.s .n (.s .n (.s .n (.s (.r (.fl 0 (.fl 1 (.fl 2 (.fl 3 (.fl 4 (.fl 5 (.fl 6 (.fl 7 (.fl 8 (.fl 9 (.fl 10 (.fl 11 (.fl 12 (.fl 13 (.fl 14 (.fl 15 (.fl 16 (.fl 17 (.fl 18 (.fl 19 (.fl 20 (.fl 21 (.fl 22 (.fl 23 (.fl 24 (.fl 25 (.fl 26 (.fl 27 (.fl 28 (.mn 29 (.fl 30 (.fl 31 (.fl 32 (.fl 33 (.fl 34 (.mn 35 (.fl 36 (.fl 37 (.fl 38 (.fl 39 (.fl 40 (.fl 41 (.fl 42 (.fl 43 (.fl 44 (.fl 45 (.fl 47 (.fl 48 (.fl 49 (.mn 46 (.fl 50 (.fl 51 (.fl 52 .fin))) .no)))))))))))))) .no)))))) .no))))))))))))))))))))))))))))))) .n))))))))) [(7, T_ref24_Town), (8, T_engine_New), (12, T_engine_Engine_Way), (18, T_engine_Engine_Levels), (21, T_graph_Graph_Edges)] ⟨⟨by kernel_rfl, S_ref24_Town⟩, ⟨by kernel_rfl, S_engine_New⟩, ⟨by kernel_rfl, S_engine_Engine_Way⟩, ⟨by kernel_rfl, S_engine_Engine_Levels⟩, ⟨by kernel_rfl, S_graph_Graph_Edges⟩, trivial⟩ [] (by kernel_rfl) G_law20_awake fun t w K => by kernel_rfl

/-- milepost/milepostlaw20.same -/
def F_law20_same (a : Sl × Int × Bool × Bool × Unit) (b : Sl × Int × Bool × Bool × Unit) (w : World) (Q : Bool → World → Prop) : Prop :=
  allocD w #[Value.slice a.1.b a.1.l a.1.c, Value.int .i64 a.2.1, Value.bool a.2.2.1, Value.bool a.2.2.2.1] 42 fun a1 w1 =>
  allocD w1 #[Value.slice b.1.b b.1.l b.1.c, Value.int .i64 b.2.1, Value.bool b.2.2.1, Value.bool b.2.2.2.1] 44 fun a2 w2 =>
  ld1 .slice w2 (a1.add 0) fun (s1 : Sl) =>
  ld1 .slice w2 (a2.add 0) fun (s2 : Sl) =>
  F_alike_Ints s1 s2 w2 fun (b1 : Bool) w3 =>
  cond b1
  (ld1 (.int .i64) w3 (a1.add 1) fun (x1 : Int) =>
  ld1 (.int .i64) w3 (a2.add 1) fun (x2 : Int) =>
  cond (x1 == x2)
  (ld1 .bool w3 (a1.add 2) fun (b2 : Bool) =>
  ld1 .bool w3 (a2.add 2) fun (b3 : Bool) =>
  cond (b2 == b3)
  (ld1 .bool w3 (a1.add 3) fun (b4 : Bool) =>
  ld1 .bool w3 (a2.add 3) fun (b5 : Bool) =>
  Q (b4 == b5) w3)
  (Q false w3))
  (Q false w3))
  (Q false w3)
def G_law20_same (t : KTs [.agg [.slice, .int .i64, .bool, .bool], .agg [.slice, .int .i64, .bool, .bool]]) (w : World) (K : Value → World → Prop) : Prop := F_law20_same t.1 t.2.1 w fun (r0 : Bool) w1 => K (Value.bool r0) w1
abbrev T_law20_same : Tr := fun args w K => decK [.agg [.slice, .int .i64, .bool, .bool], .agg [.slice, .int .i64, .bool, .bool]] args fun t => G_law20_same t w K
theorem S_law20_same : Sound Tryz.prog 11 T_law20_same := sound_of (fn := Tryz.f11) Tryz.func11 (by kernel_rfl) mixed (by kernel_rfl) (.n) [(17, T_alike_Ints)] ⟨⟨by kernel_rfl, S_alike_Ints⟩, trivial⟩ [.agg [.slice, .int .i64, .bool, .bool], .agg [.slice, .int .i64, .bool, .bool]] (by kernel_rfl) G_law20_same fun t w K => by kernel_rfl

/-- milepost/milepostlaw20.EngineTells -/
def F_law20_EngineTells (l : Sl) (asks : Sl) (shut : Sl) (w : World) (Q : Bool → World → Prop) : Prop :=
  cond (decide (((l.l : Nat) : Int) > (100 : Int)))
  (F_law20_awake  w fun (b1 : Bool) w1 =>
  Q b1 w1)
  (cond (decide (((asks.l : Nat) : Int) > (12 : Int)))
  (F_law20_awake  w fun (b2 : Bool) w2 =>
  Q b2 w2)
  (cond (decide (((shut.l : Nat) : Int) > (12 : Int)))
  (F_law20_awake  w fun (b3 : Bool) w3 =>
  Q b3 w3)
  (F_ref24_Town l w fun (t1 : Sl × Sl × Sl × Unit) w4 =>
  allocD w4 #[Value.slice none 0 0, Value.slice none 0 0, Value.slice none 0 0] 30 fun a1 w5 =>
  storeD Tryz.prog 30 a1 (Value.agg #[(Value.slice t1.1.b t1.1.l t1.1.c), (Value.slice t1.2.1.b t1.2.1.l t1.2.1.c), (Value.slice t1.2.2.1.b t1.2.2.1.l t1.2.2.1.c)]) w5 fun w6 =>
  ldN [.slice, .slice, .slice] w6 a1 fun (t2 : Sl × Sl × Sl × Unit) =>
  F_engine_New (t2.1, t2.2.1, t2.2.2.1, ()) w6 fun (p1 : Option Addr) (x1 : Int) w7 =>
  cond (x1 != (0 : Int))
  (Q false w7)
  (cond (Option.isNone p1)
  (Q false w7)
  (∀ X1 : (Int × Unit) → World → Prop, (∀ (t3 : Int × Unit) (w8 : World), (
  cond (decide (t3.1 < ((asks.l : Nat) : Int)))
  (∀ J1 : (Sl × Unit) → World → Prop, (∀ (t4 : Sl × Unit) (w9 : World), (
  (0 ≤ t3.1 ∧ t3.1 < ((asks.l : Nat) : Int)) ∧
  onSome asks.b fun a2 =>
  (0 ≤ (0 : Int) ∧ (0 : Int) < ((2 : Nat) : Int)) ∧
  ld1 (.int .i64) w9.drew ((a2.add (Int.toNat t3.1 * 2)).add (Int.toNat (0 : Int) * 1)) fun (x2 : Int) =>
  ld1 .slice w9.drew (a1.add 1) fun (s1 : Sl) =>
  (0 ≤ t3.1 ∧ t3.1 < ((asks.l : Nat) : Int)) ∧
  onSome asks.b fun a3 =>
  (0 ≤ (1 : Int) ∧ (1 : Int) < ((2 : Nat) : Int)) ∧
  ld1 (.int .i64) w9.drew ((a3.add (Int.toNat t3.1 * 2)).add (Int.toNat (1 : Int) * 1)) fun (x3 : Int) =>
  ld1 .slice w9.drew (a1.add 0) fun (s2 : Sl) =>
  F_alike_Round x2 (IntKind.wrap .i64 (((s1.l : Nat) : Int) + (1 : Int))) w9.drew fun (x4 : Int) w10 =>
  w10.cell? (a1.add 0) = some (Value.slice s2.b s2.l s2.c) ∧
  w10.cell? ((a3.add (Int.toNat t3.1 * 2)).add (Int.toNat (1 : Int) * 1)) = some (Value.int .i64 x3) ∧
  F_alike_Round x3 (IntKind.wrap .i64 (((s2.l : Nat) : Int) + (1 : Int))) w10 fun (x5 : Int) w11 =>
  ldN [.slice, .slice, .slice] w11.drew a1 fun (t5 : Sl × Sl × Sl × Unit) =>
  F_engine_Engine_Way p1 x4 x5 t4.1 w11.drew fun (t6 : Sl × Int × Bool × Bool × Unit) w12 =>
  HoldsAt w12 a1 0 [Value.slice t5.1.b t5.1.l t5.1.c, Value.slice t5.2.1.b t5.2.1.l t5.2.1.c, Value.slice t5.2.2.1.b t5.2.2.1.l t5.2.2.1.c] ∧
  F_ref4_Ask (t5.1, t5.2.1, t5.2.2.1, ()) x4 x5 t4.1 w12 fun (t7 : Sl × Int × Bool × Bool × Unit) w13 =>
  F_law20_same (t6.1, t6.2.1, t6.2.2.1, t6.2.2.2.1, ()) (t7.1, t7.2.1, t7.2.2.1, t7.2.2.2.1, ()) w13 fun (b4 : Bool) w14 =>
  cond (!b4)
  (Q false w14)
  ((0 ≤ t3.1 ∧ t3.1 < ((asks.l : Nat) : Int)) ∧
  onSome asks.b fun a4 =>
  (0 ≤ (0 : Int) ∧ (0 : Int) < ((2 : Nat) : Int)) ∧
  ld1 (.int .i64) w14 ((a4.add (Int.toNat t3.1 * 2)).add (Int.toNat (0 : Int) * 1)) fun (x6 : Int) =>
  (0 ≤ t3.1 ∧ t3.1 < ((asks.l : Nat) : Int)) ∧
  onSome asks.b fun a5 =>
  (0 ≤ (1 : Int) ∧ (1 : Int) < ((2 : Nat) : Int)) ∧
  ld1 (.int .i64) w14 ((a5.add (Int.toNat t3.1 * 2)).add (Int.toNat (1 : Int) * 1)) fun (x7 : Int) =>
  ldN [.slice, .slice, .slice] w14 a1 fun (t8 : Sl × Sl × Sl × Unit) =>
  (0 ≤ t3.1 ∧ t3.1 < ((asks.l : Nat) : Int)) ∧
  onSome asks.b fun a6 =>
  (0 ≤ (0 : Int) ∧ (0 : Int) < ((2 : Nat) : Int)) ∧
  ld1 (.int .i64) w14 ((a6.add (Int.toNat t3.1 * 2)).add (Int.toNat (0 : Int) * 1)) fun (x8 : Int) =>
  (0 ≤ t3.1 ∧ t3.1 < ((asks.l : Nat) : Int)) ∧
  onSome asks.b fun a7 =>
  (0 ≤ (1 : Int) ∧ (1 : Int) < ((2 : Nat) : Int)) ∧
  ld1 (.int .i64) w14 ((a7.add (Int.toNat t3.1 * 2)).add (Int.toNat (1 : Int) * 1)) fun (x9 : Int) =>
  F_engine_Engine_Way p1 x6 x7 t4.1 w14 fun (t9 : Sl × Int × Bool × Bool × Unit) w15 =>
  w15.cell? ((a7.add (Int.toNat t3.1 * 2)).add (Int.toNat (1 : Int) * 1)) = some (Value.int .i64 x9) ∧
  w15.cell? ((a6.add (Int.toNat t3.1 * 2)).add (Int.toNat (0 : Int) * 1)) = some (Value.int .i64 x8) ∧
  HoldsAt w15 a1 0 [Value.slice t8.1.b t8.1.l t8.1.c, Value.slice t8.2.1.b t8.2.1.l t8.2.1.c, Value.slice t8.2.2.1.b t8.2.2.1.l t8.2.2.1.c] ∧
  F_ref4_Ask (t8.1, t8.2.1, t8.2.2.1, ()) x8 x9 t4.1 w15 fun (t10 : Sl × Int × Bool × Bool × Unit) w16 =>
  F_law20_same (t9.1, t9.2.1, t9.2.2.1, t9.2.2.2.1, ()) (t10.1, t10.2.1, t10.2.2.1, t10.2.2.2.1, ()) w16 fun (b5 : Bool) w17 =>
  cond (!b5)
  (Q false w17)
  (X1 ((IntKind.wrap .i64 (t3.1 + (1 : Int))), ()) w17))) → J1 t4 w9) →
  cond (decide (t3.1 < ((shut.l : Nat) : Int)))
  ((0 ≤ t3.1 ∧ t3.1 < ((shut.l : Nat) : Int)) ∧
  onSome shut.b fun a8 =>
  ld1 .slice w8 (a8.add (Int.toNat t3.1 * 1)) fun (s3 : Sl) =>
  cond (decide (((s3.l : Nat) : Int) > (40 : Int)))
  (F_law20_awake  w8 fun (b6 : Bool) w18 =>
  Q b6 w18)
  (ldN [.slice, .slice, .slice] w8.drew a1 fun (t11 : Sl × Sl × Sl × Unit) =>
  (0 ≤ t3.1 ∧ t3.1 < ((shut.l : Nat) : Int)) ∧
  onSome shut.b fun a9 =>
  ld1 .slice w8.drew (a9.add (Int.toNat t3.1 * 1)) fun (s4 : Sl) =>
  F_ref24_Shut (t11.1, t11.2.1, t11.2.2.1, ()) s4 w8.drew fun (s5 : Sl) w19 =>
  J1 (s5, ()) w19))
  (J1 (⟨none, 0, 0⟩, ()) w8))
  (F_law20_awake  w8 fun (b7 : Bool) w20 =>
  Q b7 w20)) → X1 t3 w8) →
  X1 ((0 : Int), ()) w7)))))
def G_law20_EngineTells (t : KTs [.c .slice, .c .slice, .c .slice]) (w : World) (K : Value → World → Prop) : Prop := F_law20_EngineTells t.1 t.2.1 t.2.2.1 w fun (r0 : Bool) w1 => K (Value.bool r0) w1
abbrev T_law20_EngineTells : Tr := fun args w K => decK [.c .slice, .c .slice, .c .slice] args fun t => G_law20_EngineTells t w K
theorem S_law20_EngineTells : Sound Tryz.prog 3 T_law20_EngineTells := sound_of (fn := Tryz.f3) Tryz.func3 (by kernel_rfl) mixed (by kernel_rfl) (.s .n (.s .n (.s .n (.s .n (.s .n (.s (.s .n (.b (.l [(10, .c (.int .i64))] [6, 10, 11, 12, 13, 41, 42, 43, 44, 45, 46, 47, 48, 49, 50, 51, 52, 53, 54, 55, 56, 57, 58, 59, 60, 61, 62, 63, 64, 65, 66, 67, 68, 69, 70, 71, 72, 73, 74, 75, 76, 77, 78, 79, 80, 81, 82, 83, 84, 85, 86, 87, 88, 89, 90, 91, 92, 93, 94, 95, 96, 97, 98, 99, 100, 101, 102, 103, 104, 105, 106, 107, 108, 109, 110, 111, 112, 113, 114, 115, 116, 117, 118, 119, 120, 121, 122, 123, 124, 125] (.s .n (.s (.b (.s .n (.j [(11, .c .slice)] [6, 11, 47, 48, 49, 50, 51, 52, 53, 54, 55, 56, 57, 58, 59, 60, 61, 62, 63] (.s .n (.c (.s .n (.r (.fl 0 (.fl 1 (.fl 2 (.fl 3 (.fl 4 (.mn 5 (.fl 6 .fin) .no)))))))) .n)) (.s (.r (.fl 0 (.fl 1 (.fl 2 (.fl 3 (.fl 4 (.fl 5 (.fl 6 (.fl 7 (.fl 8 (.fl 10 (.fl 11 (.fl 12 (.fl 13 (.fl 14 (.fl 15 (.fl 16 (.fl 17 (.fl 18 (.mn 9 (.mn 19 (.fl 20 (.fl 21 .fin)) .no) .no)))))))))))))))))))) (.s (.r (.fl 0 (.fl 1 (.fl 2 (.fl 3 (.fl 5 (.fl 6 (.fl 7 (.fl 8 (.mn 4 (.mn 9 (.mn 10 (.fl 11 (.fl 12 (.fl 13 (.fl 14 (.fl 15 (.fl 16 (.fl 17 (.fl 18 (.fl 19 (.fl 20 (.fl 21 (.fl 22 (.fl 23 (.fl 24 (.fl 26 (.fl 27 (.fl 28 (.fl 29 (.fl 30 (.fl 31 (.fl 32 (.fl 33 (.fl 34 (.fl 35 (.fl 36 (.fl 37 (.mn 25 (.mn 38 (.mn 39 (.fl 40 (.fl 41 .fin)) .no) .no) .no))))))))))))))))))))))))))) .no) .no) .no)))))))))) .n))))) .n))))) .n)))))) [(6, T_law20_awake), (7, T_ref24_Town), (8, T_engine_New), (9, T_ref24_Shut), (10, T_alike_Round), (11, T_law20_same), (12, T_engine_Engine_Way), (13, T_ref4_Ask)] ⟨⟨by kernel_rfl, S_law20_awake⟩, ⟨by kernel_rfl, S_ref24_Town⟩, ⟨by kernel_rfl, S_engine_New⟩, ⟨by kernel_rfl, S_ref24_Shut⟩, ⟨by kernel_rfl, S_alike_Round⟩, ⟨by kernel_rfl, S_law20_same⟩, ⟨by kernel_rfl, S_engine_Engine_Way⟩, ⟨by kernel_rfl, S_ref4_Ask⟩, trivial⟩ [.c .slice, .c .slice, .c .slice] (by kernel_rfl) G_law20_EngineTells fun t w K => by kernel_rfl

/-- milepost/milepostlaw20.EngineWays -/
def F_law20_EngineWays (l : Sl) (at_ : Int) (node : Int) (shut : Sl) (others : Sl) (w : World) (Q : Bool → World → Prop) : Prop :=
  cond (decide (((l.l : Nat) : Int) > (100 : Int)))
  (F_law20_awake  w fun (b1 : Bool) w1 =>
  Q b1 w1)
  (cond (decide (((shut.l : Nat) : Int) > (30 : Int)))
  (F_law20_awake  w fun (b2 : Bool) w2 =>
  Q b2 w2)
  (cond (decide (((others.l : Nat) : Int) > (8 : Int)))
  (F_law20_awake  w fun (b3 : Bool) w3 =>
  Q b3 w3)
  (F_ref24_Town l w fun (t1 : Sl × Sl × Sl × Unit) w4 =>
  allocD w4 #[Value.slice none 0 0, Value.slice none 0 0, Value.slice none 0 0] 30 fun a1 w5 =>
  storeD Tryz.prog 30 a1 (Value.agg #[(Value.slice t1.1.b t1.1.l t1.1.c), (Value.slice t1.2.1.b t1.2.1.l t1.2.1.c), (Value.slice t1.2.2.1.b t1.2.2.1.l t1.2.2.1.c)]) w5 fun w6 =>
  ldN [.slice, .slice, .slice] w6 a1 fun (t2 : Sl × Sl × Sl × Unit) =>
  F_engine_New (t2.1, t2.2.1, t2.2.2.1, ()) w6 fun (p1 : Option Addr) (x1 : Int) w7 =>
  cond (x1 != (0 : Int))
  (Q false w7)
  (cond (Option.isNone p1)
  (Q false w7)
  (ld1 .slice w7.drew (a1.add 1) fun (s1 : Sl) =>
  ld1 .slice w7.drew (a1.add 0) fun (s2 : Sl) =>
  F_alike_Round at_ ((s1.l : Nat) : Int) w7.drew fun (x2 : Int) w8 =>
  w8.cell? (a1.add 0) = some (Value.slice s2.b s2.l s2.c) ∧
  F_alike_Round node ((s2.l : Nat) : Int) w8 fun (x3 : Int) w9 =>
  ldN [.slice, .slice, .slice] w9 a1 fun (t3 : Sl × Sl × Sl × Unit) =>
  F_ref24_Shut (t3.1, t3.2.1, t3.2.2.1, ()) shut w9 fun (s3 : Sl) w10 =>
  F_engine_Engine_Way p1 x2 x3 s3 w10 fun (t4 : Sl × Int × Bool × Bool × Unit) w11 =>
  allocD w11 #[Value.slice none 0 0, Value.int .i64 (0 : Int), Value.bool false, Value.bool false] 42 fun a2 w12 =>
  storeD Tryz.prog 42 a2 (Value.agg #[(Value.slice t4.1.b t4.1.l t4.1.c), (Value.int .i64 t4.2.1), (Value.bool t4.2.2.1), (Value.bool t4.2.2.2.1)]) w12 fun w13 =>
  ldN [.slice, .slice, .slice] w13 a1 fun (t5 : Sl × Sl × Sl × Unit) =>
  F_ref4_Between (t5.1, t5.2.1, t5.2.2.1, ()) x2 x3 s3 w13 fun (x4 : Int) w14 =>
  ld1 .bool w14 (a2.add 2) fun (b4 : Bool) =>
  cond (!(b4 == (decide (x4 ≥ (0 : Int)))))
  (Q false w14)
  (ld1 .bool w14 (a2.add 2) fun (b5 : Bool) =>
  cond (!b5)
  (ld1 .slice w14 (a2.add 0) fun (s4 : Sl) =>
  cond (((s4.l : Nat) : Int) == (0 : Int))
  (ld1 (.int .i64) w14 (a2.add 1) fun (x5 : Int) =>
  cond (x5 == (0 : Int))
  (ld1 .bool w14 (a2.add 3) fun (b6 : Bool) =>
  cond (!b6)
  (F_law20_awake  w14 fun (b7 : Bool) w15 =>
  Q b7 w15)
  (Q false w14))
  (Q false w14))
  (Q false w14))
  (ldN [.slice, .slice, .slice] w14 a1 fun (t6 : Sl × Sl × Sl × Unit) =>
  ld1 .slice w14 (a2.add 0) fun (s5 : Sl) =>
  F_ref4_End (t6.1, t6.2.1, t6.2.2.1, ()) x2 s5 w14 fun (x6 : Int) (b8 : Bool) w16 =>
  ldN [.slice, .slice, .slice] w16 a1 fun (t7 : Sl × Sl × Sl × Unit) =>
  ld1 .slice w16 (a2.add 0) fun (s6 : Sl) =>
  F_ref4_Weight (t7.1, t7.2.1, t7.2.2.1, ()) s6 w16 fun (x7 : Int) (b9 : Bool) w17 =>
  cond (!b8)
  (Q false w17)
  (cond (!b9)
  (Q false w17)
  (cond (x6 != x3)
  (Q false w17)
  (cond (x7 != x4)
  (Q false w17)
  (ld1 (.int .i64) w17 (a2.add 1) fun (x8 : Int) =>
  cond (x8 != x4)
  (Q false w17)
  (allocD w17 #[] 3 fun a3 w18 =>
  ld1 .slice w18 (a2.add 0) fun (s7 : Sl) =>
  appendD Tryz.prog 22 22 ⟨(some a3), 0, 0⟩ (Value.slice s7.b s7.l s7.c) w18 fun (s8 : Sl) w19 =>
  ∀ X1 : (Int × Unit) → World → Prop, (∀ (t8 : Int × Unit) (w20 : World), (
  ld1 .slice w20 (a2.add 0) fun (s9 : Sl) =>
  cond (decide (t8.1 < ((s9.l : Nat) : Int)))
  (ld1 .slice w20 (a2.add 0) fun (s10 : Sl) =>
  (0 ≤ t8.1 ∧ t8.1 < ((s10.l : Nat) : Int)) ∧
  onSome s10.b fun a4 =>
  ld1 (.int .i64) w20 (a4.add (Int.toNat t8.1 * 1)) fun (x9 : Int) =>
  (0 ≤ x9 ∧ x9 < ((s3.l : Nat) : Int)) ∧
  onSome s3.b fun a5 =>
  ld1 .bool w20 (a5.add (Int.toNat x9 * 1)) fun (b10 : Bool) =>
  cond b10
  (Q false w20)
  (ld1 .slice w20 (a2.add 0) fun (s11 : Sl) =>
  (0 ≤ t8.1 ∧ t8.1 < ((s11.l : Nat) : Int)) ∧
  onSome s11.b fun a6 =>
  storeD Tryz.prog 3 (a6.add (Int.toNat t8.1 * 1)) (Value.int .i64 (-1 : Int)) w20 fun w21 =>
  X1 ((IntKind.wrap .i64 (t8.1 + (1 : Int))), ()) w21))
  (∀ X2 : (Int × Unit) → World → Prop, (∀ (t9 : Int × Unit) (w22 : World), (
  cond (decide (t9.1 < ((others.l : Nat) : Int)))
  ((0 ≤ t9.1 ∧ t9.1 < ((others.l : Nat) : Int)) ∧
  onSome others.b fun a7 =>
  (0 ≤ (0 : Int) ∧ (0 : Int) < ((2 : Nat) : Int)) ∧
  ld1 (.int .i64) w22.drew ((a7.add (Int.toNat t9.1 * 2)).add (Int.toNat (0 : Int) * 1)) fun (x10 : Int) =>
  (0 ≤ t9.1 ∧ t9.1 < ((others.l : Nat) : Int)) ∧
  onSome others.b fun a8 =>
  (0 ≤ (1 : Int) ∧ (1 : Int) < ((2 : Nat) : Int)) ∧
  ld1 (.int .i64) w22.drew ((a8.add (Int.toNat t9.1 * 2)).add (Int.toNat (1 : Int) * 1)) fun (x11 : Int) =>
  F_engine_Engine_Way p1 x10 x11 ⟨none, 0, 0⟩ w22.drew fun (_ : Sl × Int × Bool × Bool × Unit) w23 =>
  X2 ((IntKind.wrap .i64 (t9.1 + (1 : Int))), ()) w23)
  (F_engine_Engine_Way p1 x2 x3 s3 w22 fun (t11 : Sl × Int × Bool × Bool × Unit) w24 =>
  F_alike_Ints t11.1 s8 w24 fun (b11 : Bool) w25 =>
  cond b11
  (F_law20_awake  w25 fun (b12 : Bool) w26 =>
  Q b12 w26)
  (Q false w25))) → X2 t9 w22) →
  X2 ((0 : Int), ()) w20)) → X1 t8 w20) →
  X1 ((0 : Int), ()) w19))))))))))))
def G_law20_EngineWays (t : KTs [.c .slice, .c (.int .i64), .c (.int .i64), .c .slice, .c .slice]) (w : World) (K : Value → World → Prop) : Prop := F_law20_EngineWays t.1 t.2.1 t.2.2.1 t.2.2.2.1 t.2.2.2.2.1 w fun (r0 : Bool) w1 => K (Value.bool r0) w1
abbrev T_law20_EngineWays : Tr := fun args w K => decK [.c .slice, .c (.int .i64), .c (.int .i64), .c .slice, .c .slice] args fun t => G_law20_EngineWays t w K
theorem S_law20_EngineWays : Sound Tryz.prog 4 T_law20_EngineWays := sound_of (fn := Tryz.f4) Tryz.func4 (by kernel_rfl) mixed (by kernel_rfl) (.s .n (.s .n (.s .n (.s .n (.s .n (.s (.r (.fl 0 (.fl 1 (.fl 2 (.fl 3 (.fl 5 (.fl 6 (.fl 7 (.fl 8 (.mn 4 (.mn 9 (.fl 10 (.fl 11 .fin)) .no) .no)))))))))) (.s .n (.s .n (.s .n (.s .n (.s .n (.s .n (.s .n (.s .n (.s .n (.s (.s .n (.b (.l [(24, .c (.int .i64))] [10, 24, 142, 143, 144, 145, 146, 147, 148, 149, 150, 151, 152, 153, 154, 155, 156, 157, 158, 159, 160] .n))) (.s (.s .n (.b (.l [(25, .c (.int .i64))] [25, 161, 162, 163, 164, 165, 166, 167, 168, 169, 170, 171, 172, 173, 174, 175, 176, 177, 178] (.s .n (.s (.b (.r (.fl 0 (.fl 1 (.fl 2 (.fl 3 (.fl 4 (.fl 5 (.fl 6 (.fl 7 (.fl 8 (.fl 9 (.fl 10 (.mn 11 .fin .no)))))))))))))) .n))))) .n))))))))))))))))) [(6, T_law20_awake), (7, T_ref24_Town), (8, T_engine_New), (9, T_ref24_Shut), (10, T_alike_Round), (12, T_engine_Engine_Way), (14, T_ref4_Between), (15, T_ref4_End), (16, T_ref4_Weight), (17, T_alike_Ints)] ⟨⟨by kernel_rfl, S_law20_awake⟩, ⟨by kernel_rfl, S_ref24_Town⟩, ⟨by kernel_rfl, S_engine_New⟩, ⟨by kernel_rfl, S_ref24_Shut⟩, ⟨by kernel_rfl, S_alike_Round⟩, ⟨by kernel_rfl, S_engine_Engine_Way⟩, ⟨by kernel_rfl, S_ref4_Between⟩, ⟨by kernel_rfl, S_ref4_End⟩, ⟨by kernel_rfl, S_ref4_Weight⟩, ⟨by kernel_rfl, S_alike_Ints⟩, trivial⟩ [.c .slice, .c (.int .i64), .c (.int .i64), .c .slice, .c .slice] (by kernel_rfl) G_law20_EngineWays fun t w K => by kernel_rfl

/-- milepost/milepostlaw20.EngineLevels -/
def F_law20_EngineLevels (l : Sl) (at_ : Int) (node : Int) (shut : Sl) (w : World) (Q : Bool → World → Prop) : Prop :=
  cond (decide (((l.l : Nat) : Int) > (100 : Int)))
  (F_law20_awake  w fun (b1 : Bool) w1 =>
  Q b1 w1)
  (cond (decide (((shut.l : Nat) : Int) > (40 : Int)))
  (F_law20_awake  w fun (b2 : Bool) w2 =>
  Q b2 w2)
  (F_ref24_Town l w fun (t1 : Sl × Sl × Sl × Unit) w3 =>
  allocD w3 #[Value.slice none 0 0, Value.slice none 0 0, Value.slice none 0 0] 30 fun a1 w4 =>
  storeD Tryz.prog 30 a1 (Value.agg #[(Value.slice t1.1.b t1.1.l t1.1.c), (Value.slice t1.2.1.b t1.2.1.l t1.2.1.c), (Value.slice t1.2.2.1.b t1.2.2.1.l t1.2.2.1.c)]) w4 fun w5 =>
  ldN [.slice, .slice, .slice] w5 a1 fun (t2 : Sl × Sl × Sl × Unit) =>
  F_engine_New (t2.1, t2.2.1, t2.2.2.1, ()) w5 fun (p1 : Option Addr) (x1 : Int) w6 =>
  cond (x1 != (0 : Int))
  (Q false w6.drew)
  (cond (Option.isNone p1)
  (Q false w6.drew)
  (F_engine_Engine_Levels p1 w6.drew fun (p2 : Option Addr) w7 =>
  cond (Option.isNone p2)
  (Q false w7)
  (ld1 .slice w7 (a1.add 1) fun (s1 : Sl) =>
  F_engine_Engine_Levels p1 w7 fun (p3 : Option Addr) w8 =>
  w8.cell? (a1.add 1) = some (Value.slice s1.b s1.l s1.c) ∧
  onSome p3 fun a2 =>
  ld1 .ptr w8 (a2.add 0) fun (p4 : Option Addr) =>
  F_net_Net_Len p4 w8 fun (x2 : Int) w9 =>
  w9.cell? (a1.add 1) = some (Value.slice s1.b s1.l s1.c) ∧
  cond (x2 != ((s1.l : Nat) : Int))
  (Q false w9)
  (ld1 .slice w9.drew (a1.add 1) fun (s2 : Sl) =>
  ld1 .slice w9.drew (a1.add 0) fun (s3 : Sl) =>
  F_alike_Round at_ ((s2.l : Nat) : Int) w9.drew fun (x3 : Int) w10 =>
  w10.cell? (a1.add 0) = some (Value.slice s3.b s3.l s3.c) ∧
  F_alike_Round node ((s3.l : Nat) : Int) w10 fun (x4 : Int) w11 =>
  ∀ X1 : (Sl × Int × Unit) → World → Prop, (∀ (t3 : Sl × Int × Unit) (w12 : World), (
  ld1 .slice w12 (a1.add 1) fun (s4 : Sl) =>
  cond (decide (t3.2.1 < ((s4.l : Nat) : Int)))
  (ld1 .slice w12 (a1.add 1) fun (s5 : Sl) =>
  (0 ≤ t3.2.1 ∧ t3.2.1 < ((s5.l : Nat) : Int)) ∧
  onSome s5.b fun a3 =>
  ld1 (.int .i64) w12 ((a3.add (Int.toNat t3.2.1 * 3)).add 1) fun (x5 : Int) =>
  cond (x5 == x4)
  (allocD w12 #[Value.int .i64 t3.2.1] 3 fun a4 w13 =>
  appendD Tryz.prog 22 22 t3.1 (Value.slice (some a4) 1 1) w13 fun (s6 : Sl) w14 =>
  X1 (s6, (IntKind.wrap .i64 (t3.2.1 + (1 : Int))), ()) w14)
  (X1 (t3.1, (IntKind.wrap .i64 (t3.2.1 + (1 : Int))), ()) w12))
  (F_engine_Engine_Levels p1 w12 fun (p5 : Option Addr) w15 =>
  F_search_Dist p5 x3 t3.1 w15 fun (x6 : Int) (b3 : Bool) w16 =>
  F_engine_Engine_Way p1 x3 x4 ⟨none, 0, 0⟩ w16 fun (t4 : Sl × Int × Bool × Bool × Unit) w17 =>
  allocD w17 #[Value.slice none 0 0, Value.int .i64 (0 : Int), Value.bool false, Value.bool false] 42 fun a5 w18 =>
  storeD Tryz.prog 42 a5 (Value.agg #[(Value.slice t4.1.b t4.1.l t4.1.c), (Value.int .i64 t4.2.1), (Value.bool t4.2.2.1), (Value.bool t4.2.2.2.1)]) w18 fun w19 =>
  ldN [.slice, .slice, .slice] w19 a1 fun (t5 : Sl × Sl × Sl × Unit) =>
  F_ref24_Shut (t5.1, t5.2.1, t5.2.2.1, ()) shut w19 fun (s7 : Sl) w20 =>
  F_engine_Engine_Way p1 x3 x4 s7 w20 fun (t6 : Sl × Int × Bool × Bool × Unit) w21 =>
  allocD w21 #[Value.slice none 0 0, Value.int .i64 (0 : Int), Value.bool false, Value.bool false] 42 fun a6 w22 =>
  storeD Tryz.prog 42 a6 (Value.agg #[(Value.slice t6.1.b t6.1.l t6.1.c), (Value.int .i64 t6.2.1), (Value.bool t6.2.2.1), (Value.bool t6.2.2.2.1)]) w22 fun w23 =>
  ld1 .bool w23 (a5.add 2) fun (b4 : Bool) =>
  cond (b4 == b3)
  (ld1 (.int .i64) w23 (a5.add 1) fun (x7 : Int) =>
  cond (x7 == x6)
  (ld1 .bool w23 (a5.add 3) fun (b5 : Bool) =>
  cond (!b5)
  (ld1 .bool w23 (a6.add 2) fun (b6 : Bool) =>
  cond (!b6)
  (ld1 .bool w23 (a6.add 2) fun (b7 : Bool) =>
  cond (!b7)
  (F_law20_awake  w23 fun (b8 : Bool) w24 =>
  Q b8 w24)
  (ld1 .bool w23 (a6.add 3) fun (b9 : Bool) =>
  cond b9
  (F_law20_awake  w23 fun (b10 : Bool) w25 =>
  Q b10 w25)
  (ld1 .slice w23 (a5.add 0) fun (s8 : Sl) =>
  ld1 .slice w23 (a6.add 0) fun (s9 : Sl) =>
  F_alike_Ints s8 s9 w23 fun (b11 : Bool) w26 =>
  cond b11
  (F_law20_awake  w26 fun (b12 : Bool) w27 =>
  Q b12 w27)
  (Q false w26))))
  (ld1 .bool w23 (a5.add 2) fun (b13 : Bool) =>
  cond b13
  (ld1 (.int .i64) w23 (a6.add 1) fun (x8 : Int) =>
  cond (decide (x8 ≥ x6))
  (ld1 .bool w23 (a6.add 2) fun (b14 : Bool) =>
  cond (!b14)
  (F_law20_awake  w23 fun (b15 : Bool) w28 =>
  Q b15 w28)
  (ld1 .bool w23 (a6.add 3) fun (b16 : Bool) =>
  cond b16
  (F_law20_awake  w23 fun (b17 : Bool) w29 =>
  Q b17 w29)
  (ld1 .slice w23 (a5.add 0) fun (s10 : Sl) =>
  ld1 .slice w23 (a6.add 0) fun (s11 : Sl) =>
  F_alike_Ints s10 s11 w23 fun (b18 : Bool) w30 =>
  cond b18
  (F_law20_awake  w30 fun (b19 : Bool) w31 =>
  Q b19 w31)
  (Q false w30))))
  (Q false w23))
  (Q false w23)))
  (Q false w23))
  (Q false w23))
  (Q false w23))) → X1 t3 w12) →
  X1 (⟨none, 0, 0⟩, (0 : Int), ()) w11))))))
def G_law20_EngineLevels (t : KTs [.c .slice, .c (.int .i64), .c (.int .i64), .c .slice]) (w : World) (K : Value → World → Prop) : Prop := F_law20_EngineLevels t.1 t.2.1 t.2.2.1 t.2.2.2.1 w fun (r0 : Bool) w1 => K (Value.bool r0) w1
abbrev T_law20_EngineLevels : Tr := fun args w K => decK [.c .slice, .c (.int .i64), .c (.int .i64), .c .slice] args fun t => G_law20_EngineLevels t w K
theorem S_law20_EngineLevels : Sound Tryz.prog 5 T_law20_EngineLevels := sound_of (fn := Tryz.f5) Tryz.func5 (by kernel_rfl) mixed (by kernel_rfl) (.s .n (.s .n (.s .n (.s .n (.s (.s (.r (.fl 0 (.fl 1 (.fl 2 (.fl 3 (.fl 4 (.fl 5 (.fl 6 (.fl 7 (.mn 8 (.fl 9 (.fl 10 (.fl 11 (.fl 12 (.fl 18 (.fl 19 (.fl 20 (.mn 13 (.fl 14 (.fl 15 (.fl 16 (.mn 17 (.fl 21 (.fl 22 .fin)) .no)))) .no)))))))) .no)))))))))) .n) (.s (.r (.fl 0 (.fl 1 (.fl 2 (.fl 3 (.fl 5 (.fl 6 (.fl 7 (.fl 8 (.mn 4 (.mn 9 (.fl 10 (.fl 11 .fin)) .no) .no)))))))))) (.s .n (.s (.s .n (.b (.l [(14, .c .slice), (15, .c (.int .i64))] [14, 15, 69, 70, 71, 72, 73, 74, 75, 76, 77, 78, 79, 80, 81, 82, 83, 84, 85, 86, 87] .n))) .n)))))))) [(6, T_law20_awake), (7, T_ref24_Town), (8, T_engine_New), (9, T_ref24_Shut), (10, T_alike_Round), (12, T_engine_Engine_Way), (17, T_alike_Ints), (18, T_engine_Engine_Levels), (19, T_net_Net_Len), (20, T_search_Dist)] ⟨⟨by kernel_rfl, S_law20_awake⟩, ⟨by kernel_rfl, S_ref24_Town⟩, ⟨by kernel_rfl, S_engine_New⟩, ⟨by kernel_rfl, S_ref24_Shut⟩, ⟨by kernel_rfl, S_alike_Round⟩, ⟨by kernel_rfl, S_engine_Engine_Way⟩, ⟨by kernel_rfl, S_alike_Ints⟩, ⟨by kernel_rfl, S_engine_Engine_Levels⟩, ⟨by kernel_rfl, S_net_Net_Len⟩, ⟨by kernel_rfl, S_search_Dist⟩, trivial⟩ [.c .slice, .c (.int .i64), .c (.int .i64), .c .slice] (by kernel_rfl) G_law20_EngineLevels fun t w K => by kernel_rfl

end Go.Proofs.YtljiijljeipdhaaGreat
