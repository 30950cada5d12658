import Derived.Test.YtkdilapijegogaaA1
import Derived.Test.YtkdilapijegogaaFBase
import Derived.Test.YtkdilapijegogaaFNet
import Derived.Test.YtkdilapijegogaaFLev
import Derived.Test.YtkdilapijegogaaFUnp
namespace Go.Proofs.Ytkdilapijegogaa
open Go Go.Den
set_option maxRecDepth 100000
/-- milepost/milepostlaw17.arcs -/
def F_law17_arcs (n : Int) (l : Sl) (w : World) (Q : Sl → World → Prop) : Prop :=
  ∀ X1 : (Sl × Int × Unit) → World → Prop, (∀ (t1 : Sl × Int × Unit) (w1 : World), (
  cond (decide (t1.2.1 < ((l.l : Nat) : Int)))
  (cond (decide (n > (1 : Int)))
  ((0 ≤ t1.2.1 ∧ t1.2.1 < ((l.l : Nat) : Int)) ∧
  onSome l.b fun a1 =>
  (0 ≤ (0 : Int) ∧ (0 : Int) < ((3 : Nat) : Int)) ∧
  ld1 (.int .i64) w1.drew ((a1.add (Int.toNat t1.2.1 * 3)).add (Int.toNat (0 : Int) * 1)) fun (x1 : Int) =>
  (0 ≤ t1.2.1 ∧ t1.2.1 < ((l.l : Nat) : Int)) ∧
  onSome l.b fun a2 =>
  (0 ≤ (1 : Int) ∧ (1 : Int) < ((3 : Nat) : Int)) ∧
  ld1 (.int .i64) w1.drew ((a2.add (Int.toNat t1.2.1 * 3)).add (Int.toNat (1 : Int) * 1)) fun (x2 : Int) =>
  F_alike_Round x1 n w1.drew fun (x3 : Int) w2 =>
  w2.cell? ((a2.add (Int.toNat t1.2.1 * 3)).add (Int.toNat (1 : Int) * 1)) = some (Value.int .i64 x2) ∧
  F_alike_Round x2 n w2 fun (x4 : Int) w3 =>
  cond (x3 != x4)
  ((0 ≤ t1.2.1 ∧ t1.2.1 < ((l.l : Nat) : Int)) ∧
  onSome l.b fun a3 =>
  (0 ≤ (2 : Int) ∧ (2 : Int) < ((3 : Nat) : Int)) ∧
  ld1 (.int .i64) w3 ((a3.add (Int.toNat t1.2.1 * 3)).add (Int.toNat (2 : Int) * 1)) fun (x5 : Int) =>
  F_alike_Round x5 (20 : Int) w3 fun (x6 : Int) w4 =>
  allocD w4 #[Value.int .i64 x3, Value.int .i64 x4, Value.int .i64 (IntKind.wrap .i64 ((1 : Int) + x6)), Value.int .i64 (-1 : Int)] 45 fun a4 w5 =>
  appendD Try.prog 39 39 t1.1 (Value.slice (some a4) 1 1) w5 fun (s1 : Sl) w6 =>
  X1 (s1, (IntKind.wrap .i64 (t1.2.1 + (1 : Int))), ()) w6)
  (X1 (t1.1, (IntKind.wrap .i64 (t1.2.1 + (1 : Int))), ()) w3))
  (Q t1.1 w1))
  (Q t1.1 w1)) → X1 t1 w1) →
  X1 (⟨none, 0, 0⟩, (0 : Int), ()) w
def G_law17_arcs (t : KTs [.c (.int .i64), .c .slice]) (w : World) (K : Value → World → Prop) : Prop := F_law17_arcs t.1 t.2.1 w fun (r0 : Sl) w1 => K (Value.slice r0.b r0.l r0.c) w1
abbrev T_law17_arcs : Tr := fun args w K => decK [.c (.int .i64), .c .slice] args fun t => G_law17_arcs t w K
theorem S_law17_arcs : Sound Try.prog 26 T_law17_arcs := sound_of (fn := Try.f26) Try.func26 (by kernel_rfl) mixed (by kernel_rfl) (.s .n (.s .n (.s (.s .n (.b (.l [(5, .c .slice), (6, .c (.int .i64))] [5, 6, 7, 8, 9, 10, 11, 12, 13, 14, 15, 16, 17, 18, 19, 20, 21, 22, 23, 24, 25, 26, 27, 28, 29, 30, 31, 32, 33, 34, 35, 36, 37, 38, 39, 40, 41, 42, 43, 44, 45, 46, 47, 48] (.s .n (.s (.b (.s (.r (.fl 0 (.fl 1 (.fl 2 (.fl 3 (.fl 4 (.fl 5 (.fl 7 (.fl 8 (.fl 9 (.fl 10 (.fl 11 (.fl 12 (.mn 6 (.mn 13 (.fl 14 (.fl 15 .fin)) .no) .no)))))))))))))) .n)) .n))))) .n))) [(15, T_alike_Round)] ⟨⟨by kernel_rfl, S_alike_Round⟩, trivial⟩ [.c (.int .i64), .c .slice] (by kernel_rfl) G_law17_arcs fun t w K => by kernel_rfl

/-- milepost/milepostlaw17.made -/
def F_law17_made (n : Int) (l : Sl) (w : World) (Q : (Option Addr) → (Option Addr) → World → Prop) : Prop :=
  F_law17_arcs n l w fun (s1 : Sl) w1 =>
  F_net_New n s1 w1 fun (p1 : Option Addr) (x1 : Int) w2 =>
  cond (x1 != (0 : Int))
  (Q none none w2)
  (F_law17_arcs n l w2 fun (s2 : Sl) w3 =>
  F_ref4_NewNet n s2 w3 fun (p2 : Option Addr) w4 =>
  Q p1 p2 w4)
def G_law17_made (t : KTs [.c (.int .i64), .c .slice]) (w : World) (K : Value → World → Prop) : Prop := F_law17_made t.1 t.2.1 w fun (r0 : Option Addr) (r1 : Option Addr) w1 => K (Value.tuple #[(Value.pointer r0), (Value.pointer r1)]) w1
abbrev T_law17_made : Tr := fun args w K => decK [.c (.int .i64), .c .slice] args fun t => G_law17_made t w K
theorem S_law17_made : Sound Try.prog 17 T_law17_made := sound_of (fn := Try.f17) Try.func17 (by kernel_rfl) mixed (by kernel_rfl) (.n) [(25, T_net_New), (26, T_law17_arcs), (27, T_ref4_NewNet)] ⟨⟨by kernel_rfl, S_net_New⟩, ⟨by kernel_rfl, S_law17_arcs⟩, ⟨by kernel_rfl, S_ref4_NewNet⟩, trivial⟩ [.c (.int .i64), .c .slice] (by kernel_rfl) G_law17_made fun t w K => by kernel_rfl

/-- milepost/milepostlaw17.built -/
def F_law17_built (n : Int) (l : Sl) (w : World) (Q : (Option Addr) → (Option Addr) → (Option Addr) → World → Prop) : Prop :=
  F_law17_made n l w fun (p1 : Option Addr) (p2 : Option Addr) w1 =>
  cond (Option.isNone p1)
  (Q none none none w1)
  (F_levels_Build p1 w1 fun (p3 : Option Addr) w2 =>
  F_ref4_Build p2 w2 fun (p4 : Option Addr) w3 =>
  Q p3 p4 p2 w3)
def G_law17_built (t : KTs [.c (.int .i64), .c .slice]) (w : World) (K : Value → World → Prop) : Prop := F_law17_built t.1 t.2.1 w fun (r0 : Option Addr) (r1 : Option Addr) (r2 : Option Addr) w1 => K (Value.tuple #[(Value.pointer r0), (Value.pointer r1), (Value.pointer r2)]) w1
abbrev T_law17_built : Tr := fun args w K => decK [.c (.int .i64), .c .slice] args fun t => G_law17_built t w K
theorem S_law17_built : Sound Try.prog 7 T_law17_built := sound_of (fn := Try.f7) Try.func7 (by kernel_rfl) mixed (by kernel_rfl) (.n) [(17, T_law17_made), (18, T_levels_Build), (19, T_ref4_Build)] ⟨⟨by kernel_rfl, S_law17_made⟩, ⟨by kernel_rfl, S_levels_Build⟩, ⟨by kernel_rfl, S_ref4_Build⟩, trivial⟩ [.c (.int .i64), .c .slice] (by kernel_rfl) G_law17_built fun t w K => by kernel_rfl

/-- milepost/milepostlaw17.awake -/
def F_law17_awake  (w : World) (Q : Bool → World → Prop) : Prop :=
  allocD w #[Value.int .i64 (0 : Int), Value.int .i64 (1 : Int), Value.int .i64 (0 : Int)] 54 fun a1 w1 =>
  F_law17_built (2 : Int) ⟨(some a1), 1, 1⟩ w1 fun (p1 : Option Addr) (_ : Option Addr) (_ : Option Addr) w2 =>
  cond (Option.isNone p1)
  (Q false w2)
  (F_unpack_Arc p1 (0 : Int) (1 : Int) w2 fun (s1 : Sl) (x1 : Int) w3 =>
  F_unpack_Arc p1 (1 : Int) (0 : Int) w3 fun (_ : Sl) (x2 : Int) w4 =>
  allocD w4 #[Value.int .i64 (1 : Int)] 3 fun a2 w5 =>
  F_unpack_Row p1 ⟨(some a2), 1, 1⟩ w5 fun (s3 : Sl) (x3 : Int) w6 =>
  F_unpack_Row p1 ⟨none, 0, 0⟩ w6 fun (s4 : Sl) (x4 : Int) w7 =>
  F_unpack_Arc none (0 : Int) (1 : Int) w7 fun (_ : Sl) (x5 : Int) w8 =>
  cond (x1 == (0 : Int))
  (allocD w8 #[Value.int .i64 (0 : Int), Value.int .i64 (1 : Int)] 3 fun a3 w9 =>
  F_alike_Ints s1 ⟨(some a3), 2, 2⟩ w9 fun (b1 : Bool) w10 =>
  cond b1
  (cond (x2 == (4 : Int))
  (cond (x3 == (0 : Int))
  (allocD w10 #[Value.int .i64 (1 : Int)] 3 fun a4 w11 =>
  F_alike_Ints s3 ⟨(some a4), 1, 1⟩ w11 fun (b2 : Bool) w12 =>
  cond b2
  (cond (x4 == (0 : Int))
  (cond (((s4.l : Nat) : Int) == (0 : Int))
  (Q (x5 == (4 : Int)) w12)
  (Q false w12))
  (Q false w12))
  (Q false w12))
  (Q false w10))
  (Q false w10))
  (Q false w10))
  (Q false w8))
def G_law17_awake (_ : KTs []) (w : World) (K : Value → World → Prop) : Prop := F_law17_awake  w fun (r0 : Bool) w1 => K (Value.bool r0) w1
abbrev T_law17_awake : Tr := fun args w K => decK [] args fun t => G_law17_awake t w K
theorem S_law17_awake : Sound Try.prog 6 T_law17_awake := sound_of (fn := Try.f6) Try.func6 (by kernel_rfl) mixed (by kernel_rfl) (.n) [(7, T_law17_built), (8, T_unpack_Arc), (10, T_alike_Ints), (11, T_unpack_Row)] ⟨⟨by kernel_rfl, S_law17_built⟩, ⟨by kernel_rfl, S_unpack_Arc⟩, ⟨by kernel_rfl, S_alike_Ints⟩, ⟨by kernel_rfl, S_unpack_Row⟩, trivial⟩ [] (by kernel_rfl) G_law17_awake fun t w K => by kernel_rfl

/-- milepost/milepostlaw17.UnpackTells -/
def F_law17_UnpackTells (n : Int) (l : Sl) (stops : Sl) (w : World) (Q : Bool → World → Prop) : Prop :=
  cond (decide (n < (0 : Int)))
  (F_law17_awake  w fun (b1 : Bool) w1 =>
  Q b1 w1)
  (cond (decide (n > (20 : Int)))
  (F_law17_awake  w fun (b2 : Bool) w2 =>
  Q b2 w2)
  (cond (decide (((l.l : Nat) : Int) > (60 : Int)))
  (F_law17_awake  w fun (b3 : Bool) w3 =>
  Q b3 w3)
  (cond (decide (((stops.l : Nat) : Int) > (10 : Int)))
  (F_law17_awake  w fun (b4 : Bool) w4 =>
  Q b4 w4)
  (F_law17_built n l w fun (p1 : Option Addr) (p2 : Option Addr) (_ : Option Addr) w5 =>
  cond (Option.isNone p1)
  (Q false w5)
  (∀ X1 : (Int × Unit) → World → Prop, (∀ (t1 : Int × Unit) (w6 : World), (
  cond (decide (t1.1 ≤ n))
  (∀ X2 : (Int × Unit) → World → Prop, (∀ (t2 : Int × Unit) (w7 : World), (
  cond (decide (t2.1 ≤ n))
  (F_unpack_Arc p1 t1.1 t2.1 w7 fun (s1 : Sl) (x1 : Int) w8 =>
  F_ref4_Levels_Unpack p2 t1.1 t2.1 w8 fun (s2 : Sl) (b5 : Bool) w9 =>
  F_alike_Ints s1 s2 w9 fun (b6 : Bool) w10 =>
  cond (!b6)
  (Q false w10)
  (cond (!((x1 == (0 : Int)) == b5))
  (Q false w10)
  (cond (!b5)
  (cond (x1 != (4 : Int))
  (Q false w10)
  (X2 ((IntKind.wrap .i64 (t2.1 + (1 : Int))), ()) w10))
  (X2 ((IntKind.wrap .i64 (t2.1 + (1 : Int))), ()) w10))))
  (X1 ((IntKind.wrap .i64 (t1.1 + (1 : Int))), ()) w7)) → X2 t2 w7) →
  X2 ((-1 : Int), ()) w6)
  (F_unpack_Row p1 stops w6 fun (s3 : Sl) (x2 : Int) w11 =>
  F_ref4_Levels_Row p2 stops w11 fun (s4 : Sl) (b7 : Bool) w12 =>
  F_alike_Ints s3 s4 w12 fun (b8 : Bool) w13 =>
  cond b8
  (cond ((x2 == (0 : Int)) == b7)
  (F_law17_awake  w13 fun (b9 : Bool) w14 =>
  Q b9 w14)
  (Q false w13))
  (Q false w13))) → X1 t1 w6) →
  X1 ((-1 : Int), ()) w5)))))
def G_law17_UnpackTells (t : KTs [.c (.int .i64), .c .slice, .c .slice]) (w : World) (K : Value → World → Prop) : Prop := F_law17_UnpackTells t.1 t.2.1 t.2.2.1 w fun (r0 : Bool) w1 => K (Value.bool r0) w1
abbrev T_law17_UnpackTells : Tr := fun args w K => decK [.c (.int .i64), .c .slice, .c .slice] args fun t => G_law17_UnpackTells t w K
theorem S_law17_UnpackTells : Sound Try.prog 3 T_law17_UnpackTells := sound_of (fn := Try.f3) Try.func3 (by kernel_rfl) mixed (by kernel_rfl) (.s .n (.s .n (.s .n (.s .n (.s (.s .n (.b (.l [(10, .c (.int .i64))] [6, 10, 11, 12, 13, 14, 15, 46, 47, 48, 49, 50, 51, 52, 53, 54, 55, 56, 57, 58, 59, 60, 61, 62, 63, 64, 65, 66, 67, 68, 69, 70, 71, 72, 73, 74, 75, 76, 77, 78, 79, 80, 81, 82, 83, 84, 85, 86, 87] (.s .n (.s (.b (.s .n (.b (.l [(11, .c (.int .i64))] [6, 11, 12, 13, 14, 15, 51, 52, 53, 54, 55, 56, 57, 58, 59, 60, 61, 62, 63, 64, 65, 66, 67, 68, 69, 70, 71, 72, 73, 74, 75, 76, 77, 78, 79, 80, 81, 82, 83, 84, 85, 86, 87] .n)))) .n))))) .n))))) [(6, T_law17_awake), (7, T_law17_built), (8, T_unpack_Arc), (9, T_ref4_Levels_Unpack), (10, T_alike_Ints), (11, T_unpack_Row), (12, T_ref4_Levels_Row)] ⟨⟨by kernel_rfl, S_law17_awake⟩, ⟨by kernel_rfl, S_law17_built⟩, ⟨by kernel_rfl, S_unpack_Arc⟩, ⟨by kernel_rfl, S_ref4_Levels_Unpack⟩, ⟨by kernel_rfl, S_alike_Ints⟩, ⟨by kernel_rfl, S_unpack_Row⟩, ⟨by kernel_rfl, S_ref4_Levels_Row⟩, trivial⟩ [.c (.int .i64), .c .slice, .c .slice] (by kernel_rfl) G_law17_UnpackTells fun t w K => by kernel_rfl

/-- milepost/milepostlaw17.UnpackArcs -/
def F_law17_UnpackArcs (n : Int) (l : Sl) (w : World) (Q : Bool → World → Prop) : Prop :=
  cond (decide (n < (1 : Int)))
  (F_law17_awake  w fun (b1 : Bool) w1 =>
  Q b1 w1)
  (cond (decide (n > (20 : Int)))
  (F_law17_awake  w fun (b2 : Bool) w2 =>
  Q b2 w2)
  (cond (decide (((l.l : Nat) : Int) > (80 : Int)))
  (F_law17_awake  w fun (b3 : Bool) w3 =>
  Q b3 w3)
  (F_law17_built n l w fun (p1 : Option Addr) (_ : Option Addr) (p3 : Option Addr) w4 =>
  cond (Option.isNone p1)
  (Q false w4)
  (onSome p1 fun a1 =>
  ld1 .ptr w4 (a1.add 0) fun (p4 : Option Addr) =>
  F_net_Net_All p4 w4 fun (s1 : Sl) w5 =>
  ∀ X1 : (Int × Unit) → World → Prop, (∀ (t1 : Int × Unit) (w6 : World), (
  cond (decide (t1.1 < ((s1.l : Nat) : Int)))
  ((0 ≤ t1.1 ∧ t1.1 < ((s1.l : Nat) : Int)) ∧
  onSome s1.b fun a2 =>
  ld1 (.int .i64) w6.drew ((a2.add (Int.toNat t1.1 * 4)).add 0) fun (x1 : Int) =>
  (0 ≤ t1.1 ∧ t1.1 < ((s1.l : Nat) : Int)) ∧
  onSome s1.b fun a3 =>
  ld1 (.int .i64) w6.drew ((a3.add (Int.toNat t1.1 * 4)).add 1) fun (x2 : Int) =>
  F_unpack_Arc p1 x1 x2 w6.drew fun (s2 : Sl) (x3 : Int) w7 =>
  cond (x3 != (0 : Int))
  (Q false w7.drew)
  (cond (decide (((s2.l : Nat) : Int) < (2 : Int)))
  (Q false w7.drew)
  ((0 ≤ (0 : Int) ∧ (0 : Int) < ((s2.l : Nat) : Int)) ∧
  onSome s2.b fun a4 =>
  ld1 (.int .i64) w7.drew (a4.add (Int.toNat (0 : Int) * 1)) fun (x4 : Int) =>
  (0 ≤ t1.1 ∧ t1.1 < ((s1.l : Nat) : Int)) ∧
  onSome s1.b fun a5 =>
  ld1 (.int .i64) w7.drew ((a5.add (Int.toNat t1.1 * 4)).add 0) fun (x5 : Int) =>
  cond (x4 != x5)
  (Q false w7.drew)
  ((0 ≤ IntKind.wrap .i64 (((s2.l : Nat) : Int) - (1 : Int)) ∧ IntKind.wrap .i64 (((s2.l : Nat) : Int) - (1 : Int)) < ((s2.l : Nat) : Int)) ∧
  onSome s2.b fun a6 =>
  ld1 (.int .i64) w7.drew (a6.add (Int.toNat (IntKind.wrap .i64 (((s2.l : Nat) : Int) - (1 : Int))) * 1)) fun (x6 : Int) =>
  (0 ≤ t1.1 ∧ t1.1 < ((s1.l : Nat) : Int)) ∧
  onSome s1.b fun a7 =>
  ld1 (.int .i64) w7.drew ((a7.add (Int.toNat t1.1 * 4)).add 1) fun (x7 : Int) =>
  cond (x6 != x7)
  (Q false w7.drew)
  (∀ X2 : (Int × Int × Unit) → World → Prop, (∀ (t2 : Int × Int × Unit) (w8 : World), (
  cond (decide ((IntKind.wrap .i64 (t2.2.1 + (1 : Int))) < ((s2.l : Nat) : Int)))
  ((0 ≤ t2.2.1 ∧ t2.2.1 < ((s2.l : Nat) : Int)) ∧
  onSome s2.b fun a8 =>
  ld1 (.int .i64) w8.drew (a8.add (Int.toNat t2.2.1 * 1)) fun (x8 : Int) =>
  (0 ≤ IntKind.wrap .i64 (t2.2.1 + (1 : Int)) ∧ IntKind.wrap .i64 (t2.2.1 + (1 : Int)) < ((s2.l : Nat) : Int)) ∧
  onSome s2.b fun a9 =>
  ld1 (.int .i64) w8.drew (a9.add (Int.toNat (IntKind.wrap .i64 (t2.2.1 + (1 : Int))) * 1)) fun (x9 : Int) =>
  F_ref4_Net_Find p3 x8 x9 w8.drew fun (x10 : Int) (b4 : Bool) w9 =>
  cond (!b4)
  (Q false w9)
  (onSome p3 fun a10 =>
  ld1 .slice w9 (a10.add 1) fun (s3 : Sl) =>
  (0 ≤ x10 ∧ x10 < ((s3.l : Nat) : Int)) ∧
  onSome s3.b fun a11 =>
  ld1 (.int .i64) w9 ((a11.add (Int.toNat x10 * 4)).add 2) fun (x11 : Int) =>
  X2 ((IntKind.wrap .i64 (t2.1 + x11)), (IntKind.wrap .i64 (t2.2.1 + (1 : Int))), ()) w9))
  ((0 ≤ t1.1 ∧ t1.1 < ((s1.l : Nat) : Int)) ∧
  onSome s1.b fun a12 =>
  ld1 (.int .i64) w8 ((a12.add (Int.toNat t1.1 * 4)).add 2) fun (x12 : Int) =>
  cond (t2.1 != x12)
  (Q false w8)
  (X1 ((IntKind.wrap .i64 (t1.1 + (1 : Int))), ()) w8))) → X2 t2 w8) →
  X2 ((0 : Int), (0 : Int), ()) w7.drew)))))
  (F_law17_awake  w6 fun (b5 : Bool) w10 =>
  Q b5 w10)) → X1 t1 w6) →
  X1 ((0 : Int), ()) w5))))
def G_law17_UnpackArcs (t : KTs [.c (.int .i64), .c .slice]) (w : World) (K : Value → World → Prop) : Prop := F_law17_UnpackArcs t.1 t.2.1 w fun (r0 : Bool) w1 => K (Value.bool r0) w1
abbrev T_law17_UnpackArcs : Tr := fun args w K => decK [.c (.int .i64), .c .slice] args fun t => G_law17_UnpackArcs t w K
theorem S_law17_UnpackArcs : Sound Try.prog 4 T_law17_UnpackArcs := sound_of (fn := Try.f4) Try.func4 (by kernel_rfl) mixed (by kernel_rfl) (.s .n (.s .n (.s .n (.s .n (.s .n (.s (.s .n (.b (.l [(9, .c (.int .i64))] [4, 9, 10, 11, 12, 13, 14, 15, 42, 43, 44, 45, 46, 47, 48, 49, 50, 51, 52, 53, 54, 55, 56, 57, 58, 59, 60, 61, 62, 63, 64, 65, 66, 67, 68, 69, 70, 71, 72, 73, 74, 75, 76, 77, 78, 79, 80, 81, 82, 83, 84, 85, 86, 87, 88, 89, 90, 91, 92, 93, 94, 95, 96, 97, 98, 99, 100, 101, 102, 103, 104, 105, 106, 107, 108, 109, 110, 111, 112, 113, 114, 115, 116, 117, 118, 119, 120, 121, 122, 123, 124, 125, 126, 127, 128, 129, 130, 131, 132, 133, 134] (.s .n (.s (.b (.s (.r (.fl 0 (.fl 1 (.fl 2 (.fl 3 (.fl 4 (.fl 5 (.fl 6 (.fl 7 (.fl 8 (.fl 9 (.fl 10 (.mn 11 (.fl 12 (.fl 13 (.fl 14 (.fl 15 (.fl 16 .fin))))) .no))))))))))))) (.s (.s (.r (.fl 0 (.fl 1 (.fl 2 (.fl 3 (.fl 4 (.fl 5 (.fl 6 (.fl 7 (.fl 8 (.fl 9 (.fl 10 (.fl 11 (.fl 12 (.fl 13 (.fl 14 (.fl 15 (.fl 16 (.fl 17 (.fl 18 (.fl 19 (.fl 20 (.fl 21 (.fl 22 (.fl 23 (.fl 24 (.fl 25 (.fl 26 (.fl 27 (.fl 28 (.fl 29 (.fl 30 (.fl 31 .fin))))))))))))))))))))))))))))))))) .n) (.s .n (.s (.s .n (.b (.l [(12, .c (.int .i64)), (13, .c (.int .i64))] [4, 12, 13, 14, 15, 95, 96, 97, 98, 99, 100, 101, 102, 103, 104, 105, 106, 107, 108, 109, 110, 111, 112, 113, 114, 115, 116, 117, 118, 119, 120, 121, 122, 123, 124, 125, 126, 127] (.s .n (.s (.b (.s (.r (.fl 0 (.fl 1 (.fl 2 (.fl 3 (.fl 4 (.fl 5 (.fl 6 (.fl 7 (.fl 8 (.fl 9 (.mn 10 (.fl 11 (.fl 12 (.fl 13 (.fl 14 (.fl 15 .fin))))) .no)))))))))))) .n)) .n))))) .n))))) .n))))) .n)))))) [(6, T_law17_awake), (7, T_law17_built), (8, T_unpack_Arc), (13, T_net_Net_All), (14, T_ref4_Net_Find)] ⟨⟨by kernel_rfl, S_law17_awake⟩, ⟨by kernel_rfl, S_law17_built⟩, ⟨by kernel_rfl, S_unpack_Arc⟩, ⟨by kernel_rfl, S_net_Net_All⟩, ⟨by kernel_rfl, S_ref4_Net_Find⟩, trivial⟩ [.c (.int .i64), .c .slice] (by kernel_rfl) G_law17_UnpackArcs fun t w K => by kernel_rfl

/-- milepost/milepostlaw17.UnpackRows -/
def F_law17_UnpackRows (n : Int) (l : Sl) (from_ : Int) (steps : Sl) (w : World) (Q : Bool → World → Prop) : Prop :=
  cond (decide (n < (1 : Int)))
  (F_law17_awake  w fun (b1 : Bool) w1 =>
  Q b1 w1)
  (cond (decide (n > (20 : Int)))
  (F_law17_awake  w fun (b2 : Bool) w2 =>
  Q b2 w2)
  (cond (decide (((l.l : Nat) : Int) > (80 : Int)))
  (F_law17_awake  w fun (b3 : Bool) w3 =>
  Q b3 w3)
  (cond (decide (((steps.l : Nat) : Int) > (12 : Int)))
  (F_law17_awake  w fun (b4 : Bool) w4 =>
  Q b4 w4)
  (F_law17_built n l w fun (p1 : Option Addr) (_ : Option Addr) (_ : Option Addr) w5 =>
  cond (Option.isNone p1)
  (Q false w5)
  (F_alike_Round from_ n w5 fun (x1 : Int) w6 =>
  allocD w6 #[Value.int .i64 x1] 3 fun a1 w7 =>
  allocD w7 #[Value.int .i64 x1] 3 fun a2 w8 =>
  ∀ J1 : (Sl × Sl × Unit) → World → Prop, (∀ (t1 : Sl × Sl × Unit) (w9 : World), (
  F_unpack_Row p1 t1.1 w9 fun (s1 : Sl) (x2 : Int) w10 =>
  cond (x2 == (0 : Int))
  (F_alike_Ints s1 t1.2.1 w10 fun (b5 : Bool) w11 =>
  cond b5
  (F_law17_awake  w11 fun (b6 : Bool) w12 =>
  Q b6 w12)
  (Q false w11))
  (Q false w10)) → J1 t1 w9) →
  ∀ X1 : (Int × Sl × Sl × Int × Unit) → World → Prop, (∀ (t2 : Int × Sl × Sl × Int × Unit) (w13 : World), (
  cond (decide (t2.2.2.2.1 < ((steps.l : Nat) : Int)))
  (onSome p1 fun a3 =>
  ld1 .ptr w13 (a3.add 0) fun (p4 : Option Addr) =>
  F_net_Net_Out p4 t2.1 w13 fun (s2 : Sl) w14 =>
  cond (((s2.l : Nat) : Int) == (0 : Int))
  (J1 (t2.2.1, t2.2.2.1, ()) w14)
  ((0 ≤ t2.2.2.2.1 ∧ t2.2.2.2.1 < ((steps.l : Nat) : Int)) ∧
  onSome steps.b fun a4 =>
  ld1 (.int .i64) w14 (a4.add (Int.toNat t2.2.2.2.1 * 1)) fun (x3 : Int) =>
  F_alike_Round x3 ((s2.l : Nat) : Int) w14 fun (x4 : Int) w15 =>
  (0 ≤ x4 ∧ x4 < ((s2.l : Nat) : Int)) ∧
  onSome s2.b fun a5 =>
  ld1 (.int .i64) w15 ((a5.add (Int.toNat x4 * 4)).add 1) fun (x5 : Int) =>
  F_unpack_Arc p1 t2.1 x5 w15 fun (s3 : Sl) (x6 : Int) w16 =>
  cond (x6 != (0 : Int))
  (Q false w16)
  (cond (decide (((s3.l : Nat) : Int) < (2 : Int)))
  (Q false w16)
  ((0 ≤ (1 : Int) ∧ (1 : Int) ≤ ((s3.l : Nat) : Int)) ∧
  appendD Try.prog 23 23 t2.2.2.1 (Value.slice (sliceAddr s3.b s3.c (Int.toNat (1 : Int)) 1) (s3.l - (Int.toNat (1 : Int))) (s3.c - (Int.toNat (1 : Int)))) w16 fun (s4 : Sl) w17 =>
  allocD w17 #[Value.int .i64 x5] 3 fun a6 w18 =>
  appendD Try.prog 23 23 t2.2.1 (Value.slice (some a6) 1 1) w18 fun (s5 : Sl) w19 =>
  X1 (x5, s5, s4, (IntKind.wrap .i64 (t2.2.2.2.1 + (1 : Int))), ()) w19))))
  (J1 (t2.2.1, t2.2.2.1, ()) w13)) → X1 t2 w13) →
  X1 (x1, ⟨(some a1), 1, 1⟩, ⟨(some a2), 1, 1⟩, (0 : Int), ()) w8)))))
def G_law17_UnpackRows (t : KTs [.c (.int .i64), .c .slice, .c (.int .i64), .c .slice]) (w : World) (K : Value → World → Prop) : Prop := F_law17_UnpackRows t.1 t.2.1 t.2.2.1 t.2.2.2.1 w fun (r0 : Bool) w1 => K (Value.bool r0) w1
abbrev T_law17_UnpackRows : Tr := fun args w K => decK [.c (.int .i64), .c .slice, .c (.int .i64), .c .slice] args fun t => G_law17_UnpackRows t w K
theorem S_law17_UnpackRows : Sound Try.prog 5 T_law17_UnpackRows := sound_of (fn := Try.f5) Try.func5 (by kernel_rfl) mixed (by kernel_rfl) (.s .n (.s .n (.s .n (.s .n (.s .n (.s .n (.s .n (.j [(13, .c .slice), (14, .c .slice)] [8, 12, 13, 14, 15, 16, 17, 18, 19, 55, 56, 57, 58, 59, 60, 61, 62, 63, 64, 65, 66, 67, 68, 69, 70, 71, 72, 73, 74, 75, 76, 77, 78, 79, 80, 81, 82, 83, 84, 85, 86, 87, 88, 89, 90, 91, 92, 93, 94, 95, 96, 97, 98, 99, 100, 101, 102, 103] (.s .n (.b (.l [(12, .c (.int .i64)), (13, .c .slice), (14, .c .slice), (15, .c (.int .i64))] [8, 12, 13, 14, 15, 16, 17, 18, 19, 55, 56, 57, 58, 59, 60, 61, 62, 63, 64, 65, 66, 67, 68, 69, 70, 71, 72, 73, 74, 75, 76, 77, 78, 79, 80, 81, 82, 83, 84, 85, 86, 87, 88, 89, 90, 91, 92, 93, 94, 95, 96, 97, 98, 99, 100, 101, 102, 103] .n))) .n)))))))) [(6, T_law17_awake), (7, T_law17_built), (8, T_unpack_Arc), (10, T_alike_Ints), (11, T_unpack_Row), (15, T_alike_Round), (16, T_net_Net_Out)] ⟨⟨by kernel_rfl, S_law17_awake⟩, ⟨by kernel_rfl, S_law17_built⟩, ⟨by kernel_rfl, S_unpack_Arc⟩, ⟨by kernel_rfl, S_alike_Ints⟩, ⟨by kernel_rfl, S_unpack_Row⟩, ⟨by kernel_rfl, S_alike_Round⟩, ⟨by kernel_rfl, S_net_Net_Out⟩, trivial⟩ [.c (.int .i64), .c .slice, .c (.int .i64), .c .slice] (by kernel_rfl) G_law17_UnpackRows fun t w K => by kernel_rfl

end Go.Proofs.Ytkdilapijegogaa
