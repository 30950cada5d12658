import Derived.Test.YtkghlmaalkmdkaaA1
import Derived.Test.YtkghlmaalkmdkaaFBase
import Derived.Test.YtkghlmaalkmdkaaFNet
import Derived.Test.YtkghlmaalkmdkaaFWit
import Derived.Test.YtkghlmaalkmdkaaFLev
import Derived.Test.YtkghlmaalkmdkaaFSea
namespace Go.Proofs.Ytkghlmaalkmdkaa
open Go Go.Den
set_option maxRecDepth 100000
/-- milepost/milepostlaw18.arcs -/
def F_law18_arcs (n : Int) (l : Sl) (w : World) (Q : Sl → World → Prop) : Prop :=
  ∀ X1 : (Sl × Int × Unit) → World → Prop, (∀ (t1 : Sl × Int × Unit) (w1 : World), (
  cond (decide (t1.2.1 < ((l.l : Nat) : Int)))
  (cond (decide (n > (1 : Int)))
  ((0 ≤ t1.2.1 ∧ t1.2.1 < ((l.l : Nat) : Int)) ∧
  onSome l.b fun a1 =>
  (0 ≤ (0 : Int) ∧ (0 : Int) < ((3 : Nat) : Int)) ∧
  ld1 (.int .i64) w1.drew ((a1.add (Int.toNat t1.2.1 * 3)).add (Int.toNat (0 : Int) * 1)) fun (x1 : Int) =>
  (0 ≤ t1.2.1 ∧ t1.2.1 < ((l.l : Nat) : Int)) ∧
  onSome l.b fun a2 =>
  (0 ≤ (1 : Int) ∧ (1 : Int) < ((3 : Nat) : Int)) ∧
  ld1 (.int .i64) w1.drew ((a2.add (Int.toNat t1.2.1 * 3)).add (Int.toNat (1 : Int) * 1)) fun (x2 : Int) =>
  F_alike_Round x1 n w1.drew fun (x3 : Int) w2 =>
  w2.cell? ((a2.add (Int.toNat t1.2.1 * 3)).add (Int.toNat (1 : Int) * 1)) = some (Value.int .i64 x2) ∧
  F_alike_Round x2 n w2 fun (x4 : Int) w3 =>
  cond (x3 != x4)
  ((0 ≤ t1.2.1 ∧ t1.2.1 < ((l.l : Nat) : Int)) ∧
  onSome l.b fun a3 =>
  (0 ≤ (2 : Int) ∧ (2 : Int) < ((3 : Nat) : Int)) ∧
  ld1 (.int .i64) w3 ((a3.add (Int.toNat t1.2.1 * 3)).add (Int.toNat (2 : Int) * 1)) fun (x5 : Int) =>
  F_alike_Round x5 (20 : Int) w3 fun (x6 : Int) w4 =>
  allocD w4 #[Value.int .i64 x3, Value.int .i64 x4, Value.int .i64 (IntKind.wrap .i64 ((1 : Int) + x6)), Value.int .i64 (-1 : Int)] 38 fun a4 w5 =>
  appendD Try.prog 39 39 t1.1 (Value.slice (some a4) 1 1) w5 fun (s1 : Sl) w6 =>
  X1 (s1, (IntKind.wrap .i64 (t1.2.1 + (1 : Int))), ()) w6)
  (X1 (t1.1, (IntKind.wrap .i64 (t1.2.1 + (1 : Int))), ()) w3))
  (Q t1.1 w1))
  (Q t1.1 w1)) → X1 t1 w1) →
  X1 (⟨none, 0, 0⟩, (0 : Int), ()) w
def G_law18_arcs (t : KTs [.c (.int .i64), .c .slice]) (w : World) (K : Value → World → Prop) : Prop := F_law18_arcs t.1 t.2.1 w fun (r0 : Sl) w1 => K (Value.slice r0.b r0.l r0.c) w1
abbrev T_law18_arcs : Tr := fun args w K => decK [.c (.int .i64), .c .slice] args fun t => G_law18_arcs t w K
theorem S_law18_arcs : Sound Try.prog 32 T_law18_arcs := sound_of (fn := Try.f32) Try.func32 (by kernel_rfl) mixed (by kernel_rfl) (.s .n (.s .n (.s (.s .n (.b (.l [(5, .c .slice), (6, .c (.int .i64))] [5, 6, 7, 8, 9, 10, 11, 12, 13, 14, 15, 16, 17, 18, 19, 20, 21, 22, 23, 24, 25, 26, 27, 28, 29, 30, 31, 32, 33, 34, 35, 36, 37, 38, 39, 40, 41, 42, 43, 44, 45, 46, 47, 48] (.s .n (.s (.b (.s (.r (.fl 0 (.fl 1 (.fl 2 (.fl 3 (.fl 4 (.fl 5 (.fl 7 (.fl 8 (.fl 9 (.fl 10 (.fl 11 (.fl 12 (.mn 6 (.mn 13 (.fl 14 (.fl 15 .fin)) .no) .no)))))))))))))) .n)) .n))))) .n))) [(9, T_alike_Round)] ⟨⟨by kernel_rfl, S_alike_Round⟩, trivial⟩ [.c (.int .i64), .c .slice] (by kernel_rfl) G_law18_arcs fun t w K => by kernel_rfl

/-- milepost/milepostlaw18.made -/
def F_law18_made (n : Int) (l : Sl) (w : World) (Q : (Option Addr) → (Option Addr) → World → Prop) : Prop :=
  F_law18_arcs n l w fun (s1 : Sl) w1 =>
  F_net_New n s1 w1 fun (p1 : Option Addr) (x1 : Int) w2 =>
  cond (x1 != (0 : Int))
  (Q none none w2)
  (F_law18_arcs n l w2 fun (s2 : Sl) w3 =>
  F_ref4_NewNet n s2 w3 fun (p2 : Option Addr) w4 =>
  Q p1 p2 w4)
def G_law18_made (t : KTs [.c (.int .i64), .c .slice]) (w : World) (K : Value → World → Prop) : Prop := F_law18_made t.1 t.2.1 w fun (r0 : Option Addr) (r1 : Option Addr) w1 => K (Value.tuple #[(Value.pointer r0), (Value.pointer r1)]) w1
abbrev T_law18_made : Tr := fun args w K => decK [.c (.int .i64), .c .slice] args fun t => G_law18_made t w K
theorem S_law18_made : Sound Try.prog 21 T_law18_made := sound_of (fn := Try.f21) Try.func21 (by kernel_rfl) mixed (by kernel_rfl) (.n) [(31, T_net_New), (32, T_law18_arcs), (33, T_ref4_NewNet)] ⟨⟨by kernel_rfl, S_net_New⟩, ⟨by kernel_rfl, S_law18_arcs⟩, ⟨by kernel_rfl, S_ref4_NewNet⟩, trivial⟩ [.c (.int .i64), .c .slice] (by kernel_rfl) G_law18_made fun t w K => by kernel_rfl

/-- milepost/milepostlaw18.built -/
def F_law18_built (n : Int) (l : Sl) (w : World) (Q : (Option Addr) → (Option Addr) → (Option Addr) → World → Prop) : Prop :=
  F_law18_made n l w fun (p1 : Option Addr) (p2 : Option Addr) w1 =>
  cond (Option.isNone p1)
  (Q none none none w1)
  (F_levels_Build p1 w1 fun (p3 : Option Addr) w2 =>
  F_ref4_Build p2 w2 fun (p4 : Option Addr) w3 =>
  Q p3 p4 p2 w3)
def G_law18_built (t : KTs [.c (.int .i64), .c .slice]) (w : World) (K : Value → World → Prop) : Prop := F_law18_built t.1 t.2.1 w fun (r0 : Option Addr) (r1 : Option Addr) (r2 : Option Addr) w1 => K (Value.tuple #[(Value.pointer r0), (Value.pointer r1), (Value.pointer r2)]) w1
abbrev T_law18_built : Tr := fun args w K => decK [.c (.int .i64), .c .slice] args fun t => G_law18_built t w K
theorem S_law18_built : Sound Try.prog 8 T_law18_built := sound_of (fn := Try.f8) Try.func8 (by kernel_rfl) mixed (by kernel_rfl) (.n) [(21, T_law18_made), (22, T_levels_Build), (23, T_ref4_Build)] ⟨⟨by kernel_rfl, S_law18_made⟩, ⟨by kernel_rfl, S_levels_Build⟩, ⟨by kernel_rfl, S_ref4_Build⟩, trivial⟩ [.c (.int .i64), .c .slice] (by kernel_rfl) G_law18_built fun t w K => by kernel_rfl

/-- milepost/milepostlaw18.awake -/
def F_law18_awake  (w : World) (Q : Bool → World → Prop) : Prop :=
  allocD w #[Value.int .i64 (0 : Int), Value.int .i64 (1 : Int), Value.int .i64 (0 : Int), Value.int .i64 (1 : Int), Value.int .i64 (2 : Int), Value.int .i64 (4 : Int)] 51 fun a1 w1 =>
  F_law18_built (3 : Int) ⟨(some a1), 2, 2⟩ w1 fun (p1 : Option Addr) (_ : Option Addr) (_ : Option Addr) w2 =>
  cond (Option.isNone p1)
  (Q false w2)
  (allocD w2 #[Value.int .i64 (2 : Int)] 3 fun a2 w3 =>
  F_search_Dist p1 (0 : Int) ⟨(some a2), 1, 1⟩ w3 fun (x1 : Int) (b1 : Bool) w4 =>
  allocD w4 #[Value.int .i64 (2 : Int), Value.int .i64 (9 : Int)] 3 fun a3 w5 =>
  F_search_Path p1 (0 : Int) ⟨(some a3), 2, 2⟩ w5 fun (s1 : Sl) (b2 : Bool) w6 =>
  allocD w6 #[Value.int .i64 (0 : Int)] 3 fun a4 w7 =>
  F_search_Dist p1 (2 : Int) ⟨(some a4), 1, 1⟩ w7 fun (_ : Int) (b3 : Bool) w8 =>
  allocD w8 #[Value.int .i64 (0 : Int)] 3 fun a5 w9 =>
  F_search_Dist none (0 : Int) ⟨(some a5), 1, 1⟩ w9 fun (_ : Int) (b4 : Bool) w10 =>
  allocD w10 #[Value.int .i64 (0 : Int)] 3 fun a6 w11 =>
  F_search_Up p1 ⟨(some a6), 1, 1⟩ w11 fun (s2 : Sl) w12 =>
  cond (x1 == (6 : Int))
  (cond b1
  (cond b2
  (allocD w12 #[Value.int .i64 (0 : Int), Value.int .i64 (1 : Int), Value.int .i64 (2 : Int)] 3 fun a7 w13 =>
  F_alike_Ints s1 ⟨(some a7), 3, 3⟩ w13 fun (b5 : Bool) w14 =>
  cond b5
  (cond (!b3)
  (cond (!b4)
  (cond (((s2.l : Nat) : Int) == (3 : Int))
  ((0 ≤ (0 : Int) ∧ (0 : Int) < ((s2.l : Nat) : Int)) ∧
  onSome s2.b fun a8 =>
  ld1 (.int .i64) w14 (a8.add (Int.toNat (0 : Int) * 1)) fun (x4 : Int) =>
  cond (x4 == (0 : Int))
  (allocD w14 #[Value.int .i64 (0 : Int)] 3 fun a9 w15 =>
  F_search_Up none ⟨(some a9), 1, 1⟩ w15 fun (s3 : Sl) w16 =>
  Q (((s3.l : Nat) : Int) == (0 : Int)) w16)
  (Q false w14))
  (Q false w14))
  (Q false w14))
  (Q false w14))
  (Q false w14))
  (Q false w12))
  (Q false w12))
  (Q false w12))
def G_law18_awake (_ : KTs []) (w : World) (K : Value → World → Prop) : Prop := F_law18_awake  w fun (r0 : Bool) w1 => K (Value.bool r0) w1
abbrev T_law18_awake : Tr := fun args w K => decK [] args fun t => G_law18_awake t w K
theorem S_law18_awake : Sound Try.prog 7 T_law18_awake := sound_of (fn := Try.f7) Try.func7 (by kernel_rfl) mixed (by kernel_rfl) (.n) [(8, T_law18_built), (11, T_search_Dist), (12, T_search_Path), (15, T_alike_Ints), (16, T_search_Up)] ⟨⟨by kernel_rfl, S_law18_built⟩, ⟨by kernel_rfl, S_search_Dist⟩, ⟨by kernel_rfl, S_search_Path⟩, ⟨by kernel_rfl, S_alike_Ints⟩, ⟨by kernel_rfl, S_search_Up⟩, trivial⟩ [] (by kernel_rfl) G_law18_awake fun t w K => by kernel_rfl

/-- milepost/milepostlaw18.SearchFar -/
def F_law18_SearchFar (n : Int) (l : Sl) (from_ : Int) (to : Sl) (w : World) (Q : Bool → World → Prop) : Prop :=
  cond (decide (n < (1 : Int)))
  (F_law18_awake  w fun (b1 : Bool) w1 =>
  Q b1 w1)
  (cond (decide (n > (20 : Int)))
  (F_law18_awake  w fun (b2 : Bool) w2 =>
  Q b2 w2)
  (cond (decide (((l.l : Nat) : Int) > (80 : Int)))
  (F_law18_awake  w fun (b3 : Bool) w3 =>
  Q b3 w3)
  (cond (decide (((to.l : Nat) : Int) > (8 : Int)))
  (F_law18_awake  w fun (b4 : Bool) w4 =>
  Q b4 w4)
  (F_law18_built n l w fun (p1 : Option Addr) (_ : Option Addr) (p3 : Option Addr) w5 =>
  cond (Option.isNone p1)
  (Q false w5)
  (F_alike_Round from_ n w5 fun (x1 : Int) w6 =>
  F_ref4_Net_All p3 x1 w6 fun (s1 : Sl) w7 =>
  ∀ X1 : (Int × Int × Unit) → World → Prop, (∀ (t1 : Int × Int × Unit) (w8 : World), (
  cond (decide (t1.2.1 < ((to.l : Nat) : Int)))
  (∀ J1 : (Int × Unit) → World → Prop, (∀ (t2 : Int × Unit) (w9 : World), (
  X1 (t2.1, (IntKind.wrap .i64 (t1.2.1 + (1 : Int))), ()) w9) → J1 t2 w9) →
  (0 ≤ t1.2.1 ∧ t1.2.1 < ((to.l : Nat) : Int)) ∧
  onSome to.b fun a1 =>
  ld1 (.int .i64) w8 (a1.add (Int.toNat t1.2.1 * 1)) fun (x2 : Int) =>
  cond (decide (x2 ≥ (0 : Int)))
  ((0 ≤ t1.2.1 ∧ t1.2.1 < ((to.l : Nat) : Int)) ∧
  onSome to.b fun a2 =>
  ld1 (.int .i64) w8 (a2.add (Int.toNat t1.2.1 * 1)) fun (x3 : Int) =>
  cond (decide (x3 < n))
  ((0 ≤ t1.2.1 ∧ t1.2.1 < ((to.l : Nat) : Int)) ∧
  onSome to.b fun a3 =>
  ld1 (.int .i64) w8 (a3.add (Int.toNat t1.2.1 * 1)) fun (x4 : Int) =>
  (0 ≤ x4 ∧ x4 < ((s1.l : Nat) : Int)) ∧
  onSome s1.b fun a4 =>
  ld1 (.int .i64) w8 (a4.add (Int.toNat x4 * 1)) fun (x5 : Int) =>
  cond (decide (x5 ≥ (0 : Int)))
  (cond (decide (t1.1 < (0 : Int)))
  ((0 ≤ t1.2.1 ∧ t1.2.1 < ((to.l : Nat) : Int)) ∧
  onSome to.b fun a5 =>
  ld1 (.int .i64) w8 (a5.add (Int.toNat t1.2.1 * 1)) fun (x6 : Int) =>
  (0 ≤ x6 ∧ x6 < ((s1.l : Nat) : Int)) ∧
  onSome s1.b fun a6 =>
  ld1 (.int .i64) w8 (a6.add (Int.toNat x6 * 1)) fun (x7 : Int) =>
  J1 (x7, ()) w8)
  ((0 ≤ t1.2.1 ∧ t1.2.1 < ((to.l : Nat) : Int)) ∧
  onSome to.b fun a7 =>
  ld1 (.int .i64) w8 (a7.add (Int.toNat t1.2.1 * 1)) fun (x8 : Int) =>
  (0 ≤ x8 ∧ x8 < ((s1.l : Nat) : Int)) ∧
  onSome s1.b fun a8 =>
  ld1 (.int .i64) w8 (a8.add (Int.toNat x8 * 1)) fun (x9 : Int) =>
  cond (decide (x9 < t1.1))
  ((0 ≤ t1.2.1 ∧ t1.2.1 < ((to.l : Nat) : Int)) ∧
  onSome to.b fun a9 =>
  ld1 (.int .i64) w8 (a9.add (Int.toNat t1.2.1 * 1)) fun (x10 : Int) =>
  (0 ≤ x10 ∧ x10 < ((s1.l : Nat) : Int)) ∧
  onSome s1.b fun a10 =>
  ld1 (.int .i64) w8 (a10.add (Int.toNat x10 * 1)) fun (x11 : Int) =>
  J1 (x11, ()) w8)
  (J1 (t1.1, ()) w8)))
  (J1 (t1.1, ()) w8))
  (J1 (t1.1, ()) w8))
  (J1 (t1.1, ()) w8))
  (F_search_Dist p1 x1 to w8 fun (x12 : Int) (b5 : Bool) w10 =>
  F_search_Path p1 x1 to w10 fun (s2 : Sl) (b6 : Bool) w11 =>
  cond (!(b5 == (decide (t1.1 ≥ (0 : Int)))))
  (Q false w11)
  (cond (!(b6 == b5))
  (Q false w11)
  (cond (x12 != (maxInt t1.1 (0 : Int)))
  (Q false w11)
  (cond (!b5)
  (cond (((s2.l : Nat) : Int) == (0 : Int))
  (F_law18_awake  w11 fun (b7 : Bool) w12 =>
  Q b7 w12)
  (Q false w11))
  (∀ X2 : (Int × Int × Unit) → World → Prop, (∀ (t3 : Int × Int × Unit) (w13 : World), (
  cond (decide ((IntKind.wrap .i64 (t3.2.1 + (1 : Int))) < ((s2.l : Nat) : Int)))
  ((0 ≤ t3.2.1 ∧ t3.2.1 < ((s2.l : Nat) : Int)) ∧
  onSome s2.b fun a11 =>
  ld1 (.int .i64) w13.drew (a11.add (Int.toNat t3.2.1 * 1)) fun (x13 : Int) =>
  (0 ≤ IntKind.wrap .i64 (t3.2.1 + (1 : Int)) ∧ IntKind.wrap .i64 (t3.2.1 + (1 : Int)) < ((s2.l : Nat) : Int)) ∧
  onSome s2.b fun a12 =>
  ld1 (.int .i64) w13.drew (a12.add (Int.toNat (IntKind.wrap .i64 (t3.2.1 + (1 : Int))) * 1)) fun (x14 : Int) =>
  F_ref4_Net_Find p3 x13 x14 w13.drew fun (x15 : Int) (b8 : Bool) w14 =>
  cond (!b8)
  (Q false w14)
  (onSome p3 fun a13 =>
  ld1 .slice w14 (a13.add 1) fun (s3 : Sl) =>
  (0 ≤ x15 ∧ x15 < ((s3.l : Nat) : Int)) ∧
  onSome s3.b fun a14 =>
  ld1 (.int .i64) w14 ((a14.add (Int.toNat x15 * 4)).add 2) fun (x16 : Int) =>
  X2 ((IntKind.wrap .i64 (t3.1 + x16)), (IntKind.wrap .i64 (t3.2.1 + (1 : Int))), ()) w14))
  (∀ J2 : (Bool × Unit) → World → Prop, (∀ (t4 : Bool × Unit) (w15 : World), (
  cond (decide (((s2.l : Nat) : Int) > (0 : Int)))
  ((0 ≤ (0 : Int) ∧ (0 : Int) < ((s2.l : Nat) : Int)) ∧
  onSome s2.b fun a15 =>
  ld1 (.int .i64) w15 (a15.add (Int.toNat (0 : Int) * 1)) fun (x17 : Int) =>
  cond (x17 == x1)
  (cond t4.1
  (cond (t3.1 == t1.1)
  (F_law18_awake  w15 fun (b9 : Bool) w16 =>
  Q b9 w16)
  (Q false w15))
  (Q false w15))
  (Q false w15))
  (Q false w15)) → J2 t4 w15) →
  ∀ X3 : (Bool × Int × Unit) → World → Prop, (∀ (t5 : Bool × Int × Unit) (w17 : World), (
  cond (decide (t5.2.1 < ((to.l : Nat) : Int)))
  (cond (decide (((s2.l : Nat) : Int) > (0 : Int)))
  (cond t5.1
  (X3 (true, (IntKind.wrap .i64 (t5.2.1 + (1 : Int))), ()) w17.drew)
  ((0 ≤ t5.2.1 ∧ t5.2.1 < ((to.l : Nat) : Int)) ∧
  onSome to.b fun a16 =>
  ld1 (.int .i64) w17.drew (a16.add (Int.toNat t5.2.1 * 1)) fun (x18 : Int) =>
  (0 ≤ IntKind.wrap .i64 (((s2.l : Nat) : Int) - (1 : Int)) ∧ IntKind.wrap .i64 (((s2.l : Nat) : Int) - (1 : Int)) < ((s2.l : Nat) : Int)) ∧
  onSome s2.b fun a17 =>
  ld1 (.int .i64) w17.drew (a17.add (Int.toNat (IntKind.wrap .i64 (((s2.l : Nat) : Int) - (1 : Int))) * 1)) fun (x19 : Int) =>
  X3 ((x18 == x19), (IntKind.wrap .i64 (t5.2.1 + (1 : Int))), ()) w17.drew))
  (J2 (t5.1, ()) w17))
  (J2 (t5.1, ()) w17)) → X3 t5 w17) →
  X3 (false, (0 : Int), ()) w13)) → X2 t3 w13) →
  X2 ((0 : Int), (0 : Int), ()) w11)))))) → X1 t1 w8) →
  X1 ((-1 : Int), (0 : Int), ()) w7)))))
def G_law18_SearchFar (t : KTs [.c (.int .i64), .c .slice, .c (.int .i64), .c .slice]) (w : World) (K : Value → World → Prop) : Prop := F_law18_SearchFar t.1 t.2.1 t.2.2.1 t.2.2.2.1 w fun (r0 : Bool) w1 => K (Value.bool r0) w1
abbrev T_law18_SearchFar : Tr := fun args w K => decK [.c (.int .i64), .c .slice, .c (.int .i64), .c .slice] args fun t => G_law18_SearchFar t w K
theorem S_law18_SearchFar : Sound Try.prog 3 T_law18_SearchFar := sound_of (fn := Try.f3) Try.func3 (by kernel_rfl) mixed (by kernel_rfl) (.s .n (.s .n (.s .n (.s .n (.s .n (.s .n (.s .n (.s (.s .n (.b (.l [(14, .c (.int .i64)), (15, .c (.int .i64))] [14, 15, 58, 59, 60, 61, 62, 63, 64, 65, 66, 67, 68, 69, 70, 71, 72, 73, 74, 75, 76, 77, 78, 79, 80, 81, 82, 83, 84, 85, 86, 87, 88, 89, 90, 91, 92, 93, 94, 95, 96, 97, 98, 99, 100, 101, 102, 103, 104, 105, 106, 107, 108] (.s .n (.j [(14, .c (.int .i64))] [14, 64, 65, 66, 67, 68, 69, 70, 71, 72, 73, 74, 75, 76, 77, 78, 79, 80, 81, 82, 83, 84, 85, 86, 87, 88, 89, 90, 91, 92, 93, 94, 95, 96, 97, 98, 99, 100, 101, 102, 103, 104, 105, 106, 107, 108] .n .n))))) (.s .n (.s .n (.s .n (.s .n (.s .n (.s (.s .n (.b (.l [(20, .c (.int .i64)), (21, .c (.int .i64))] [8, 20, 21, 22, 23, 146, 147, 148, 149, 150, 151, 152, 153, 154, 155, 156, 157, 158, 159, 160, 161, 162, 163, 164, 165, 166, 167, 168, 169, 170, 171, 172, 173, 174, 175, 176, 177, 178] (.s .n (.s (.b (.s (.r (.fl 0 (.fl 1 (.fl 2 (.fl 3 (.fl 4 (.fl 5 (.fl 6 (.fl 7 (.fl 8 (.fl 9 (.mn 10 (.fl 11 (.fl 12 (.fl 13 (.fl 14 (.fl 15 .fin))))) .no)))))))))))) .n)) .n))))) (.s .n (.j [(24, .c .bool)] [24, 25, 179, 180, 181, 182, 183, 184, 185, 186, 187, 188, 189, 190, 191, 192, 193, 194, 195, 196, 197, 198, 199, 200, 201, 202, 203] (.s .n (.b (.l [(24, .c .bool), (25, .c (.int .i64))] [24, 25, 179, 180, 181, 182, 183, 184, 185, 186, 187, 188, 189, 190, 191, 192, 193, 194, 195, 196, 197, 198, 199, 200, 201, 202, 203] (.s .n (.s (.b (.r (.fl 0 (.fl 1 (.fl 2 (.fl 3 (.fl 4 (.fl 5 (.fl 6 (.fl 7 (.fl 8 (.fl 9 (.fl 10 (.fl 11 (.fl 12 (.fl 13 (.fl 14 .fin))))))))))))))))) .n))))) .n)))))))))))))))) [(7, T_law18_awake), (8, T_law18_built), (9, T_alike_Round), (10, T_ref4_Net_All), (11, T_search_Dist), (12, T_search_Path), (13, T_ref4_Net_Find)] ⟨⟨by kernel_rfl, S_law18_awake⟩, ⟨by kernel_rfl, S_law18_built⟩, ⟨by kernel_rfl, S_alike_Round⟩, ⟨by kernel_rfl, S_ref4_Net_All⟩, ⟨by kernel_rfl, S_search_Dist⟩, ⟨by kernel_rfl, S_search_Path⟩, ⟨by kernel_rfl, S_ref4_Net_Find⟩, trivial⟩ [.c (.int .i64), .c .slice, .c (.int .i64), .c .slice] (by kernel_rfl) G_law18_SearchFar fun t w K => by kernel_rfl

/-- milepost/milepostlaw18.SearchNearest -/
def F_law18_SearchNearest (n : Int) (l : Sl) (from_ : Int) (to : Sl) (more : Sl) (w : World) (Q : Bool → World → Prop) : Prop :=
  cond (decide (n < (1 : Int)))
  (F_law18_awake  w fun (b1 : Bool) w1 =>
  Q b1 w1)
  (cond (decide (n > (20 : Int)))
  (F_law18_awake  w fun (b2 : Bool) w2 =>
  Q b2 w2)
  (cond (decide (((l.l : Nat) : Int) > (80 : Int)))
  (F_law18_awake  w fun (b3 : Bool) w3 =>
  Q b3 w3)
  (cond (decide (((to.l : Nat) : Int) > (6 : Int)))
  (F_law18_awake  w fun (b4 : Bool) w4 =>
  Q b4 w4)
  (cond (decide (((more.l : Nat) : Int) > (6 : Int)))
  (F_law18_awake  w fun (b5 : Bool) w5 =>
  Q b5 w5)
  (F_law18_built n l w fun (p1 : Option Addr) (_ : Option Addr) (_ : Option Addr) w6 =>
  cond (Option.isNone p1)
  (Q false w6)
  (F_alike_Round from_ n w6 fun (x1 : Int) w7 =>
  ∀ X1 : (Int × Int × Unit) → World → Prop, (∀ (t1 : Int × Int × Unit) (w8 : World), (
  cond (decide (t1.2.1 < ((to.l : Nat) : Int)))
  ((0 ≤ t1.2.1 ∧ t1.2.1 < ((to.l : Nat) : Int)) ∧
  onSome to.b fun a1 =>
  ld1 (.int .i64) w8 (a1.add (Int.toNat t1.2.1 * 1)) fun (x2 : Int) =>
  allocD w8 #[Value.int .i64 x2] 3 fun a2 w9 =>
  F_search_Dist p1 x1 ⟨(some a2), 1, 1⟩ w9 fun (x3 : Int) (b6 : Bool) w10 =>
  cond b6
  (cond (decide (t1.1 < (0 : Int)))
  (X1 (x3, (IntKind.wrap .i64 (t1.2.1 + (1 : Int))), ()) w10)
  (cond (decide (x3 < t1.1))
  (X1 (x3, (IntKind.wrap .i64 (t1.2.1 + (1 : Int))), ()) w10)
  (X1 (t1.1, (IntKind.wrap .i64 (t1.2.1 + (1 : Int))), ()) w10)))
  (X1 (t1.1, (IntKind.wrap .i64 (t1.2.1 + (1 : Int))), ()) w10))
  (F_search_Dist p1 x1 to w8 fun (x4 : Int) (b7 : Bool) w11 =>
  allocD w11 #[] 3 fun a3 w12 =>
  appendD Try.prog 23 23 ⟨(some a3), 0, 0⟩ (Value.slice to.b to.l to.c) w12 fun (s1 : Sl) w13 =>
  appendD Try.prog 23 23 s1 (Value.slice more.b more.l more.c) w13 fun (s2 : Sl) w14 =>
  F_search_Dist p1 x1 s2 w14 fun (x5 : Int) (b8 : Bool) w15 =>
  allocD w15 #[] 3 fun a4 w16 =>
  appendD Try.prog 23 23 ⟨(some a4), 0, 0⟩ (Value.slice to.b to.l to.c) w16 fun (s3 : Sl) w17 =>
  allocD w17 #[Value.int .i64 x1] 3 fun a5 w18 =>
  appendD Try.prog 23 23 s3 (Value.slice (some a5) 1 1) w18 fun (s4 : Sl) w19 =>
  F_search_Dist p1 x1 s4 w19 fun (x6 : Int) (b9 : Bool) w20 =>
  cond (b7 == (decide (t1.1 ≥ (0 : Int))))
  (cond (x4 == (maxInt t1.1 (0 : Int)))
  (cond (!b7)
  (cond b9
  (cond (x6 == (0 : Int))
  (F_law18_awake  w20 fun (b10 : Bool) w21 =>
  Q b10 w21)
  (Q false w20))
  (Q false w20))
  (cond b8
  (cond (decide (x5 ≤ x4))
  (cond b9
  (cond (x6 == (0 : Int))
  (F_law18_awake  w20 fun (b11 : Bool) w22 =>
  Q b11 w22)
  (Q false w20))
  (Q false w20))
  (Q false w20))
  (Q false w20)))
  (Q false w20))
  (Q false w20))) → X1 t1 w8) →
  X1 ((-1 : Int), (0 : Int), ()) w7))))))
def G_law18_SearchNearest (t : KTs [.c (.int .i64), .c .slice, .c (.int .i64), .c .slice, .c .slice]) (w : World) (K : Value → World → Prop) : Prop := F_law18_SearchNearest t.1 t.2.1 t.2.2.1 t.2.2.2.1 t.2.2.2.2.1 w fun (r0 : Bool) w1 => K (Value.bool r0) w1
abbrev T_law18_SearchNearest : Tr := fun args w K => decK [.c (.int .i64), .c .slice, .c (.int .i64), .c .slice, .c .slice] args fun t => G_law18_SearchNearest t w K
theorem S_law18_SearchNearest : Sound Try.prog 4 T_law18_SearchNearest := sound_of (fn := Try.f4) Try.func4 (by kernel_rfl) mixed (by kernel_rfl) (.s .n (.s .n (.s .n (.s .n (.s .n (.s .n (.s (.s .n (.b (.l [(15, .c (.int .i64)), (16, .c (.int .i64))] [15, 16, 17, 18, 59, 60, 61, 62, 63, 64, 65, 66, 67, 68, 69, 70, 71, 72, 73, 74, 75, 76, 77, 78, 79, 80, 81, 82, 83, 84, 85, 86] .n))) .n))))))) [(7, T_law18_awake), (8, T_law18_built), (9, T_alike_Round), (11, T_search_Dist)] ⟨⟨by kernel_rfl, S_law18_awake⟩, ⟨by kernel_rfl, S_law18_built⟩, ⟨by kernel_rfl, S_alike_Round⟩, ⟨by kernel_rfl, S_search_Dist⟩, trivial⟩ [.c (.int .i64), .c .slice, .c (.int .i64), .c .slice, .c .slice] (by kernel_rfl) G_law18_SearchNearest fun t w K => by kernel_rfl

/-- milepost/milepostlaw18.SearchTells -/
def F_law18_SearchTells (n : Int) (l : Sl) (from_ : Sl) (to : Sl) (w : World) (Q : Bool → World → Prop) : Prop :=
  cond (decide (n < (0 : Int)))
  (F_law18_awake  w fun (b1 : Bool) w1 =>
  Q b1 w1)
  (cond (decide (n > (20 : Int)))
  (F_law18_awake  w fun (b2 : Bool) w2 =>
  Q b2 w2)
  (cond (decide (((l.l : Nat) : Int) > (60 : Int)))
  (F_law18_awake  w fun (b3 : Bool) w3 =>
  Q b3 w3)
  (cond (decide (((from_.l : Nat) : Int) > (8 : Int)))
  (F_law18_awake  w fun (b4 : Bool) w4 =>
  Q b4 w4)
  (cond (decide (((to.l : Nat) : Int) > (8 : Int)))
  (F_law18_awake  w fun (b5 : Bool) w5 =>
  Q b5 w5)
  (F_law18_built n l w fun (p1 : Option Addr) (p2 : Option Addr) (_ : Option Addr) w6 =>
  cond (Option.isNone p1)
  (Q false w6)
  (∀ X1 : (Int × Unit) → World → Prop, (∀ (t1 : Int × Unit) (w7 : World), (
  cond (decide (t1.1 < ((from_.l : Nat) : Int)))
  ((0 ≤ t1.1 ∧ t1.1 < ((from_.l : Nat) : Int)) ∧
  onSome from_.b fun a1 =>
  ld1 (.int .i64) w7 (a1.add (Int.toNat t1.1 * 1)) fun (x1 : Int) =>
  F_search_Dist p1 x1 to w7 fun (x2 : Int) (b6 : Bool) w8 =>
  (0 ≤ t1.1 ∧ t1.1 < ((from_.l : Nat) : Int)) ∧
  onSome from_.b fun a2 =>
  ld1 (.int .i64) w8 (a2.add (Int.toNat t1.1 * 1)) fun (x3 : Int) =>
  F_ref4_Levels_Dist p2 x3 to w8 fun (x4 : Int) w9 =>
  cond (!(b6 == (decide (x4 ≥ (0 : Int)))))
  (Q false w9)
  (cond (x2 != (maxInt x4 (0 : Int)))
  (Q false w9)
  (X1 ((IntKind.wrap .i64 (t1.1 + (1 : Int))), ()) w9)))
  (F_search_Up p1 from_ w7 fun (s1 : Sl) w10 =>
  F_ref4_Levels_UpAll p2 from_ w10 fun (s2 : Sl) w11 =>
  F_alike_Ints s1 s2 w11 fun (b7 : Bool) w12 =>
  cond b7
  (F_search_Down p1 to w12 fun (s3 : Sl) w13 =>
  F_ref4_Levels_DownAll p2 to w13 fun (s4 : Sl) w14 =>
  F_alike_Ints s3 s4 w14 fun (b8 : Bool) w15 =>
  cond b8
  (F_law18_awake  w15 fun (b9 : Bool) w16 =>
  Q b9 w16)
  (Q false w15))
  (Q false w12))) → X1 t1 w7) →
  X1 ((0 : Int), ()) w6))))))
def G_law18_SearchTells (t : KTs [.c (.int .i64), .c .slice, .c .slice, .c .slice]) (w : World) (K : Value → World → Prop) : Prop := F_law18_SearchTells t.1 t.2.1 t.2.2.1 t.2.2.2.1 w fun (r0 : Bool) w1 => K (Value.bool r0) w1
abbrev T_law18_SearchTells : Tr := fun args w K => decK [.c (.int .i64), .c .slice, .c .slice, .c .slice] args fun t => G_law18_SearchTells t w K
theorem S_law18_SearchTells : Sound Try.prog 5 T_law18_SearchTells := sound_of (fn := Try.f5) Try.func5 (by kernel_rfl) mixed (by kernel_rfl) (.s .n (.s .n (.s .n (.s .n (.s (.s .n (.b (.l [(12, .c (.int .i64))] [8, 12, 13, 14, 15, 47, 48, 49, 50, 51, 52, 53, 54, 55, 56, 57, 58, 59, 60, 61, 62, 63, 64, 65, 66, 67, 68, 69, 70, 71, 72, 73, 74, 75, 76, 77, 78, 79] .n))) .n))))) [(7, T_law18_awake), (8, T_law18_built), (11, T_search_Dist), (14, T_ref4_Levels_Dist), (15, T_alike_Ints), (16, T_search_Up), (17, T_ref4_Levels_UpAll), (18, T_search_Down), (19, T_ref4_Levels_DownAll)] ⟨⟨by kernel_rfl, S_law18_awake⟩, ⟨by kernel_rfl, S_law18_built⟩, ⟨by kernel_rfl, S_search_Dist⟩, ⟨by kernel_rfl, S_ref4_Levels_Dist⟩, ⟨by kernel_rfl, S_alike_Ints⟩, ⟨by kernel_rfl, S_search_Up⟩, ⟨by kernel_rfl, S_ref4_Levels_UpAll⟩, ⟨by kernel_rfl, S_search_Down⟩, ⟨by kernel_rfl, S_ref4_Levels_DownAll⟩, trivial⟩ [.c (.int .i64), .c .slice, .c .slice, .c .slice] (by kernel_rfl) G_law18_SearchTells fun t w K => by kernel_rfl

/-- milepost/milepostlaw18.SearchUps -/
def F_law18_SearchUps (n : Int) (l : Sl) (at_ : Int) (w : World) (Q : Bool → World → Prop) : Prop :=
  cond (decide (n < (1 : Int)))
  (F_law18_awake  w fun (b1 : Bool) w1 =>
  Q b1 w1)
  (cond (decide (n > (20 : Int)))
  (F_law18_awake  w fun (b2 : Bool) w2 =>
  Q b2 w2)
  (cond (decide (((l.l : Nat) : Int) > (80 : Int)))
  (F_law18_awake  w fun (b3 : Bool) w3 =>
  Q b3 w3)
  (F_law18_built n l w fun (p1 : Option Addr) (_ : Option Addr) (p3 : Option Addr) w4 =>
  cond (Option.isNone p1)
  (Q false w4)
  (F_alike_Round at_ n w4 fun (x1 : Int) w5 =>
  allocD w5 #[Value.int .i64 x1] 3 fun a1 w6 =>
  F_search_Up p1 ⟨(some a1), 1, 1⟩ w6 fun (s1 : Sl) w7 =>
  allocD w7 #[Value.int .i64 x1] 3 fun a2 w8 =>
  F_search_Down p1 ⟨(some a2), 1, 1⟩ w8 fun (s2 : Sl) w9 =>
  cond (((s1.l : Nat) : Int) != n)
  (Q false w9)
  (cond (((s2.l : Nat) : Int) != n)
  (Q false w9)
  ((0 ≤ x1 ∧ x1 < ((s1.l : Nat) : Int)) ∧
  onSome s1.b fun a3 =>
  ld1 (.int .i64) w9 (a3.add (Int.toNat x1 * 1)) fun (x2 : Int) =>
  cond (x2 != (0 : Int))
  (Q false w9)
  ((0 ≤ x1 ∧ x1 < ((s2.l : Nat) : Int)) ∧
  onSome s2.b fun a4 =>
  ld1 (.int .i64) w9 (a4.add (Int.toNat x1 * 1)) fun (x3 : Int) =>
  cond (x3 != (0 : Int))
  (Q false w9)
  (F_ref4_Net_All p3 x1 w9 fun (s3 : Sl) w10 =>
  ∀ X1 : (Int × Unit) → World → Prop, (∀ (t1 : Int × Unit) (w11 : World), (
  cond (decide (t1.1 < n))
  (∀ J1 : (Unit) → World → Prop, (∀ (t2 : Unit) (w12 : World), (
  X1 ((IntKind.wrap .i64 (t1.1 + (1 : Int))), ()) w12) → J1 t2 w12) →
  F_ref4_Net_All p3 t1.1 w11 fun (s4 : Sl) w13 =>
  (0 ≤ x1 ∧ x1 < ((s4.l : Nat) : Int)) ∧
  onSome s4.b fun a5 =>
  ld1 (.int .i64) w13 (a5.add (Int.toNat x1 * 1)) fun (x4 : Int) =>
  (0 ≤ t1.1 ∧ t1.1 < ((s1.l : Nat) : Int)) ∧
  onSome s1.b fun a6 =>
  ld1 (.int .i64) w13.drew (a6.add (Int.toNat t1.1 * 1)) fun (x5 : Int) =>
  cond (decide (x5 ≥ (0 : Int)))
  ((0 ≤ t1.1 ∧ t1.1 < ((s3.l : Nat) : Int)) ∧
  onSome s3.b fun a7 =>
  ld1 (.int .i64) w13.drew (a7.add (Int.toNat t1.1 * 1)) fun (x6 : Int) =>
  cond (decide (x6 < (0 : Int)))
  (Q false w13.drew)
  ((0 ≤ t1.1 ∧ t1.1 < ((s3.l : Nat) : Int)) ∧
  onSome s3.b fun a8 =>
  ld1 (.int .i64) w13.drew (a8.add (Int.toNat t1.1 * 1)) fun (x7 : Int) =>
  (0 ≤ t1.1 ∧ t1.1 < ((s1.l : Nat) : Int)) ∧
  onSome s1.b fun a9 =>
  ld1 (.int .i64) w13.drew (a9.add (Int.toNat t1.1 * 1)) fun (x8 : Int) =>
  cond (decide (x7 > x8))
  (Q false w13.drew)
  (cond (t1.1 != x1)
  (F_levels_Levels_Rank p1 t1.1 w13.drew fun (x9 : Int) w14 =>
  F_levels_Levels_Rank p1 x1 w14 fun (x10 : Int) w15 =>
  cond (decide (x9 ≤ x10))
  (Q false w15)
  ((0 ≤ t1.1 ∧ t1.1 < ((s2.l : Nat) : Int)) ∧
  onSome s2.b fun a10 =>
  ld1 (.int .i64) w15 (a10.add (Int.toNat t1.1 * 1)) fun (x11 : Int) =>
  cond (decide (x11 ≥ (0 : Int)))
  (cond (decide (x4 < (0 : Int)))
  (Q false w15)
  ((0 ≤ t1.1 ∧ t1.1 < ((s2.l : Nat) : Int)) ∧
  onSome s2.b fun a11 =>
  ld1 (.int .i64) w15 (a11.add (Int.toNat t1.1 * 1)) fun (x12 : Int) =>
  cond (decide (x4 > x12))
  (Q false w15)
  (cond (t1.1 != x1)
  (F_levels_Levels_Rank p1 t1.1 w15 fun (x13 : Int) w16 =>
  F_levels_Levels_Rank p1 x1 w16 fun (x14 : Int) w17 =>
  cond (decide (x13 ≤ x14))
  (Q false w17)
  (J1 (()) w17))
  (J1 (()) w15))))
  (J1 (()) w15)))
  ((0 ≤ t1.1 ∧ t1.1 < ((s2.l : Nat) : Int)) ∧
  onSome s2.b fun a12 =>
  ld1 (.int .i64) w13.drew (a12.add (Int.toNat t1.1 * 1)) fun (x15 : Int) =>
  cond (decide (x15 ≥ (0 : Int)))
  (cond (decide (x4 < (0 : Int)))
  (Q false w13.drew)
  ((0 ≤ t1.1 ∧ t1.1 < ((s2.l : Nat) : Int)) ∧
  onSome s2.b fun a13 =>
  ld1 (.int .i64) w13.drew (a13.add (Int.toNat t1.1 * 1)) fun (x16 : Int) =>
  cond (decide (x4 > x16))
  (Q false w13.drew)
  (cond (t1.1 != x1)
  (F_levels_Levels_Rank p1 t1.1 w13.drew fun (x17 : Int) w18 =>
  F_levels_Levels_Rank p1 x1 w18 fun (x18 : Int) w19 =>
  cond (decide (x17 ≤ x18))
  (Q false w19)
  (J1 (()) w19))
  (J1 (()) w13.drew))))
  (J1 (()) w13.drew)))))
  ((0 ≤ t1.1 ∧ t1.1 < ((s2.l : Nat) : Int)) ∧
  onSome s2.b fun a14 =>
  ld1 (.int .i64) w13.drew (a14.add (Int.toNat t1.1 * 1)) fun (x19 : Int) =>
  cond (decide (x19 ≥ (0 : Int)))
  (cond (decide (x4 < (0 : Int)))
  (Q false w13.drew)
  ((0 ≤ t1.1 ∧ t1.1 < ((s2.l : Nat) : Int)) ∧
  onSome s2.b fun a15 =>
  ld1 (.int .i64) w13.drew (a15.add (Int.toNat t1.1 * 1)) fun (x20 : Int) =>
  cond (decide (x4 > x20))
  (Q false w13.drew)
  (cond (t1.1 != x1)
  (F_levels_Levels_Rank p1 t1.1 w13.drew fun (x21 : Int) w20 =>
  F_levels_Levels_Rank p1 x1 w20 fun (x22 : Int) w21 =>
  cond (decide (x21 ≤ x22))
  (Q false w21)
  (J1 (()) w21))
  (J1 (()) w13.drew))))
  (J1 (()) w13.drew)))
  (F_law18_awake  w11 fun (b4 : Bool) w22 =>
  Q b4 w22)) → X1 t1 w11) →
  X1 ((0 : Int), ()) w10))))))))
def G_law18_SearchUps (t : KTs [.c (.int .i64), .c .slice, .c (.int .i64)]) (w : World) (K : Value → World → Prop) : Prop := F_law18_SearchUps t.1 t.2.1 t.2.2.1 w fun (r0 : Bool) w1 => K (Value.bool r0) w1
abbrev T_law18_SearchUps : Tr := fun args w K => decK [.c (.int .i64), .c .slice, .c (.int .i64)] args fun t => G_law18_SearchUps t w K
theorem S_law18_SearchUps : Sound Try.prog 6 T_law18_SearchUps := sound_of (fn := Try.f6) Try.func6 (by kernel_rfl) mixed (by kernel_rfl) (.s .n (.s .n (.s .n (.s .n (.s .n (.s .n (.s .n (.s .n (.s (.s .n (.b (.l [(14, .c (.int .i64))] [6, 14, 15, 75, 76, 77, 78, 79, 80, 81, 82, 83, 84, 85, 86, 87, 88, 89, 90, 91, 92, 93, 94, 95, 96, 97, 98, 99, 100, 101, 102, 103, 104, 105, 106, 107, 108, 109, 110, 111, 112, 113, 114, 115, 116, 117, 118, 119, 120, 121, 122, 123, 124, 125, 126, 127, 128, 129, 130, 131, 132, 133, 134, 135, 136, 137, 138, 139, 140, 141, 142, 143, 144, 145, 146, 147, 148, 149, 150, 151, 152, 153, 154, 155] (.s .n (.j [] [6, 15, 80, 81, 82, 83, 84, 85, 86, 87, 88, 89, 90, 91, 92, 93, 94, 95, 96, 97, 98, 99, 100, 101, 102, 103, 104, 105, 106, 107, 108, 109, 110, 111, 112, 113, 114, 115, 116, 117, 118, 119, 120, 121, 122, 123, 124, 125, 126, 127, 128, 129, 130, 131, 132, 133, 134, 135, 136, 137, 138, 139, 140, 141, 142, 143, 144, 145, 146, 147, 148, 149, 150, 151, 152, 153, 154, 155] (.b (.s .n (.s (.r (.fl 0 (.fl 1 (.fl 2 (.fl 3 (.fl 4 (.fl 5 (.fl 6 (.fl 7 (.fl 8 (.fl 9 (.fl 10 (.fl 11 (.fl 12 (.fl 13 (.fl 14 (.fl 15 (.fl 16 (.fl 17 (.fl 18 (.fl 19 (.fl 20 (.fl 21 (.fl 22 (.fl 23 (.fl 24 (.fl 25 (.fl 26 (.fl 27 (.fl 28 (.fl 30 (.fl 31 (.mn 29 (.mn 32 (.fl 33 (.fl 34 (.fl 35 (.fl 36 (.fl 37 (.fl 38 (.fl 39 (.fl 40 (.fl 41 (.fl 42 (.fl 43 (.fl 44 (.fl 45 (.fl 46 (.fl 47 (.fl 48 (.fl 49 (.fl 50 (.fl 51 (.fl 52 (.fl 53 (.fl 54 (.fl 55 (.fl 56 (.fl 57 (.fl 58 (.fl 59 (.fl 60 (.fl 62 (.fl 63 (.mn 61 (.mn 64 (.fl 65 (.fl 66 (.fl 67 (.fl 68 (.fl 69 .fin))))) .no) .no))))))))))))))))))))))))))))))) .no) .no))))))))))))))))))))))))))))))))) .n))) .n))))) .n))))))))) [(7, T_law18_awake), (8, T_law18_built), (9, T_alike_Round), (10, T_ref4_Net_All), (16, T_search_Up), (18, T_search_Down), (20, T_levels_Levels_Rank)] ⟨⟨by kernel_rfl, S_law18_awake⟩, ⟨by kernel_rfl, S_law18_built⟩, ⟨by kernel_rfl, S_alike_Round⟩, ⟨by kernel_rfl, S_ref4_Net_All⟩, ⟨by kernel_rfl, S_search_Up⟩, ⟨by kernel_rfl, S_search_Down⟩, ⟨by kernel_rfl, S_levels_Levels_Rank⟩, trivial⟩ [.c (.int .i64), .c .slice, .c (.int .i64)] (by kernel_rfl) G_law18_SearchUps fun t w K => by kernel_rfl

end Go.Proofs.Ytkghlmaalkmdkaa
