import Derived.Test.YtdmcgddefnnbmaaA1
import Derived.Test.YtdmcgddefnnbmaaFBase
import Derived.Test.YtdmcgddefnnbmaaFNet
import Derived.Test.YtdmcgddefnnbmaaFWit
import Derived.Test.YtdmcgddefnnbmaaFLev
namespace Go.Proofs.Ytdmcgddefnnbmaa
open Go Go.Den
set_option maxRecDepth 100000
/-- milepost/milepostlaw16.arcs -/
def F_law16_arcs (n : Int) (l : Sl) (w : World) (Q : Sl → World → Prop) : Prop :=
  ∀ X1 : (Sl × Int × Unit) → World → Prop, (∀ (t1 : Sl × Int × Unit) (w1 : World), (
  cond (decide (t1.2.1 < ((l.l : Nat) : Int)))
  (cond (decide (n > (1 : Int)))
  ((0 ≤ t1.2.1 ∧ t1.2.1 < ((l.l : Nat) : Int)) ∧
  onSome l.b fun a1 =>
  (0 ≤ (0 : Int) ∧ (0 : Int) < ((3 : Nat) : Int)) ∧
  ld1 (.int .i64) w1.drew ((a1.add (Int.toNat t1.2.1 * 3)).add (Int.toNat (0 : Int) * 1)) fun (x1 : Int) =>
  (0 ≤ t1.2.1 ∧ t1.2.1 < ((l.l : Nat) : Int)) ∧
  onSome l.b fun a2 =>
  (0 ≤ (1 : Int) ∧ (1 : Int) < ((3 : Nat) : Int)) ∧
  ld1 (.int .i64) w1.drew ((a2.add (Int.toNat t1.2.1 * 3)).add (Int.toNat (1 : Int) * 1)) fun (x2 : Int) =>
  F_alike_Round x1 n w1.drew fun (x3 : Int) w2 =>
  w2.cell? ((a2.add (Int.toNat t1.2.1 * 3)).add (Int.toNat (1 : Int) * 1)) = some (Value.int .i64 x2) ∧
  F_alike_Round x2 n w2 fun (x4 : Int) w3 =>
  cond (x3 != x4)
  ((0 ≤ t1.2.1 ∧ t1.2.1 < ((l.l : Nat) : Int)) ∧
  onSome l.b fun a3 =>
  (0 ≤ (2 : Int) ∧ (2 : Int) < ((3 : Nat) : Int)) ∧
  ld1 (.int .i64) w3 ((a3.add (Int.toNat t1.2.1 * 3)).add (Int.toNat (2 : Int) * 1)) fun (x5 : Int) =>
  F_alike_Round x5 (20 : Int) w3 fun (x6 : Int) w4 =>
  allocD w4 #[Value.int .i64 x3, Value.int .i64 x4, Value.int .i64 (IntKind.wrap .i64 ((1 : Int) + x6)), Value.int .i64 (-1 : Int)] 49 fun a4 w5 =>
  appendD Try.prog 34 34 t1.1 (Value.slice (some a4) 1 1) w5 fun (s1 : Sl) w6 =>
  X1 (s1, (IntKind.wrap .i64 (t1.2.1 + (1 : Int))), ()) w6)
  (X1 (t1.1, (IntKind.wrap .i64 (t1.2.1 + (1 : Int))), ()) w3))
  (Q t1.1 w1))
  (Q t1.1 w1)) → X1 t1 w1) →
  X1 (⟨none, 0, 0⟩, (0 : Int), ()) w
def G_law16_arcs (t : KTs [.c (.int .i64), .c .slice]) (w : World) (K : Value → World → Prop) : Prop := F_law16_arcs t.1 t.2.1 w fun (r0 : Sl) w1 => K (Value.slice r0.b r0.l r0.c) w1
abbrev T_law16_arcs : Tr := fun args w K => decK [.c (.int .i64), .c .slice] args fun t => G_law16_arcs t w K
theorem S_law16_arcs : Sound Try.prog 26 T_law16_arcs := sound_of (fn := Try.f26) Try.func26 (by kernel_rfl) mixed (by kernel_rfl) (.s .n (.s .n (.s (.s .n (.b (.l [(5, .c .slice), (6, .c (.int .i64))] [5, 6, 7, 8, 9, 10, 11, 12, 13, 14, 15, 16, 17, 18, 19, 20, 21, 22, 23, 24, 25, 26, 27, 28, 29, 30, 31, 32, 33, 34, 35, 36, 37, 38, 39, 40, 41, 42, 43, 44, 45, 46, 47, 48] (.s .n (.s (.b (.s (.r (.fl 0 (.fl 1 (.fl 2 (.fl 3 (.fl 4 (.fl 5 (.fl 7 (.fl 8 (.fl 9 (.fl 10 (.fl 11 (.fl 12 (.mn 6 (.mn 13 (.fl 14 (.fl 15 .fin)) .no) .no)))))))))))))) .n)) .n))))) .n))) [(49, T_alike_Round)] ⟨⟨by kernel_rfl, S_alike_Round⟩, trivial⟩ [.c (.int .i64), .c .slice] (by kernel_rfl) G_law16_arcs fun t w K => by kernel_rfl

/-- milepost/milepostlaw16.made -/
def F_law16_made (n : Int) (l : Sl) (w : World) (Q : (Option Addr) → (Option Addr) → World → Prop) : Prop :=
  F_law16_arcs n l w fun (s1 : Sl) w1 =>
  F_net_New n s1 w1 fun (p1 : Option Addr) (x1 : Int) w2 =>
  cond (x1 != (0 : Int))
  (Q none none w2)
  (F_law16_arcs n l w2 fun (s2 : Sl) w3 =>
  F_ref4_NewNet n s2 w3 fun (p2 : Option Addr) w4 =>
  Q p1 p2 w4)
def G_law16_made (t : KTs [.c (.int .i64), .c .slice]) (w : World) (K : Value → World → Prop) : Prop := F_law16_made t.1 t.2.1 w fun (r0 : Option Addr) (r1 : Option Addr) w1 => K (Value.tuple #[(Value.pointer r0), (Value.pointer r1)]) w1
abbrev T_law16_made : Tr := fun args w K => decK [.c (.int .i64), .c .slice] args fun t => G_law16_made t w K
theorem S_law16_made : Sound Try.prog 8 T_law16_made := sound_of (fn := Try.f8) Try.func8 (by kernel_rfl) mixed (by kernel_rfl) (.n) [(25, T_net_New), (26, T_law16_arcs), (27, T_ref4_NewNet)] ⟨⟨by kernel_rfl, S_net_New⟩, ⟨by kernel_rfl, S_law16_arcs⟩, ⟨by kernel_rfl, S_ref4_NewNet⟩, trivial⟩ [.c (.int .i64), .c .slice] (by kernel_rfl) G_law16_made fun t w K => by kernel_rfl

/-- milepost/milepostlaw16.built -/
def F_law16_built (n : Int) (l : Sl) (w : World) (Q : (Option Addr) → (Option Addr) → (Option Addr) → World → Prop) : Prop :=
  F_law16_made n l w fun (p1 : Option Addr) (p2 : Option Addr) w1 =>
  cond (Option.isNone p1)
  (Q none none none w1)
  (F_levels_Build p1 w1 fun (p3 : Option Addr) w2 =>
  F_ref4_Build p2 w2 fun (p4 : Option Addr) w3 =>
  Q p3 p4 p2 w3)
def G_law16_built (t : KTs [.c (.int .i64), .c .slice]) (w : World) (K : Value → World → Prop) : Prop := F_law16_built t.1 t.2.1 w fun (r0 : Option Addr) (r1 : Option Addr) (r2 : Option Addr) w1 => K (Value.tuple #[(Value.pointer r0), (Value.pointer r1), (Value.pointer r2)]) w1
abbrev T_law16_built : Tr := fun args w K => decK [.c (.int .i64), .c .slice] args fun t => G_law16_built t w K
theorem S_law16_built : Sound Try.prog 7 T_law16_built := sound_of (fn := Try.f7) Try.func7 (by kernel_rfl) mixed (by kernel_rfl) (.n) [(8, T_law16_made), (9, T_levels_Build), (24, T_ref4_Build)] ⟨⟨by kernel_rfl, S_law16_made⟩, ⟨by kernel_rfl, S_levels_Build⟩, ⟨by kernel_rfl, S_ref4_Build⟩, trivial⟩ [.c (.int .i64), .c .slice] (by kernel_rfl) G_law16_built fun t w K => by kernel_rfl

/-- milepost/milepostlaw16.awake -/
def F_law16_awake  (w : World) (Q : Bool → World → Prop) : Prop :=
  allocD w #[Value.int .i64 (0 : Int), Value.int .i64 (1 : Int), Value.int .i64 (0 : Int), Value.int .i64 (1 : Int), Value.int .i64 (2 : Int), Value.int .i64 (0 : Int)] 55 fun a1 w1 =>
  F_law16_built (3 : Int) ⟨(some a1), 2, 2⟩ w1 fun (p1 : Option Addr) (_ : Option Addr) (_ : Option Addr) w2 =>
  cond (Option.isNone p1)
  (Q false w2)
  (F_levels_Levels_Rank p1 (0 : Int) w2 fun (x1 : Int) w3 =>
  cond (x1 == (0 : Int))
  (F_levels_Levels_Rank p1 (5 : Int) w3 fun (x2 : Int) w4 =>
  cond (x2 == (-1 : Int))
  (F_levels_Levels_Up p1 (0 : Int) w4 fun (s1 : Sl) w5 =>
  cond (((s1.l : Nat) : Int) == (1 : Int))
  (onSome p1 fun a2 =>
  ld1 .ptr w5 (a2.add 0) fun (p4 : Option Addr) =>
  F_net_Net_All p4 w5 fun (s2 : Sl) w6 =>
  cond (decide (((s2.l : Nat) : Int) ≥ (2 : Int)))
  (F_levels_Build none w6 fun (p5 : Option Addr) w7 =>
  cond (Option.isNone p5)
  (F_levels_Levels_Rank none (0 : Int) w7 fun (x3 : Int) w8 =>
  cond (x3 == (-1 : Int))
  (F_levels_Levels_Up none (0 : Int) w8 fun (s3 : Sl) w9 =>
  cond (((s3.l : Nat) : Int) == (0 : Int))
  (F_levels_Levels_Cuts none w9 fun (x4 : Int) w10 =>
  Q (x4 == (0 : Int)) w10)
  (Q false w9))
  (Q false w8))
  (Q false w7))
  (Q false w6))
  (Q false w5))
  (Q false w4))
  (Q false w3))
def G_law16_awake (_ : KTs []) (w : World) (K : Value → World → Prop) : Prop := F_law16_awake  w fun (r0 : Bool) w1 => K (Value.bool r0) w1
abbrev T_law16_awake : Tr := fun args w K => decK [] args fun t => G_law16_awake t w K
theorem S_law16_awake : Sound Try.prog 6 T_law16_awake := sound_of (fn := Try.f6) Try.func6 (by kernel_rfl) mixed (by kernel_rfl) (.n) [(7, T_law16_built), (9, T_levels_Build), (11, T_net_Net_All), (12, T_levels_Levels_Rank), (14, T_levels_Levels_Up), (18, T_levels_Levels_Cuts)] ⟨⟨by kernel_rfl, S_law16_built⟩, ⟨by kernel_rfl, S_levels_Build⟩, ⟨by kernel_rfl, S_net_Net_All⟩, ⟨by kernel_rfl, S_levels_Levels_Rank⟩, ⟨by kernel_rfl, S_levels_Levels_Up⟩, ⟨by kernel_rfl, S_levels_Levels_Cuts⟩, trivial⟩ [] (by kernel_rfl) G_law16_awake fun t w K => by kernel_rfl

/-- milepost/milepostlaw16.LevelsTell -/
def F_law16_LevelsTell (n : Int) (l : Sl) (odd : Int) (w : World) (Q : Bool → World → Prop) : Prop :=
  cond (decide (n < (0 : Int)))
  (F_law16_awake  w fun (b1 : Bool) w1 =>
  Q b1 w1)
  (cond (decide (n > (20 : Int)))
  (F_law16_awake  w fun (b2 : Bool) w2 =>
  Q b2 w2)
  (cond (decide (((l.l : Nat) : Int) > (60 : Int)))
  (F_law16_awake  w fun (b3 : Bool) w3 =>
  Q b3 w3)
  (F_law16_built n l w fun (p1 : Option Addr) (p2 : Option Addr) (p3 : Option Addr) w4 =>
  cond (Option.isNone p1)
  (Q false w4)
  (F_law16_made n l w4 fun (p4 : Option Addr) (_ : Option Addr) w5 =>
  cond (Option.isNone p4)
  (Q false w5.drew)
  (F_levels_Build p4 w5.drew fun (p6 : Option Addr) w6 =>
  cond (Option.isNone p6)
  (Q false w6)
  (onSome p3 fun a1 =>
  ld1 .slice w6 (a1.add 1) fun (s1 : Sl) =>
  F_net_Net_All p4 w6 fun (s2 : Sl) w7 =>
  w7.cell? (a1.add 1) = some (Value.slice s1.b s1.l s1.c) ∧
  F_ref4_ArcsSame s2 s1 w7 fun (b4 : Bool) w8 =>
  cond (!b4)
  (Q false w8)
  (∀ X1 : (Int × Unit) → World → Prop, (∀ (t1 : Int × Unit) (w9 : World), (
  cond (decide (t1.1 < n))
  (F_levels_Levels_Rank p1 t1.1 w9 fun (x1 : Int) w10 =>
  F_ref4_Levels_Rank p2 t1.1 w10 fun (x2 : Int) w11 =>
  cond (x1 != x2)
  (Q false w11)
  (F_levels_Levels_Up p1 t1.1 w11 fun (s3 : Sl) w12 =>
  F_ref4_Levels_Up p2 t1.1 w12 fun (s4 : Sl) w13 =>
  F_ref4_ArcsSame s3 s4 w13 fun (b5 : Bool) w14 =>
  cond (!b5)
  (Q false w14)
  (F_levels_Levels_Down p1 t1.1 w14 fun (s5 : Sl) w15 =>
  F_ref4_Levels_Down p2 t1.1 w15 fun (s6 : Sl) w16 =>
  F_ref4_ArcsSame s5 s6 w16 fun (b6 : Bool) w17 =>
  cond (!b6)
  (Q false w17)
  (X1 ((IntKind.wrap .i64 (t1.1 + (1 : Int))), ()) w17))))
  (onSome p1 fun a2 =>
  ld1 .ptr w9.drew (a2.add 0) fun (p7 : Option Addr) =>
  onSome p2 fun a3 =>
  ld1 .ptr w9.drew (a3.add 0) fun (p8 : Option Addr) =>
  onSome p8 fun a4 =>
  ld1 .slice w9.drew (a4.add 1) fun (s7 : Sl) =>
  F_net_Net_All p7 w9.drew fun (s8 : Sl) w18 =>
  w18.cell? (a4.add 1) = some (Value.slice s7.b s7.l s7.c) ∧
  w18.cell? (a3.add 0) = some (Value.pointer p8) ∧
  F_ref4_ArcsSame s8 s7 w18 fun (b7 : Bool) w19 =>
  cond b7
  (F_levels_Levels_Cuts p1 w19 fun (x3 : Int) w20 =>
  F_ref4_Levels_Cuts p2 w20 fun (x4 : Int) w21 =>
  cond (x3 == x4)
  (F_levels_Levels_Rank p1 odd w21 fun (x5 : Int) w22 =>
  F_ref4_Levels_Rank p2 odd w22 fun (x6 : Int) w23 =>
  cond (x5 == x6)
  (onSome p1 fun a5 =>
  ld1 .ptr w23 (a5.add 0) fun (p9 : Option Addr) =>
  F_net_Net_Len p9 w23 fun (x7 : Int) w24 =>
  cond (x7 == n)
  (F_law16_awake  w24 fun (b8 : Bool) w25 =>
  Q b8 w25)
  (Q false w24))
  (Q false w23))
  (Q false w21))
  (Q false w19))) → X1 t1 w9) →
  X1 ((0 : Int), ()) w8)))))))
def G_law16_LevelsTell (t : KTs [.c (.int .i64), .c .slice, .c (.int .i64)]) (w : World) (K : Value → World → Prop) : Prop := F_law16_LevelsTell t.1 t.2.1 t.2.2.1 w fun (r0 : Bool) w1 => K (Value.bool r0) w1
abbrev T_law16_LevelsTell : Tr := fun args w K => decK [.c (.int .i64), .c .slice, .c (.int .i64)] args fun t => G_law16_LevelsTell t w K
theorem S_law16_LevelsTell : Sound Try.prog 3 T_law16_LevelsTell := sound_of (fn := Try.f3) Try.func3 (by kernel_rfl) mixed (by kernel_rfl) (.s .n (.s .n (.s .n (.s .n (.s .n (.s (.s (.r (.fl 0 (.fl 1 (.fl 2 (.fl 3 (.mn 4 (.fl 5 (.fl 6 (.fl 7 (.fl 8 (.fl 10 (.fl 11 (.fl 12 (.fl 13 (.mn 9 (.mn 14 (.fl 15 (.fl 16 .fin)) .no) .no))))))))) .no)))))) .n) (.s (.s .n (.b (.l [(12, .c (.int .i64))] [6, 12, 57, 58, 59, 60, 61, 62, 63, 64, 65, 66, 67, 68, 69, 70, 71, 72, 73, 74, 75, 76, 77, 78, 79, 80, 81, 82, 83, 84, 85, 86, 87, 88] .n))) (.s (.r (.fl 0 (.fl 1 (.fl 2 (.fl 3 (.fl 5 (.fl 6 (.fl 7 (.fl 8 (.fl 9 (.fl 10 (.fl 11 (.mn 4 (.mn 12 (.fl 13 (.fl 14 (.fl 16 (.mn 15 (.mn 17 (.fl 18 (.fl 19 (.fl 20 (.fl 21 (.fl 22 (.fl 24 (.fl 25 (.mn 23 (.mn 26 (.fl 27 (.fl 28 (.fl 29 (.fl 30 (.fl 31 (.fl 32 (.fl 33 (.fl 35 (.mn 34 (.fl 36 (.fl 37 (.fl 38 (.mn 39 (.fl 40 (.fl 41 .fin)) .no)))) .no))))))))) .no) .no)))))))) .no) .no)))) .no) .no))))))))))))) .n)))))))) [(6, T_law16_awake), (7, T_law16_built), (8, T_law16_made), (9, T_levels_Build), (10, T_ref4_ArcsSame), (11, T_net_Net_All), (12, T_levels_Levels_Rank), (13, T_ref4_Levels_Rank), (14, T_levels_Levels_Up), (15, T_ref4_Levels_Up), (16, T_levels_Levels_Down), (17, T_ref4_Levels_Down), (18, T_levels_Levels_Cuts), (19, T_ref4_Levels_Cuts), (20, T_net_Net_Len)] ⟨⟨by kernel_rfl, S_law16_awake⟩, ⟨by kernel_rfl, S_law16_built⟩, ⟨by kernel_rfl, S_law16_made⟩, ⟨by kernel_rfl, S_levels_Build⟩, ⟨by kernel_rfl, S_ref4_ArcsSame⟩, ⟨by kernel_rfl, S_net_Net_All⟩, ⟨by kernel_rfl, S_levels_Levels_Rank⟩, ⟨by kernel_rfl, S_ref4_Levels_Rank⟩, ⟨by kernel_rfl, S_levels_Levels_Up⟩, ⟨by kernel_rfl, S_ref4_Levels_Up⟩, ⟨by kernel_rfl, S_levels_Levels_Down⟩, ⟨by kernel_rfl, S_ref4_Levels_Down⟩, ⟨by kernel_rfl, S_levels_Levels_Cuts⟩, ⟨by kernel_rfl, S_ref4_Levels_Cuts⟩, ⟨by kernel_rfl, S_net_Net_Len⟩, trivial⟩ [.c (.int .i64), .c .slice, .c (.int .i64)] (by kernel_rfl) G_law16_LevelsTell fun t w K => by kernel_rfl

/-- milepost/milepostlaw16.LevelsFar -/
def F_law16_LevelsFar (n : Int) (l : Sl) (w : World) (Q : Bool → World → Prop) : Prop :=
  cond (decide (n < (1 : Int)))
  (F_law16_awake  w fun (b1 : Bool) w1 =>
  Q b1 w1)
  (cond (decide (n > (20 : Int)))
  (F_law16_awake  w fun (b2 : Bool) w2 =>
  Q b2 w2)
  (cond (decide (((l.l : Nat) : Int) > (80 : Int)))
  (F_law16_awake  w fun (b3 : Bool) w3 =>
  Q b3 w3)
  (F_law16_built n l w fun (p1 : Option Addr) (_ : Option Addr) (p3 : Option Addr) w4 =>
  cond (Option.isNone p1)
  (Q false w4)
  (makeSliceD Try.prog 47 (Value.int .i64 n) (Value.int .i64 n) w4 fun (s1 : Sl) w5 =>
  ∀ X1 : (Int × Unit) → World → Prop, (∀ (t1 : Int × Unit) (w6 : World), (
  cond (decide (t1.1 < n))
  (F_levels_Levels_Rank p1 t1.1 w6 fun (x1 : Int) w7 =>
  cond (decide (x1 < (0 : Int)))
  (Q false w7)
  (cond (decide (x1 ≥ n))
  (Q false w7)
  ((0 ≤ x1 ∧ x1 < ((s1.l : Nat) : Int)) ∧
  onSome s1.b fun a1 =>
  ld1 .bool w7 (a1.add (Int.toNat x1 * 1)) fun (b4 : Bool) =>
  cond b4
  (Q false w7)
  ((0 ≤ x1 ∧ x1 < ((s1.l : Nat) : Int)) ∧
  onSome s1.b fun a2 =>
  storeD Try.prog 4 (a2.add (Int.toNat x1 * 1)) (Value.bool true) w7 fun w8 =>
  X1 ((IntKind.wrap .i64 (t1.1 + (1 : Int))), ()) w8))))
  (onSome p1 fun a3 =>
  ld1 .ptr w6 (a3.add 0) fun (p4 : Option Addr) =>
  F_net_Net_All p4 w6 fun (s2 : Sl) w9 =>
  ∀ X2 : (Int × Unit) → World → Prop, (∀ (t2 : Int × Unit) (w10 : World), (
  cond (decide (t2.1 < ((s2.l : Nat) : Int)))
  ((0 ≤ t2.1 ∧ t2.1 < ((s2.l : Nat) : Int)) ∧
  onSome s2.b fun a4 =>
  ld1 (.int .i64) w10.drew ((a4.add (Int.toNat t2.1 * 4)).add 3) fun (x2 : Int) =>
  cond (decide (x2 ≥ (0 : Int)))
  ((0 ≤ t2.1 ∧ t2.1 < ((s2.l : Nat) : Int)) ∧
  onSome s2.b fun a5 =>
  ld1 (.int .i64) w10.drew ((a5.add (Int.toNat t2.1 * 4)).add 3) fun (x3 : Int) =>
  (0 ≤ t2.1 ∧ t2.1 < ((s2.l : Nat) : Int)) ∧
  onSome s2.b fun a6 =>
  ld1 (.int .i64) w10.drew ((a6.add (Int.toNat t2.1 * 4)).add 0) fun (x4 : Int) =>
  F_levels_Levels_Rank p1 x3 w10.drew fun (x5 : Int) w11 =>
  w11.cell? ((a6.add (Int.toNat t2.1 * 4)).add 0) = some (Value.int .i64 x4) ∧
  F_levels_Levels_Rank p1 x4 w11 fun (x6 : Int) w12 =>
  cond (decide (x5 > x6))
  (Q false w12)
  ((0 ≤ t2.1 ∧ t2.1 < ((s2.l : Nat) : Int)) ∧
  onSome s2.b fun a7 =>
  ld1 (.int .i64) w12 ((a7.add (Int.toNat t2.1 * 4)).add 3) fun (x7 : Int) =>
  (0 ≤ t2.1 ∧ t2.1 < ((s2.l : Nat) : Int)) ∧
  onSome s2.b fun a8 =>
  ld1 (.int .i64) w12 ((a8.add (Int.toNat t2.1 * 4)).add 1) fun (x8 : Int) =>
  F_levels_Levels_Rank p1 x7 w12 fun (x9 : Int) w13 =>
  w13.cell? ((a8.add (Int.toNat t2.1 * 4)).add 1) = some (Value.int .i64 x8) ∧
  F_levels_Levels_Rank p1 x8 w13 fun (x10 : Int) w14 =>
  cond (decide (x9 > x10))
  (Q false w14)
  (X2 ((IntKind.wrap .i64 (t2.1 + (1 : Int))), ()) w14)))
  (X2 ((IntKind.wrap .i64 (t2.1 + (1 : Int))), ()) w10.drew))
  (makeSliceD Try.prog 40 (Value.int .i64 n) (Value.int .i64 n) w10 fun (s3 : Sl) w15 =>
  ∀ X3 : (Int × Unit) → World → Prop, (∀ (t3 : Int × Unit) (w16 : World), (
  cond (decide (t3.1 < n))
  (F_levels_Levels_Rank p1 t3.1 w16 fun (x11 : Int) w17 =>
  (0 ≤ x11 ∧ x11 < ((s3.l : Nat) : Int)) ∧
  onSome s3.b fun a9 =>
  storeD Try.prog 3 (a9.add (Int.toNat x11 * 1)) (Value.int .i64 t3.1) w17 fun w18 =>
  X3 ((IntKind.wrap .i64 (t3.1 + (1 : Int))), ()) w18)
  (∀ X4 : (Int × Unit) → World → Prop, (∀ (t4 : Int × Unit) (w19 : World), (
  cond (decide (t4.1 < n))
  (makeSliceD Try.prog 40 (Value.int .i64 n) (Value.int .i64 n) w19 fun (s4 : Sl) w20 =>
  ∀ X5 : (Int × Unit) → World → Prop, (∀ (t5 : Int × Unit) (w21 : World), (
  cond (decide (t5.1 < n))
  ((0 ≤ t5.1 ∧ t5.1 < ((s4.l : Nat) : Int)) ∧
  onSome s4.b fun a10 =>
  storeD Try.prog 3 (a10.add (Int.toNat t5.1 * 1)) (Value.int .i64 (-1 : Int)) w21 fun w22 =>
  X5 ((IntKind.wrap .i64 (t5.1 + (1 : Int))), ()) w22)
  ((0 ≤ t4.1 ∧ t4.1 < ((s4.l : Nat) : Int)) ∧
  onSome s4.b fun a11 =>
  storeD Try.prog 3 (a11.add (Int.toNat t4.1 * 1)) (Value.int .i64 (0 : Int)) w21 fun w23 =>
  ∀ X6 : (Int × Unit) → World → Prop, (∀ (t6 : Int × Unit) (w24 : World), (
  cond (decide (t6.1 < n))
  ((0 ≤ t6.1 ∧ t6.1 < ((s3.l : Nat) : Int)) ∧
  onSome s3.b fun a12 =>
  ld1 (.int .i64) w24 (a12.add (Int.toNat t6.1 * 1)) fun (x12 : Int) =>
  F_levels_Levels_Up p1 x12 w24 fun (s5 : Sl) w25 =>
  ∀ X7 : (Int × Unit) → World → Prop, (∀ (t7 : Int × Unit) (w26 : World), (
  cond (decide (t7.1 < ((s5.l : Nat) : Int)))
  ((0 ≤ x12 ∧ x12 < ((s4.l : Nat) : Int)) ∧
  onSome s4.b fun a13 =>
  ld1 (.int .i64) w26 (a13.add (Int.toNat x12 * 1)) fun (x13 : Int) =>
  cond (decide (x13 ≥ (0 : Int)))
  ((0 ≤ t7.1 ∧ t7.1 < ((s5.l : Nat) : Int)) ∧
  onSome s5.b fun a14 =>
  ld1 (.int .i64) w26 ((a14.add (Int.toNat t7.1 * 4)).add 1) fun (x14 : Int) =>
  cond (decide (x14 < (0 : Int)))
  (Q false w26)
  (cond (decide (x14 ≥ n))
  (Q false w26)
  ((0 ≤ x14 ∧ x14 < ((s4.l : Nat) : Int)) ∧
  onSome s4.b fun a15 =>
  ld1 (.int .i64) w26.drew (a15.add (Int.toNat x14 * 1)) fun (x15 : Int) =>
  cond (decide (x15 < (0 : Int)))
  ((0 ≤ x12 ∧ x12 < ((s4.l : Nat) : Int)) ∧
  onSome s4.b fun a16 =>
  ld1 (.int .i64) w26.drew.drew (a16.add (Int.toNat x12 * 1)) fun (x16 : Int) =>
  (0 ≤ t7.1 ∧ t7.1 < ((s5.l : Nat) : Int)) ∧
  onSome s5.b fun a17 =>
  ld1 (.int .i64) w26.drew.drew ((a17.add (Int.toNat t7.1 * 4)).add 2) fun (x17 : Int) =>
  (0 ≤ x14 ∧ x14 < ((s4.l : Nat) : Int)) ∧
  onSome s4.b fun a18 =>
  storeD Try.prog 3 (a18.add (Int.toNat x14 * 1)) (Value.int .i64 (IntKind.wrap .i64 (x16 + x17))) w26.drew.drew fun w27 =>
  X7 ((IntKind.wrap .i64 (t7.1 + (1 : Int))), ()) w27)
  ((0 ≤ x14 ∧ x14 < ((s4.l : Nat) : Int)) ∧
  onSome s4.b fun a19 =>
  ld1 (.int .i64) w26.drew (a19.add (Int.toNat x14 * 1)) fun (x18 : Int) =>
  (0 ≤ x12 ∧ x12 < ((s4.l : Nat) : Int)) ∧
  onSome s4.b fun a20 =>
  ld1 (.int .i64) w26.drew (a20.add (Int.toNat x12 * 1)) fun (x19 : Int) =>
  (0 ≤ t7.1 ∧ t7.1 < ((s5.l : Nat) : Int)) ∧
  onSome s5.b fun a21 =>
  ld1 (.int .i64) w26.drew ((a21.add (Int.toNat t7.1 * 4)).add 2) fun (x20 : Int) =>
  cond (decide (x18 > (IntKind.wrap .i64 (x19 + x20))))
  ((0 ≤ x12 ∧ x12 < ((s4.l : Nat) : Int)) ∧
  onSome s4.b fun a22 =>
  ld1 (.int .i64) w26.drew.drew (a22.add (Int.toNat x12 * 1)) fun (x21 : Int) =>
  (0 ≤ t7.1 ∧ t7.1 < ((s5.l : Nat) : Int)) ∧
  onSome s5.b fun a23 =>
  ld1 (.int .i64) w26.drew.drew ((a23.add (Int.toNat t7.1 * 4)).add 2) fun (x22 : Int) =>
  (0 ≤ x14 ∧ x14 < ((s4.l : Nat) : Int)) ∧
  onSome s4.b fun a24 =>
  storeD Try.prog 3 (a24.add (Int.toNat x14 * 1)) (Value.int .i64 (IntKind.wrap .i64 (x21 + x22))) w26.drew.drew fun w28 =>
  X7 ((IntKind.wrap .i64 (t7.1 + (1 : Int))), ()) w28)
  (X7 ((IntKind.wrap .i64 (t7.1 + (1 : Int))), ()) w26.drew)))))
  (X6 ((IntKind.wrap .i64 (t6.1 + (1 : Int))), ()) w26))
  (X6 ((IntKind.wrap .i64 (t6.1 + (1 : Int))), ()) w26)) → X7 t7 w26) →
  X7 ((0 : Int), ()) w25)
  (∀ X8 : (Int × Unit) → World → Prop, (∀ (t8 : Int × Unit) (w29 : World), (
  cond (decide (t8.1 ≥ (0 : Int)))
  ((0 ≤ t8.1 ∧ t8.1 < ((s3.l : Nat) : Int)) ∧
  onSome s3.b fun a25 =>
  ld1 (.int .i64) w29 (a25.add (Int.toNat t8.1 * 1)) fun (x23 : Int) =>
  F_levels_Levels_Down p1 x23 w29 fun (s6 : Sl) w30 =>
  ∀ X9 : (Int × Unit) → World → Prop, (∀ (t9 : Int × Unit) (w31 : World), (
  cond (decide (t9.1 < ((s6.l : Nat) : Int)))
  ((0 ≤ t9.1 ∧ t9.1 < ((s6.l : Nat) : Int)) ∧
  onSome s6.b fun a26 =>
  ld1 (.int .i64) w31 ((a26.add (Int.toNat t9.1 * 4)).add 0) fun (x24 : Int) =>
  cond (decide (x24 < (0 : Int)))
  (Q false w31)
  (cond (decide (x24 ≥ n))
  (Q false w31)
  ((0 ≤ x24 ∧ x24 < ((s4.l : Nat) : Int)) ∧
  onSome s4.b fun a27 =>
  ld1 (.int .i64) w31.drew (a27.add (Int.toNat x24 * 1)) fun (x25 : Int) =>
  cond (decide (x25 ≥ (0 : Int)))
  ((0 ≤ x23 ∧ x23 < ((s4.l : Nat) : Int)) ∧
  onSome s4.b fun a28 =>
  ld1 (.int .i64) w31.drew (a28.add (Int.toNat x23 * 1)) fun (x26 : Int) =>
  cond (decide (x26 < (0 : Int)))
  ((0 ≤ x24 ∧ x24 < ((s4.l : Nat) : Int)) ∧
  onSome s4.b fun a29 =>
  ld1 (.int .i64) w31.drew.drew (a29.add (Int.toNat x24 * 1)) fun (x27 : Int) =>
  (0 ≤ t9.1 ∧ t9.1 < ((s6.l : Nat) : Int)) ∧
  onSome s6.b fun a30 =>
  ld1 (.int .i64) w31.drew.drew ((a30.add (Int.toNat t9.1 * 4)).add 2) fun (x28 : Int) =>
  (0 ≤ x23 ∧ x23 < ((s4.l : Nat) : Int)) ∧
  onSome s4.b fun a31 =>
  storeD Try.prog 3 (a31.add (Int.toNat x23 * 1)) (Value.int .i64 (IntKind.wrap .i64 (x27 + x28))) w31.drew.drew fun w32 =>
  X9 ((IntKind.wrap .i64 (t9.1 + (1 : Int))), ()) w32)
  ((0 ≤ x23 ∧ x23 < ((s4.l : Nat) : Int)) ∧
  onSome s4.b fun a32 =>
  ld1 (.int .i64) w31.drew (a32.add (Int.toNat x23 * 1)) fun (x29 : Int) =>
  (0 ≤ x24 ∧ x24 < ((s4.l : Nat) : Int)) ∧
  onSome s4.b fun a33 =>
  ld1 (.int .i64) w31.drew (a33.add (Int.toNat x24 * 1)) fun (x30 : Int) =>
  (0 ≤ t9.1 ∧ t9.1 < ((s6.l : Nat) : Int)) ∧
  onSome s6.b fun a34 =>
  ld1 (.int .i64) w31.drew ((a34.add (Int.toNat t9.1 * 4)).add 2) fun (x31 : Int) =>
  cond (decide (x29 > (IntKind.wrap .i64 (x30 + x31))))
  ((0 ≤ x24 ∧ x24 < ((s4.l : Nat) : Int)) ∧
  onSome s4.b fun a35 =>
  ld1 (.int .i64) w31.drew.drew (a35.add (Int.toNat x24 * 1)) fun (x32 : Int) =>
  (0 ≤ t9.1 ∧ t9.1 < ((s6.l : Nat) : Int)) ∧
  onSome s6.b fun a36 =>
  ld1 (.int .i64) w31.drew.drew ((a36.add (Int.toNat t9.1 * 4)).add 2) fun (x33 : Int) =>
  (0 ≤ x23 ∧ x23 < ((s4.l : Nat) : Int)) ∧
  onSome s4.b fun a37 =>
  storeD Try.prog 3 (a37.add (Int.toNat x23 * 1)) (Value.int .i64 (IntKind.wrap .i64 (x32 + x33))) w31.drew.drew fun w33 =>
  X9 ((IntKind.wrap .i64 (t9.1 + (1 : Int))), ()) w33)
  (X9 ((IntKind.wrap .i64 (t9.1 + (1 : Int))), ()) w31.drew)))
  (X9 ((IntKind.wrap .i64 (t9.1 + (1 : Int))), ()) w31.drew))))
  (X8 ((IntKind.wrap .i64 (t8.1 - (1 : Int))), ()) w31)) → X9 t9 w31) →
  X9 ((0 : Int), ()) w30)
  (F_ref4_Net_All p3 t4.1 w29 fun (s7 : Sl) w34 =>
  F_alike_Ints s4 s7 w34 fun (b5 : Bool) w35 =>
  cond (!b5)
  (Q false w35)
  (X4 ((IntKind.wrap .i64 (t4.1 + (1 : Int))), ()) w35))) → X8 t8 w29) →
  X8 ((IntKind.wrap .i64 (n - (1 : Int))), ()) w24)) → X6 t6 w24) →
  X6 ((0 : Int), ()) w23)) → X5 t5 w21) →
  X5 ((0 : Int), ()) w20)
  (F_law16_awake  w19 fun (b6 : Bool) w36 =>
  Q b6 w36)) → X4 t4 w19) →
  X4 ((0 : Int), ()) w16)) → X3 t3 w16) →
  X3 ((0 : Int), ()) w15)) → X2 t2 w10) →
  X2 ((0 : Int), ()) w9)) → X1 t1 w6) →
  X1 ((0 : Int), ()) w5))))
def G_law16_LevelsFar (t : KTs [.c (.int .i64), .c .slice]) (w : World) (K : Value → World → Prop) : Prop := F_law16_LevelsFar t.1 t.2.1 w fun (r0 : Bool) w1 => K (Value.bool r0) w1
abbrev T_law16_LevelsFar : Tr := fun args w K => decK [.c (.int .i64), .c .slice] args fun t => G_law16_LevelsFar t w K
theorem S_law16_LevelsFar : Sound Try.prog 4 T_law16_LevelsFar := sound_of (fn := Try.f4) Try.func4 (by kernel_rfl) mixed (by kernel_rfl) (.s .n (.s .n (.s .n (.s .n (.s .n (.s (.s .n (.b (.l [(9, .c (.int .i64))] [4, 9, 10, 51, 52, 53, 54, 55, 56, 57, 58, 59, 60, 61, 62, 63, 64, 65, 66, 67, 68, 69, 70, 71, 72, 73, 74] .n))) (.s .n (.s (.s .n (.b (.l [(12, .c (.int .i64))] [4, 12, 80, 81, 82, 83, 84, 85, 86, 87, 88, 89, 90, 91, 92, 93, 94, 95, 96, 97, 98, 99, 100, 101, 102, 103, 104, 105, 106, 107, 108, 109, 110, 111, 112, 113, 114, 115, 116, 117, 118, 119, 120, 121, 122, 123, 124, 125] (.s .n (.s (.b (.s (.r (.fl 0 (.fl 1 (.fl 2 (.fl 3 (.fl 4 (.fl 5 (.fl 6 (.fl 7 (.fl 8 (.fl 9 (.fl 10 (.fl 11 (.fl 12 (.fl 14 (.fl 15 (.fl 16 (.fl 17 (.fl 18 (.fl 19 (.mn 13 (.mn 20 (.fl 21 (.fl 22 (.fl 23 (.fl 24 (.fl 25 (.fl 26 (.fl 27 (.fl 28 (.fl 30 (.fl 31 (.fl 32 (.fl 33 (.fl 34 (.fl 35 (.mn 29 (.mn 36 (.fl 37 (.fl 38 (.fl 39 .fin))) .no) .no))))))))))))))) .no) .no))))))))))))))))))))) .n)) .n))))) (.s .n (.s (.s .n (.b (.l [(14, .c (.int .i64))] [14, 128, 129, 130, 131, 132, 133, 134, 135, 136, 137, 138] .n))) (.s (.s .n (.b (.l [(15, .c (.int .i64))] [4, 15, 16, 17, 18, 19, 20, 21, 22, 23, 24, 25, 26, 27, 139, 140, 141, 142, 143, 144, 145, 146, 147, 148, 149, 150, 151, 152, 153, 154, 155, 156, 157, 158, 159, 160, 161, 162, 163, 164, 165, 166, 167, 168, 169, 170, 171, 172, 173, 174, 175, 176, 177, 178, 179, 180, 181, 182, 183, 184, 185, 186, 187, 188, 189, 190, 191, 192, 193, 194, 195, 196, 197, 198, 199, 200, 201, 202, 203, 204, 205, 206, 207, 208, 209, 210, 211, 212, 213, 214, 215, 216, 217, 218, 219, 220, 221, 222, 223, 224, 225, 226, 227, 228, 229, 230, 231, 232, 233, 234, 235, 236, 237, 238, 239, 240, 241, 242, 243, 244, 245, 246, 247, 248, 249, 250, 251, 252, 253, 254, 255, 256, 257, 258, 259, 260, 261, 262, 263, 264, 265, 266, 267, 268, 269, 270, 271, 272, 273, 274, 275, 276, 277, 278, 279, 280, 281, 282, 283, 284, 285, 286, 287, 288, 289, 290, 291, 292, 293, 294, 295, 296, 297, 298, 299, 300, 301, 302, 303, 304, 305, 306, 307] (.s .n (.s (.b (.s .n (.s (.s .n (.b (.l [(17, .c (.int .i64))] [17, 146, 147, 148, 149, 150, 151, 152, 153] .n))) (.s .n (.s (.s .n (.b (.l [(18, .c (.int .i64))] [4, 18, 19, 20, 21, 22, 157, 158, 159, 160, 161, 162, 163, 164, 165, 166, 167, 168, 169, 170, 171, 172, 173, 174, 175, 176, 177, 178, 179, 180, 181, 182, 183, 184, 185, 186, 187, 188, 189, 190, 191, 192, 193, 194, 195, 196, 197, 198, 199, 200, 201, 202, 203, 204, 205, 206, 207, 208, 209, 210, 211, 212, 213, 214, 215, 216, 217, 218, 219, 220, 221, 222, 223, 224, 225, 226, 227, 228] (.s .n (.s (.b (.s .n (.s .n (.s .n (.b (.l [(21, .c (.int .i64))] [4, 21, 22, 169, 170, 171, 172, 173, 174, 175, 176, 177, 178, 179, 180, 181, 182, 183, 184, 185, 186, 187, 188, 189, 190, 191, 192, 193, 194, 195, 196, 197, 198, 199, 200, 201, 202, 203, 204, 205, 206, 207, 208, 209, 210, 211, 212, 213, 214, 215, 216, 217, 218, 219, 220, 221, 222, 223, 224, 225, 226, 227, 228] (.s .n (.s (.b (.s .n (.s .n (.s (.r (.fl 0 (.fl 1 (.fl 2 (.fl 3 (.fl 4 (.fl 5 (.fl 6 (.fl 7 (.fl 8 (.fl 9 (.fl 10 (.fl 11 (.fl 12 (.fl 13 (.fl 14 (.fl 15 (.fl 16 (.fl 17 (.fl 18 (.fl 19 (.fl 20 (.fl 21 .fin))))))))))))))))))))))) (.c (.r (.fl 0 (.fl 1 (.fl 2 (.fl 3 (.fl 4 (.fl 5 (.fl 6 (.fl 7 (.fl 8 (.fl 9 (.fl 10 (.fl 11 (.fl 12 (.mn 13 .fin .no))))))))))))))) .n))))) .n)))))))) .n))))) (.s (.s .n (.b (.l [(23, .c (.int .i64))] [4, 23, 24, 25, 26, 27, 231, 232, 233, 234, 235, 236, 237, 238, 239, 240, 241, 242, 243, 244, 245, 246, 247, 248, 249, 250, 251, 252, 253, 254, 255, 256, 257, 258, 259, 260, 261, 262, 263, 264, 265, 266, 267, 268, 269, 270, 271, 272, 273, 274, 275, 276, 277, 278, 279, 280, 281, 282, 283, 284, 285, 286, 287, 288, 289, 290, 291, 292, 293, 294, 295, 296, 297, 298, 299, 300, 301] (.s .n (.s (.b (.s .n (.s .n (.s .n (.b (.l [(26, .c (.int .i64))] [4, 26, 27, 242, 243, 244, 245, 246, 247, 248, 249, 250, 251, 252, 253, 254, 255, 256, 257, 258, 259, 260, 261, 262, 263, 264, 265, 266, 267, 268, 269, 270, 271, 272, 273, 274, 275, 276, 277, 278, 279, 280, 281, 282, 283, 284, 285, 286, 287, 288, 289, 290, 291, 292, 293, 294, 295, 296, 297, 298, 299, 300, 301] (.s .n (.s (.b (.s .n (.s .n (.s (.r (.fl 0 (.fl 1 (.fl 2 (.fl 3 (.fl 4 (.fl 5 (.fl 6 (.fl 7 (.fl 8 (.fl 9 (.fl 10 (.fl 11 (.fl 12 (.fl 13 (.fl 14 (.fl 15 (.fl 16 (.fl 17 (.fl 18 (.fl 19 (.fl 20 (.fl 21 (.fl 22 (.fl 23 (.fl 24 (.fl 25 (.fl 26 (.fl 27 (.fl 28 .fin)))))))))))))))))))))))))))))) (.c (.r (.fl 0 (.fl 1 (.fl 2 (.fl 3 (.fl 4 (.fl 5 (.fl 6 (.fl 7 (.fl 8 (.fl 9 (.fl 10 (.fl 11 (.fl 12 (.mn 13 .fin .no))))))))))))))) .n))))) .n)))))))) .n))))) .n)))))) .n))))) .n))))))))))) [(6, T_law16_awake), (7, T_law16_built), (11, T_net_Net_All), (12, T_levels_Levels_Rank), (14, T_levels_Levels_Up), (16, T_levels_Levels_Down), (21, T_alike_Ints), (22, T_ref4_Net_All)] ⟨⟨by kernel_rfl, S_law16_awake⟩, ⟨by kernel_rfl, S_law16_built⟩, ⟨by kernel_rfl, S_net_Net_All⟩, ⟨by kernel_rfl, S_levels_Levels_Rank⟩, ⟨by kernel_rfl, S_levels_Levels_Up⟩, ⟨by kernel_rfl, S_levels_Levels_Down⟩, ⟨by kernel_rfl, S_alike_Ints⟩, ⟨by kernel_rfl, S_ref4_Net_All⟩, trivial⟩ [.c (.int .i64), .c .slice] (by kernel_rfl) G_law16_LevelsFar fun t w K => by kernel_rfl

/-- milepost/milepostlaw16.LevelsOwn -/
def F_law16_LevelsOwn (n : Int) (l : Sl) (w : World) (Q : Bool → World → Prop) : Prop :=
  cond (decide (n < (1 : Int)))
  (F_law16_awake  w fun (b1 : Bool) w1 =>
  Q b1 w1)
  (cond (decide (n > (20 : Int)))
  (F_law16_awake  w fun (b2 : Bool) w2 =>
  Q b2 w2)
  (cond (decide (((l.l : Nat) : Int) > (80 : Int)))
  (F_law16_awake  w fun (b3 : Bool) w3 =>
  Q b3 w3)
  (F_law16_built n l w fun (p1 : Option Addr) (_ : Option Addr) (p3 : Option Addr) w4 =>
  cond (Option.isNone p1)
  (Q false w4)
  (∀ X1 : (Int × Unit) → World → Prop, (∀ (t1 : Int × Unit) (w5 : World), (
  onSome p3 fun a1 =>
  ld1 .slice w5 (a1.add 1) fun (s1 : Sl) =>
  cond (decide (t1.1 < ((s1.l : Nat) : Int)))
  (∀ J1 : ((Option Addr) × Bool × Unit) → World → Prop, (∀ (t2 : (Option Addr) × Bool × Unit) (w6 : World), (
  cond (!t2.2.1)
  (Q false w6.drew)
  (onSome t2.1 fun a2 =>
  ld1 (.int .i64) w6.drew (a2.add 2) fun (x1 : Int) =>
  onSome p3 fun a3 =>
  ld1 .slice w6.drew (a3.add 1) fun (s2 : Sl) =>
  (0 ≤ t1.1 ∧ t1.1 < ((s2.l : Nat) : Int)) ∧
  onSome s2.b fun a4 =>
  ld1 (.int .i64) w6.drew ((a4.add (Int.toNat t1.1 * 4)).add 2) fun (x2 : Int) =>
  cond (decide (x1 > x2))
  (Q false w6.drew)
  (onSome t2.1 fun a5 =>
  ld1 (.int .i64) w6.drew (a5.add 3) fun (x3 : Int) =>
  cond (decide (x3 < (0 : Int)))
  (onSome t2.1 fun a6 =>
  ldN [.int .i64, .int .i64, .int .i64, .int .i64] w6.drew a6 fun (t3 : Int × Int × Int × Int × Unit) =>
  onSome p3 fun a7 =>
  ld1 .slice w6.drew (a7.add 1) fun (s3 : Sl) =>
  (0 ≤ t1.1 ∧ t1.1 < ((s3.l : Nat) : Int)) ∧
  onSome s3.b fun a8 =>
  ldN [.int .i64, .int .i64, .int .i64, .int .i64] w6.drew (a8.add (Int.toNat t1.1 * 4)) fun (t4 : Int × Int × Int × Int × Unit) =>
  cond (!((t3.1 == t4.1) && ((t3.2.1 == t4.2.1) && ((t3.2.2.1 == t4.2.2.1) && ((t3.2.2.2.1 == t4.2.2.2.1) && true)))))
  (Q false w6.drew)
  (X1 ((IntKind.wrap .i64 (t1.1 + (1 : Int))), ()) w6.drew))
  (X1 ((IntKind.wrap .i64 (t1.1 + (1 : Int))), ()) w6.drew)))) → J1 t2 w6) →
  onSome p1 fun a9 =>
  ld1 .ptr w5.drew (a9.add 0) fun (p4 : Option Addr) =>
  onSome p3 fun a10 =>
  ld1 .slice w5.drew (a10.add 1) fun (s4 : Sl) =>
  (0 ≤ t1.1 ∧ t1.1 < ((s4.l : Nat) : Int)) ∧
  onSome s4.b fun a11 =>
  ld1 (.int .i64) w5.drew ((a11.add (Int.toNat t1.1 * 4)).add 0) fun (x4 : Int) =>
  onSome p3 fun a12 =>
  ld1 .slice w5.drew (a12.add 1) fun (s5 : Sl) =>
  (0 ≤ t1.1 ∧ t1.1 < ((s5.l : Nat) : Int)) ∧
  onSome s5.b fun a13 =>
  ld1 (.int .i64) w5.drew ((a13.add (Int.toNat t1.1 * 4)).add 1) fun (x5 : Int) =>
  (F_net_Net_Arc p4 x4 x5 w5.drew fun (t5 : Int × Int × Int × Int × Unit) (b4 : Bool) w7 =>
  allocD w7 #[Value.int .i64 (0 : Int), Value.int .i64 (0 : Int), Value.int .i64 (0 : Int), Value.int .i64 (0 : Int)] 49 fun a14 w8 =>
  storeD Try.prog 49 a14 (Value.agg #[(Value.int .i64 t5.1), (Value.int .i64 t5.2.1), (Value.int .i64 t5.2.2.1), (Value.int .i64 t5.2.2.2.1)]) w8 fun w9 =>
  J1 ((some a14), b4, ()) w9) ∧
  (allocD w5.drew #[Value.int .i64 (0 : Int), Value.int .i64 (0 : Int), Value.int .i64 (0 : Int), Value.int .i64 (0 : Int)] 49 fun a15 w10 =>
  w10.cell? ((a13.add (Int.toNat t1.1 * 4)).add 1) = some (Value.int .i64 x5) ∧
  w10.cell? (a12.add 1) = some (Value.slice s5.b s5.l s5.c) ∧
  w10.cell? ((a11.add (Int.toNat t1.1 * 4)).add 0) = some (Value.int .i64 x4) ∧
  w10.cell? (a10.add 1) = some (Value.slice s4.b s4.l s4.c) ∧
  w10.cell? (a9.add 0) = some (Value.pointer p4) ∧
  F_net_Net_Arc p4 x4 x5 w10 fun (t6 : Int × Int × Int × Int × Unit) (b5 : Bool) w11 =>
  storeD Try.prog 49 a15 (Value.agg #[(Value.int .i64 t6.1), (Value.int .i64 t6.2.1), (Value.int .i64 t6.2.2.1), (Value.int .i64 t6.2.2.2.1)]) w11 fun w12 =>
  J1 ((some a15), b5, ()) w12))
  (onSome p1 fun a16 =>
  ld1 .ptr w5 (a16.add 0) fun (p5 : Option Addr) =>
  F_net_Net_All p5 w5 fun (s6 : Sl) w13 =>
  ∀ X2 : (Int × Int × Unit) → World → Prop, (∀ (t7 : Int × Int × Unit) (w14 : World), (
  cond (decide (t7.2.1 < ((s6.l : Nat) : Int)))
  ((0 ≤ t7.2.1 ∧ t7.2.1 < ((s6.l : Nat) : Int)) ∧
  onSome s6.b fun a17 =>
  ld1 (.int .i64) w14 ((a17.add (Int.toNat t7.2.1 * 4)).add 3) fun (x6 : Int) =>
  cond (decide (x6 < (0 : Int)))
  (X2 (t7.1, (IntKind.wrap .i64 (t7.2.1 + (1 : Int))), ()) w14)
  (∀ J2 : ((Option Addr) × Bool × Unit) → World → Prop, (∀ (t8 : (Option Addr) × Bool × Unit) (w15 : World), (
  ∀ J3 : ((Option Addr) × Bool × Unit) → World → Prop, (∀ (t9 : (Option Addr) × Bool × Unit) (w16 : World), (
  cond (!t8.2.1)
  (Q false w16.drew)
  (cond (!t9.2.1)
  (Q false w16.drew)
  (onSome t8.1 fun a18 =>
  ld1 (.int .i64) w16.drew (a18.add 2) fun (x7 : Int) =>
  onSome t9.1 fun a19 =>
  ld1 (.int .i64) w16.drew (a19.add 2) fun (x8 : Int) =>
  (0 ≤ t7.2.1 ∧ t7.2.1 < ((s6.l : Nat) : Int)) ∧
  onSome s6.b fun a20 =>
  ld1 (.int .i64) w16.drew ((a20.add (Int.toNat t7.2.1 * 4)).add 2) fun (x9 : Int) =>
  cond ((IntKind.wrap .i64 (x7 + x8)) != x9)
  (Q false w16.drew)
  (X2 ((IntKind.wrap .i64 (t7.1 + (1 : Int))), (IntKind.wrap .i64 (t7.2.1 + (1 : Int))), ()) w16.drew)))) → J3 t9 w16) →
  onSome p1 fun a21 =>
  ld1 .ptr w15.drew (a21.add 0) fun (p6 : Option Addr) =>
  (0 ≤ t7.2.1 ∧ t7.2.1 < ((s6.l : Nat) : Int)) ∧
  onSome s6.b fun a22 =>
  ld1 (.int .i64) w15.drew ((a22.add (Int.toNat t7.2.1 * 4)).add 3) fun (x10 : Int) =>
  (0 ≤ t7.2.1 ∧ t7.2.1 < ((s6.l : Nat) : Int)) ∧
  onSome s6.b fun a23 =>
  ld1 (.int .i64) w15.drew ((a23.add (Int.toNat t7.2.1 * 4)).add 1) fun (x11 : Int) =>
  (F_net_Net_Arc p6 x10 x11 w15.drew fun (t10 : Int × Int × Int × Int × Unit) (b6 : Bool) w17 =>
  allocD w17 #[Value.int .i64 (0 : Int), Value.int .i64 (0 : Int), Value.int .i64 (0 : Int), Value.int .i64 (0 : Int)] 49 fun a24 w18 =>
  storeD Try.prog 49 a24 (Value.agg #[(Value.int .i64 t10.1), (Value.int .i64 t10.2.1), (Value.int .i64 t10.2.2.1), (Value.int .i64 t10.2.2.2.1)]) w18 fun w19 =>
  J3 ((some a24), b6, ()) w19) ∧
  (allocD w15.drew #[Value.int .i64 (0 : Int), Value.int .i64 (0 : Int), Value.int .i64 (0 : Int), Value.int .i64 (0 : Int)] 49 fun a25 w20 =>
  w20.cell? ((a23.add (Int.toNat t7.2.1 * 4)).add 1) = some (Value.int .i64 x11) ∧
  w20.cell? ((a22.add (Int.toNat t7.2.1 * 4)).add 3) = some (Value.int .i64 x10) ∧
  w20.cell? (a21.add 0) = some (Value.pointer p6) ∧
  F_net_Net_Arc p6 x10 x11 w20 fun (t11 : Int × Int × Int × Int × Unit) (b7 : Bool) w21 =>
  storeD Try.prog 49 a25 (Value.agg #[(Value.int .i64 t11.1), (Value.int .i64 t11.2.1), (Value.int .i64 t11.2.2.1), (Value.int .i64 t11.2.2.2.1)]) w21 fun w22 =>
  J3 ((some a25), b7, ()) w22)) → J2 t8 w15) →
  onSome p1 fun a26 =>
  ld1 .ptr w14.drew (a26.add 0) fun (p7 : Option Addr) =>
  (0 ≤ t7.2.1 ∧ t7.2.1 < ((s6.l : Nat) : Int)) ∧
  onSome s6.b fun a27 =>
  ld1 (.int .i64) w14.drew ((a27.add (Int.toNat t7.2.1 * 4)).add 0) fun (x12 : Int) =>
  (0 ≤ t7.2.1 ∧ t7.2.1 < ((s6.l : Nat) : Int)) ∧
  onSome s6.b fun a28 =>
  ld1 (.int .i64) w14.drew ((a28.add (Int.toNat t7.2.1 * 4)).add 3) fun (x13 : Int) =>
  (F_net_Net_Arc p7 x12 x13 w14.drew fun (t12 : Int × Int × Int × Int × Unit) (b8 : Bool) w23 =>
  allocD w23 #[Value.int .i64 (0 : Int), Value.int .i64 (0 : Int), Value.int .i64 (0 : Int), Value.int .i64 (0 : Int)] 49 fun a29 w24 =>
  storeD Try.prog 49 a29 (Value.agg #[(Value.int .i64 t12.1), (Value.int .i64 t12.2.1), (Value.int .i64 t12.2.2.1), (Value.int .i64 t12.2.2.2.1)]) w24 fun w25 =>
  J2 ((some a29), b8, ()) w25) ∧
  (allocD w14.drew #[Value.int .i64 (0 : Int), Value.int .i64 (0 : Int), Value.int .i64 (0 : Int), Value.int .i64 (0 : Int)] 49 fun a30 w26 =>
  w26.cell? ((a28.add (Int.toNat t7.2.1 * 4)).add 3) = some (Value.int .i64 x13) ∧
  w26.cell? ((a27.add (Int.toNat t7.2.1 * 4)).add 0) = some (Value.int .i64 x12) ∧
  w26.cell? (a26.add 0) = some (Value.pointer p7) ∧
  F_net_Net_Arc p7 x12 x13 w26 fun (t13 : Int × Int × Int × Int × Unit) (b9 : Bool) w27 =>
  storeD Try.prog 49 a30 (Value.agg #[(Value.int .i64 t13.1), (Value.int .i64 t13.2.1), (Value.int .i64 t13.2.2.1), (Value.int .i64 t13.2.2.2.1)]) w27 fun w28 =>
  J2 ((some a30), b9, ()) w28)))
  (∀ X3 : (Int × Int × Unit) → World → Prop, (∀ (t14 : Int × Int × Unit) (w29 : World), (
  cond (decide (t14.2.1 < n))
  (F_levels_Levels_Up p1 t14.2.1 w29 fun (s7 : Sl) w30 =>
  F_levels_Levels_Down p1 t14.2.1 w30 fun (s8 : Sl) w31 =>
  X3 ((IntKind.wrap .i64 ((IntKind.wrap .i64 (t14.1 + ((s7.l : Nat) : Int))) + ((s8.l : Nat) : Int))), (IntKind.wrap .i64 (t14.2.1 + (1 : Int))), ()) w31)
  (F_levels_Levels_Cuts p1 w29 fun (x14 : Int) w32 =>
  cond (t7.1 == x14)
  (cond (t14.1 == ((s6.l : Nat) : Int))
  (F_law16_awake  w32 fun (b10 : Bool) w33 =>
  Q b10 w33)
  (Q false w32))
  (Q false w32))) → X3 t14 w29) →
  X3 ((0 : Int), (0 : Int), ()) w14)) → X2 t7 w14) →
  X2 ((0 : Int), (0 : Int), ()) w13)) → X1 t1 w5) →
  X1 ((0 : Int), ()) w4))))
def G_law16_LevelsOwn (t : KTs [.c (.int .i64), .c .slice]) (w : World) (K : Value → World → Prop) : Prop := F_law16_LevelsOwn t.1 t.2.1 w fun (r0 : Bool) w1 => K (Value.bool r0) w1
abbrev T_law16_LevelsOwn : Tr := fun args w K => decK [.c (.int .i64), .c .slice] args fun t => G_law16_LevelsOwn t w K
theorem S_law16_LevelsOwn : Sound Try.prog 5 T_law16_LevelsOwn := sound_of (fn := Try.f5) Try.func5 (by kernel_rfl) mixed (by kernel_rfl) (.s .n (.s .n (.s .n (.s .n (.s (.s .n (.b (.l [(8, .c (.int .i64))] [4, 8, 9, 10, 41, 42, 43, 44, 45, 46, 47, 48, 49, 50, 51, 52, 53, 54, 55, 56, 57, 58, 59, 60, 61, 62, 63, 64, 65, 66, 67, 68, 69, 70, 71, 72, 73, 74, 75, 76, 77, 78, 79, 80, 81, 82, 83, 84, 85, 86, 87, 88, 89, 90, 91, 92, 93, 94, 95, 96, 97, 98, 99, 100, 101, 102, 103, 104] (.s .n (.s (.b (.j [(9, .c .ptr), (10, .c .bool)] [9, 10, 50, 51, 52, 53, 54, 55, 56, 57, 58, 59, 60, 61, 62, 63, 64, 65, 66, 67, 68, 69, 70, 71, 72, 73] (.r (.fl 0 (.fl 1 (.fl 2 (.fl 3 (.fl 4 (.fl 5 (.fl 6 (.fl 7 (.fl 8 (.fl 9 (.fl 10 (.fl 11 (.fl 12 (.fl 13 (.fl 14 (.fl 15 (.fl 16 (.fl 17 (.fl 18 (.fl 19 (.mn 20 (.fl 21 (.fl 22 (.fl 23 (.mn 24 (.mn 25 (.fl 26 .fin) .no) .no)))) (.mn 24 (.mn 20 (.fl 21 (.fl 22 (.fl 23 (.mn 25 (.fl 26 .fin) .no)))) .no) .no))))))))))))))))))))))) (.s (.r (.fl 0 (.fl 1 (.fl 2 (.fl 3 (.fl 4 (.fl 5 (.fl 6 (.fl 7 (.fl 8 (.fl 9 (.fl 10 (.fl 11 (.fl 12 (.fl 13 (.fl 14 (.fl 15 (.fl 16 (.fl 17 (.fl 18 (.fl 19 (.fl 20 (.fl 21 (.fl 22 (.fl 23 (.fl 24 (.fl 25 (.fl 26 (.fl 27 (.fl 28 (.fl 29 (.fl 30 .fin)))))))))))))))))))))))))))))))) .n))) .n))))) (.s .n (.s .n (.s (.s .n (.b (.l [(12, .c (.int .i64)), (14, .c (.int .i64))] [4, 12, 14, 15, 16, 17, 18, 110, 111, 112, 113, 114, 115, 116, 117, 118, 119, 120, 121, 122, 123, 124, 125, 126, 127, 128, 129, 130, 131, 132, 133, 134, 135, 136, 137, 138, 139, 140, 141, 142, 143, 144, 145, 146, 147, 148, 149, 150, 151, 152, 153, 154, 155, 156, 157, 158, 159, 160, 161, 162, 163, 164, 165, 166, 167, 168, 169, 170, 171, 172, 173, 174, 175, 176, 177, 178] (.s .n (.s (.b (.s .n (.s .n (.j [(15, .c .ptr), (16, .c .bool)] [15, 16, 124, 125, 126, 127, 128, 129, 130, 131, 132, 133, 134, 135, 136, 137, 138, 139, 140, 141] (.r (.fl 0 (.fl 1 (.fl 2 (.fl 3 (.fl 4 (.fl 5 (.fl 6 (.fl 7 (.fl 8 (.fl 9 (.fl 10 (.fl 11 (.fl 12 (.fl 13 (.mn 14 (.fl 15 (.fl 16 (.fl 17 (.mn 18 (.mn 19 (.fl 20 .fin) .no) .no)))) (.mn 18 (.mn 14 (.fl 15 (.fl 16 (.fl 17 (.mn 19 (.fl 20 .fin) .no)))) .no) .no))))))))))))))))) (.j [(17, .c .ptr), (18, .c .bool)] [17, 18, 142, 143, 144, 145, 146, 147, 148, 149, 150, 151, 152, 153, 154, 155, 156, 157, 158, 159] (.r (.fl 0 (.fl 1 (.fl 2 (.fl 3 (.fl 4 (.fl 5 (.fl 6 (.fl 7 (.fl 8 (.fl 9 (.fl 10 (.fl 11 (.fl 12 (.fl 13 (.mn 14 (.fl 15 (.fl 16 (.fl 17 (.mn 18 (.mn 19 (.fl 20 .fin) .no) .no)))) (.mn 18 (.mn 14 (.fl 15 (.fl 16 (.fl 17 (.mn 19 (.fl 20 .fin) .no)))) .no) .no))))))))))))))))) (.s (.r (.fl 0 (.fl 1 (.fl 2 (.fl 3 (.fl 4 (.fl 5 (.fl 6 (.fl 7 (.fl 8 (.fl 9 (.fl 10 (.fl 11 (.fl 12 (.fl 13 (.fl 14 (.fl 15 (.fl 16 (.fl 17 (.fl 18 .fin)))))))))))))))))))) .n)))))) .n))))) (.s (.s .n (.b (.l [(13, .c (.int .i64)), (19, .c (.int .i64))] [13, 19, 179, 180, 181, 182, 183, 184, 185, 186, 187, 188, 189, 190, 191, 192, 193, 194] .n))) .n))))))))) [(6, T_law16_awake), (7, T_law16_built), (11, T_net_Net_All), (14, T_levels_Levels_Up), (16, T_levels_Levels_Down), (18, T_levels_Levels_Cuts), (23, T_net_Net_Arc)] ⟨⟨by kernel_rfl, S_law16_awake⟩, ⟨by kernel_rfl, S_law16_built⟩, ⟨by kernel_rfl, S_net_Net_All⟩, ⟨by kernel_rfl, S_levels_Levels_Up⟩, ⟨by kernel_rfl, S_levels_Levels_Down⟩, ⟨by kernel_rfl, S_levels_Levels_Cuts⟩, ⟨by kernel_rfl, S_net_Net_Arc⟩, trivial⟩ [.c (.int .i64), .c .slice] (by kernel_rfl) G_law16_LevelsOwn fun t w K => by kernel_rfl

end Go.Proofs.Ytdmcgddefnnbmaa
