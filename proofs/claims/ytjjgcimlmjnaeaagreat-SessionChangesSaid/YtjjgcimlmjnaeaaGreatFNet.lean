import Derived.Test.YtjjgcimlmjnaeaaGreatA1
import Derived.Test.YtjjgcimlmjnaeaaGreatFBase
namespace Go.Proofs.YtjjgcimlmjnaeaaGreat
open Go Go.Den
set_option maxRecDepth 100000
/-- milepost/milepostalike.Round -/
def F_alike_Round (k : Int) (n : Int) (w : World) (Q : Int → World → Prop) : Prop :=
  ¬ n = 0 ∧
  cond (decide ((Int.tmod k n) < (0 : Int)))
  (Q (IntKind.wrap .i64 ((Int.tmod k n) + n)) w)
  (Q (Int.tmod k n) w)
def G_alike_Round (t : KTs [.c (.int .i64), .c (.int .i64)]) (w : World) (K : Value → World → Prop) : Prop := F_alike_Round t.1 t.2.1 w fun (r0 : Int) w1 => K (Value.int .i64 r0) w1
abbrev T_alike_Round : Tr := fun args w K => decK [.c (.int .i64), .c (.int .i64)] args fun t => G_alike_Round t w K
theorem S_alike_Round : Sound Tryz.prog 10 T_alike_Round := sound_of (fn := Tryz.f10) Tryz.func10 (by kernel_rfl) mixed (by kernel_rfl) (.n) [] trivial [.c (.int .i64), .c (.int .i64)] (by kernel_rfl) G_alike_Round fun t w K => by kernel_rfl

/-- milepost/milepostalike.Ints -/
def F_alike_Ints (a : Sl) (b : Sl) (w : World) (Q : Bool → World → Prop) : Prop :=
  cond (((a.l : Nat) : Int) != ((b.l : Nat) : Int))
  (Q false w)
  (∀ X1 : (Int × Unit) → World → Prop, (∀ (t1 : Int × Unit) (w1 : World), (
  cond (decide (t1.1 < ((a.l : Nat) : Int)))
  ((0 ≤ t1.1 ∧ t1.1 < ((a.l : Nat) : Int)) ∧
  onSome a.b fun a1 =>
  ld1 (.int .i64) w1.drew (a1.add (Int.toNat t1.1 * 1)) fun (x1 : Int) =>
  (0 ≤ t1.1 ∧ t1.1 < ((b.l : Nat) : Int)) ∧
  onSome b.b fun a2 =>
  ld1 (.int .i64) w1.drew (a2.add (Int.toNat t1.1 * 1)) fun (x2 : Int) =>
  cond (x1 != x2)
  (Q false w1.drew)
  (X1 ((IntKind.wrap .i64 (t1.1 + (1 : Int))), ()) w1.drew))
  (Q true w1)) → X1 t1 w1) →
  X1 ((0 : Int), ()) w)
def G_alike_Ints (t : KTs [.c .slice, .c .slice]) (w : World) (K : Value → World → Prop) : Prop := F_alike_Ints t.1 t.2.1 w fun (r0 : Bool) w1 => K (Value.bool r0) w1
abbrev T_alike_Ints : Tr := fun args w K => decK [.c .slice, .c .slice] args fun t => G_alike_Ints t w K
theorem S_alike_Ints : Sound Tryz.prog 27 T_alike_Ints := sound_of (fn := Tryz.f27) Tryz.func27 (by kernel_rfl) mixed (by kernel_rfl) (.s .n (.s .n (.s (.s .n (.b (.l [(5, .c (.int .i64))] [4, 5, 11, 12, 13, 14, 15, 16, 17, 18, 19, 20, 21, 22, 23, 24, 25] (.s .n (.s (.b (.s (.r (.fl 0 (.fl 1 (.fl 2 (.fl 3 (.fl 4 (.fl 5 (.fl 6 (.fl 7 (.fl 8 .fin)))))))))) .n)) .n))))) .n))) [] trivial [.c .slice, .c .slice] (by kernel_rfl) G_alike_Ints fun t w K => by kernel_rfl

/-- milepost/milepostref4.within -/
def F_ref4_within (n : Int) (a : Int) (b : Int) (w : World) (Q : Bool → World → Prop) : Prop :=
  cond (decide (n ≥ a))
  (Q (decide (n ≤ b)) w)
  (Q false w)
def G_ref4_within (t : KTs [.c (.int .i64), .c (.int .i64), .c (.int .i64)]) (w : World) (K : Value → World → Prop) : Prop := F_ref4_within t.1 t.2.1 t.2.2.1 w fun (r0 : Bool) w1 => K (Value.bool r0) w1
abbrev T_ref4_within : Tr := fun args w K => decK [.c (.int .i64), .c (.int .i64), .c (.int .i64)] args fun t => G_ref4_within t w K
theorem S_ref4_within : Sound Tryz.prog 40 T_ref4_within := sound_of (fn := Tryz.f40) Tryz.func40 (by kernel_rfl) mixed (by kernel_rfl) (.n) [] trivial [.c (.int .i64), .c (.int .i64), .c (.int .i64)] (by kernel_rfl) G_ref4_within fun t w K => by kernel_rfl

/-- (*milepost/net.Net).may -/
def F_net_Net_may (t : Option Addr) (a : Int × Int × Int × Int × Unit) (w : World) (Q : Bool → World → Prop) : Prop :=
  allocD w #[Value.int .i64 a.1, Value.int .i64 a.2.1, Value.int .i64 a.2.2.1, Value.int .i64 a.2.2.2.1] 91 fun a1 w1 =>
  onSome t fun a2 =>
  ld1 .slice w1 (a2.add 0) fun (s1 : Sl) =>
  allocD w1 #[Value.int .i64 (0 : Int)] 3 fun a3 w2 =>
  storeD Tryz.prog 3 a3 (Value.int .i64 ((s1.l : Nat) : Int)) w2 fun w3 =>
  ∀ J1 : (Bool × Unit) → World → Prop, (∀ (t1 : Bool × Unit) (w4 : World), (
  ld1 (.int .i64) w4 (a1.add 0) fun (x1 : Int) =>
  callV Tryz.prog (Value.func (.func 100) #[] #[(Value.pointer (some a3))]) [(Value.int .i64 x1)] w4 fun v1 w5 =>
  ∃ b1 : Bool, v1 = (Value.bool b1) ∧
  cond b1
  (ld1 (.int .i64) w5 (a1.add 1) fun (x2 : Int) =>
  callV Tryz.prog (Value.func (.func 100) #[] #[(Value.pointer (some a3))]) [(Value.int .i64 x2)] w5 fun v2 w6 =>
  ∃ b2 : Bool, v2 = (Value.bool b2) ∧
  cond b2
  (ld1 (.int .i64) w6 (a1.add 0) fun (x3 : Int) =>
  ld1 (.int .i64) w6 (a1.add 1) fun (x4 : Int) =>
  cond (x3 != x4)
  (ld1 (.int .i64) w6 (a1.add 2) fun (x5 : Int) =>
  cond (decide (x5 ≥ (1 : Int)))
  (ld1 (.int .i64) w6 (a1.add 2) fun (x6 : Int) =>
  cond (decide (x6 ≤ (1099511627776 : Int)))
  (Q t1.1 w6)
  (Q false w6))
  (Q false w6))
  (Q false w6))
  (Q false w6))
  (Q false w5)) → J1 t1 w4) →
  ld1 (.int .i64) w3 (a1.add 3) fun (x7 : Int) =>
  cond (x7 == (-1 : Int))
  (J1 (true, ()) w3)
  (ld1 (.int .i64) w3 (a1.add 3) fun (x8 : Int) =>
  callV Tryz.prog (Value.func (.func 100) #[] #[(Value.pointer (some a3))]) [(Value.int .i64 x8)] w3 fun v3 w7 =>
  ∃ b3 : Bool, v3 = (Value.bool b3) ∧
  cond b3
  (ld1 (.int .i64) w7 (a1.add 3) fun (x9 : Int) =>
  ld1 (.int .i64) w7 (a1.add 0) fun (x10 : Int) =>
  cond (x9 != x10)
  (ld1 (.int .i64) w7 (a1.add 3) fun (x11 : Int) =>
  ld1 (.int .i64) w7 (a1.add 1) fun (x12 : Int) =>
  J1 ((x11 != x12), ()) w7)
  (J1 (false, ()) w7))
  (J1 (false, ()) w7))
def G_net_Net_may (t : KTs [.c .ptr, .agg [.int .i64, .int .i64, .int .i64, .int .i64]]) (w : World) (K : Value → World → Prop) : Prop := F_net_Net_may t.1 t.2.1 w fun (r0 : Bool) w1 => K (Value.bool r0) w1
abbrev T_net_Net_may : Tr := fun args w K => decK [.c .ptr, .agg [.int .i64, .int .i64, .int .i64, .int .i64]] args fun t => G_net_Net_may t w K
theorem S_net_Net_may : Sound Tryz.prog 77 T_net_Net_may := sound_of (fn := Tryz.f77) Tryz.func77 (by kernel_rfl) mixed (by kernel_rfl) (.s .n (.s .n (.s .n (.j [(7, .c .bool)] [7, 14, 15, 16, 17, 18, 19, 20, 21, 22, 23, 24, 25, 26, 27, 28, 29, 30, 31, 32, 33, 34, 35, 36] .n .n)))) [] trivial [.c .ptr, .agg [.int .i64, .int .i64, .int .i64, .int .i64]] (by kernel_rfl) G_net_Net_may fun t w K => by kernel_rfl

/-- slices.BinarySearchFunc[[]milepost/api.Arc,milepost/api.Arc,int] -/
def F_slices_BinarySearchFunc_sArc_Arc_int (x : Sl) (target : Int) (cmp : Value) (w : World) (Q : Int → Bool → World → Prop) : Prop :=
  ∀ X1 : (Int × Int × Unit) → World → Prop, (∀ (t1 : Int × Int × Unit) (w1 : World), (
  cond (decide (t1.1 < t1.2.1))
  (0 ≤ (1 : Int) ∧
  (0 ≤ IntKind.wrap .i64 (Int.fdiv (IntKind.wrap .u64 (IntKind.wrap .i64 (t1.1 + t1.2.1))) (2 ^ (min (Int.toNat (1 : Int)) (IntKind.bits .u64)))) ∧ IntKind.wrap .i64 (Int.fdiv (IntKind.wrap .u64 (IntKind.wrap .i64 (t1.1 + t1.2.1))) (2 ^ (min (Int.toNat (1 : Int)) (IntKind.bits .u64)))) < ((x.l : Nat) : Int)) ∧
  onSome x.b fun a1 =>
  ldN [.int .i64, .int .i64, .int .i64, .int .i64] w1 (a1.add (Int.toNat (IntKind.wrap .i64 (Int.fdiv (IntKind.wrap .u64 (IntKind.wrap .i64 (t1.1 + t1.2.1))) (2 ^ (min (Int.toNat (1 : Int)) (IntKind.bits .u64))))) * 4)) fun (t2 : Int × Int × Int × Int × Unit) =>
  callV Tryz.prog cmp [(Value.agg #[(Value.int .i64 t2.1), (Value.int .i64 t2.2.1), (Value.int .i64 t2.2.2.1), (Value.int .i64 t2.2.2.2.1)]), (Value.int .i64 target)] w1 fun v1 w2 =>
  ∃ x1 : Int, v1 = (Value.int .i64 x1) ∧
  cond (decide (x1 < (0 : Int)))
  (X1 ((IntKind.wrap .i64 ((IntKind.wrap .i64 (Int.fdiv (IntKind.wrap .u64 (IntKind.wrap .i64 (t1.1 + t1.2.1))) (2 ^ (min (Int.toNat (1 : Int)) (IntKind.bits .u64))))) + (1 : Int))), t1.2.1, ()) w2)
  (X1 (t1.1, (IntKind.wrap .i64 (Int.fdiv (IntKind.wrap .u64 (IntKind.wrap .i64 (t1.1 + t1.2.1))) (2 ^ (min (Int.toNat (1 : Int)) (IntKind.bits .u64))))), ()) w2))
  (cond (decide (t1.1 < ((x.l : Nat) : Int)))
  ((0 ≤ t1.1 ∧ t1.1 < ((x.l : Nat) : Int)) ∧
  onSome x.b fun a2 =>
  ldN [.int .i64, .int .i64, .int .i64, .int .i64] w1 (a2.add (Int.toNat t1.1 * 4)) fun (t3 : Int × Int × Int × Int × Unit) =>
  callV Tryz.prog cmp [(Value.agg #[(Value.int .i64 t3.1), (Value.int .i64 t3.2.1), (Value.int .i64 t3.2.2.1), (Value.int .i64 t3.2.2.2.1)]), (Value.int .i64 target)] w1 fun v2 w3 =>
  ∃ x2 : Int, v2 = (Value.int .i64 x2) ∧
  Q t1.1 (x2 == (0 : Int)) w3)
  (Q t1.1 false w1))) → X1 t1 w1) →
  X1 ((0 : Int), ((x.l : Nat) : Int), ()) w
def G_slices_BinarySearchFunc_sArc_Arc_int (t : KTs [.c .slice, .c (.int .i64), .c .any]) (w : World) (K : Value → World → Prop) : Prop := F_slices_BinarySearchFunc_sArc_Arc_int t.1 t.2.1 t.2.2.1 w fun (r0 : Int) (r1 : Bool) w1 => K (Value.tuple #[(Value.int .i64 r0), (Value.bool r1)]) w1
abbrev T_slices_BinarySearchFunc_sArc_Arc_int : Tr := fun args w K => decK [.c .slice, .c (.int .i64), .c .any] args fun t => G_slices_BinarySearchFunc_sArc_Arc_int t w K
theorem S_slices_BinarySearchFunc_sArc_Arc_int : Sound Tryz.prog 128 T_slices_BinarySearchFunc_sArc_Arc_int := sound_of (fn := Tryz.f128) Tryz.func128 (by kernel_rfl) mixed (by kernel_rfl) (.s .n (.s .n (.s .n (.s (.b (.l [(9, .c (.int .i64)), (10, .c (.int .i64))] [9, 10, 11, 15, 16, 17, 18, 19, 20, 21, 22, 23, 24, 25, 26, 27, 28, 29, 30, 31, 32, 33, 34] .n)) .n)))) [] trivial [.c .slice, .c (.int .i64), .c .any] (by kernel_rfl) G_slices_BinarySearchFunc_sArc_Arc_int fun t w K => by kernel_rfl

/-- milepost/net.byTo -/
def F_net_byTo (l : Sl) (to : Int) (w : World) (Q : Int → Bool → World → Prop) : Prop :=
  F_slices_BinarySearchFunc_sArc_Arc_int l to (Value.func (.func 129) #[] #[]) w fun (x1 : Int) (b1 : Bool) w1 =>
  Q x1 b1 w1
def G_net_byTo (t : KTs [.c .slice, .c (.int .i64)]) (w : World) (K : Value → World → Prop) : Prop := F_net_byTo t.1 t.2.1 w fun (r0 : Int) (r1 : Bool) w1 => K (Value.tuple #[(Value.int .i64 r0), (Value.bool r1)]) w1
abbrev T_net_byTo : Tr := fun args w K => decK [.c .slice, .c (.int .i64)] args fun t => G_net_byTo t w K
theorem S_net_byTo : Sound Tryz.prog 101 T_net_byTo := sound_of (fn := Tryz.f101) Tryz.func101 (by kernel_rfl) mixed (by kernel_rfl) (.n) [(128, T_slices_BinarySearchFunc_sArc_Arc_int)] ⟨⟨by kernel_rfl, S_slices_BinarySearchFunc_sArc_Arc_int⟩, trivial⟩ [.c .slice, .c (.int .i64)] (by kernel_rfl) G_net_byTo fun t w K => by kernel_rfl

/-- slices.Reverse[[]milepost/api.Arc,milepost/api.Arc] -/
def F_slices_Reverse_sArc_Arc (s : Sl) (w : World) (Q : World → Prop) : Prop :=
  ∀ X1 : (Int × Int × Unit) → World → Prop, (∀ (t1 : Int × Int × Unit) (w1 : World), (
  cond (decide (t1.1 < t1.2.1))
  ((0 ≤ t1.2.1 ∧ t1.2.1 < ((s.l : Nat) : Int)) ∧
  onSome s.b fun a1 =>
  ldN [.int .i64, .int .i64, .int .i64, .int .i64] w1.drew (a1.add (Int.toNat t1.2.1 * 4)) fun (t2 : Int × Int × Int × Int × Unit) =>
  (0 ≤ t1.1 ∧ t1.1 < ((s.l : Nat) : Int)) ∧
  onSome s.b fun a2 =>
  ldN [.int .i64, .int .i64, .int .i64, .int .i64] w1.drew (a2.add (Int.toNat t1.1 * 4)) fun (t3 : Int × Int × Int × Int × Unit) =>
  (0 ≤ t1.1 ∧ t1.1 < ((s.l : Nat) : Int)) ∧
  onSome s.b fun a3 =>
  storeD Tryz.prog 91 (a3.add (Int.toNat t1.1 * 4)) (Value.agg #[(Value.int .i64 t2.1), (Value.int .i64 t2.2.1), (Value.int .i64 t2.2.2.1), (Value.int .i64 t2.2.2.2.1)]) w1.drew fun w2 =>
  (0 ≤ t1.2.1 ∧ t1.2.1 < ((s.l : Nat) : Int)) ∧
  onSome s.b fun a4 =>
  storeD Tryz.prog 91 (a4.add (Int.toNat t1.2.1 * 4)) (Value.agg #[(Value.int .i64 t3.1), (Value.int .i64 t3.2.1), (Value.int .i64 t3.2.2.1), (Value.int .i64 t3.2.2.2.1)]) w2 fun w3 =>
  X1 ((IntKind.wrap .i64 (t1.1 + (1 : Int))), (IntKind.wrap .i64 (t1.2.1 - (1 : Int))), ()) w3)
  (Q w1)) → X1 t1 w1) →
  X1 ((0 : Int), (IntKind.wrap .i64 (((s.l : Nat) : Int) - (1 : Int))), ()) w
def G_slices_Reverse_sArc_Arc (t : KTs [.c .slice]) (w : World) (K : Value → World → Prop) : Prop := F_slices_Reverse_sArc_Arc t.1 w fun  w1 => K (Value.tuple #[]) w1
abbrev T_slices_Reverse_sArc_Arc : Tr := fun args w K => decK [.c .slice] args fun t => G_slices_Reverse_sArc_Arc t w K
theorem S_slices_Reverse_sArc_Arc : Sound Tryz.prog 161 T_slices_Reverse_sArc_Arc := sound_of (fn := Tryz.f161) Tryz.func161 (by kernel_rfl) mixed (by kernel_rfl) (.s .n (.b (.l [(2, .c (.int .i64)), (3, .c (.int .i64))] [2, 3, 7, 8, 9, 10, 11, 12, 13, 14, 15, 16, 17, 18, 19, 20, 21, 22, 23, 24, 25, 26, 27] (.s .n (.s (.b (.r (.fl 0 (.fl 1 (.fl 2 (.fl 3 (.fl 4 (.fl 5 (.fl 6 (.fl 7 (.fl 8 (.fl 9 (.fl 10 (.fl 11 (.fl 12 (.mn 13 (.fl 14 (.mn 15 .fin .no)) .no)))))))))))))))) .n))))) [] trivial [.c .slice] (by kernel_rfl) G_slices_Reverse_sArc_Arc fun t w K => by kernel_rfl

/-- slices.rotateLeft[milepost/api.Arc] -/
def F_slices_rotateLeft_Arc (s : Sl) (r : Int) (w : World) (Q : World → Prop) : Prop :=
  (0 ≤ r ∧ r ≤ ((s.c : Nat) : Int)) ∧
  F_slices_Reverse_sArc_Arc ⟨(sliceAddr s.b s.c 0 4), ((Int.toNat r) - 0), (s.c - 0)⟩ w fun w1 =>
  (0 ≤ r ∧ r ≤ ((s.l : Nat) : Int)) ∧
  F_slices_Reverse_sArc_Arc ⟨(sliceAddr s.b s.c (Int.toNat r) 4), (s.l - (Int.toNat r)), (s.c - (Int.toNat r))⟩ w1 fun w2 =>
  F_slices_Reverse_sArc_Arc s w2 fun w3 =>
  Q w3
def G_slices_rotateLeft_Arc (t : KTs [.c .slice, .c (.int .i64)]) (w : World) (K : Value → World → Prop) : Prop := F_slices_rotateLeft_Arc t.1 t.2.1 w fun  w1 => K (Value.tuple #[]) w1
abbrev T_slices_rotateLeft_Arc : Tr := fun args w K => decK [.c .slice, .c (.int .i64)] args fun t => G_slices_rotateLeft_Arc t w K
theorem S_slices_rotateLeft_Arc : Sound Tryz.prog 157 T_slices_rotateLeft_Arc := sound_of (fn := Tryz.f157) Tryz.func157 (by kernel_rfl) mixed (by kernel_rfl) (.n) [(161, T_slices_Reverse_sArc_Arc)] ⟨⟨by kernel_rfl, S_slices_Reverse_sArc_Arc⟩, trivial⟩ [.c .slice, .c (.int .i64)] (by kernel_rfl) G_slices_rotateLeft_Arc fun t w K => by kernel_rfl

/-- slices.rotateRight[milepost/api.Arc] -/
def F_slices_rotateRight_Arc (s : Sl) (r : Int) (w : World) (Q : World → Prop) : Prop :=
  F_slices_rotateLeft_Arc s (IntKind.wrap .i64 (((s.l : Nat) : Int) - r)) w fun w1 =>
  Q w1
def G_slices_rotateRight_Arc (t : KTs [.c .slice, .c (.int .i64)]) (w : World) (K : Value → World → Prop) : Prop := F_slices_rotateRight_Arc t.1 t.2.1 w fun  w1 => K (Value.tuple #[]) w1
abbrev T_slices_rotateRight_Arc : Tr := fun args w K => decK [.c .slice, .c (.int .i64)] args fun t => G_slices_rotateRight_Arc t w K
theorem S_slices_rotateRight_Arc : Sound Tryz.prog 147 T_slices_rotateRight_Arc := sound_of (fn := Tryz.f147) Tryz.func147 (by kernel_rfl) mixed (by kernel_rfl) (.n) [(157, T_slices_rotateLeft_Arc)] ⟨⟨by kernel_rfl, S_slices_rotateLeft_Arc⟩, trivial⟩ [.c .slice, .c (.int .i64)] (by kernel_rfl) G_slices_rotateRight_Arc fun t w K => by kernel_rfl

/-- slices.Insert[[]milepost/api.Arc,milepost/api.Arc] -/
def F_slices_Insert_sArc_Arc (s : Sl) (i : Int) (v : Sl) (w : World) (Q : Sl → World → Prop) : Prop :=
  (0 ≤ i ∧ i ≤ ((s.l : Nat) : Int)) ∧
  cond (((v.l : Nat) : Int) == (0 : Int))
  (Q s w)
  (cond (i == ((s.l : Nat) : Int))
  (appendD Tryz.prog 88 88 s (Value.slice v.b v.l v.c) w fun (s1 : Sl) w1 =>
  Q s1 w1)
  (cond (decide ((IntKind.wrap .i64 (((s.l : Nat) : Int) + ((v.l : Nat) : Int))) > ((s.c : Nat) : Int)))
  ((0 ≤ i ∧ i ≤ ((s.c : Nat) : Int)) ∧
  appendD Tryz.prog 88 3 ⟨(sliceAddr s.b s.c 0 4), ((Int.toNat i) - 0), (s.c - 0)⟩ (Value.int .i64 (IntKind.wrap .i64 ((IntKind.wrap .i64 (((s.l : Nat) : Int) + ((v.l : Nat) : Int))) - i))) w fun (s2 : Sl) w2 =>
  (0 ≤ i ∧ i ≤ ((s2.l : Nat) : Int)) ∧
  copyD Tryz.prog 88 88 ⟨(sliceAddr s2.b s2.c (Int.toNat i) 4), (s2.l - (Int.toNat i)), (s2.c - (Int.toNat i))⟩ (Value.slice v.b v.l v.c) w2 fun (_ : Int) w3 =>
  (0 ≤ IntKind.wrap .i64 (i + ((v.l : Nat) : Int)) ∧ IntKind.wrap .i64 (i + ((v.l : Nat) : Int)) ≤ ((s2.l : Nat) : Int)) ∧
  (0 ≤ i ∧ i ≤ ((s.l : Nat) : Int)) ∧
  copyD Tryz.prog 88 88 ⟨(sliceAddr s2.b s2.c (Int.toNat (IntKind.wrap .i64 (i + ((v.l : Nat) : Int)))) 4), (s2.l - (Int.toNat (IntKind.wrap .i64 (i + ((v.l : Nat) : Int))))), (s2.c - (Int.toNat (IntKind.wrap .i64 (i + ((v.l : Nat) : Int)))))⟩ (Value.slice (sliceAddr s.b s.c (Int.toNat i) 4) (s.l - (Int.toNat i)) (s.c - (Int.toNat i))) w3.drew fun (_ : Int) w4 =>
  Q s2 w4)
  ((0 ≤ IntKind.wrap .i64 (((s.l : Nat) : Int) + ((v.l : Nat) : Int)) ∧ IntKind.wrap .i64 (((s.l : Nat) : Int) + ((v.l : Nat) : Int)) ≤ ((s.c : Nat) : Int)) ∧
  (0 ≤ IntKind.wrap .i64 (i + ((v.l : Nat) : Int)) ∧ IntKind.wrap .i64 (i + ((v.l : Nat) : Int)) ≤ ((((Int.toNat (IntKind.wrap .i64 (((s.l : Nat) : Int) + ((v.l : Nat) : Int)))) - 0) : Nat) : Int)) ∧
  extD Tryz.prog (.c .bool) 146 [(Value.slice v.b v.l v.c), (Value.slice (sliceAddr (sliceAddr s.b s.c 0 4) (s.c - 0) (Int.toNat (IntKind.wrap .i64 (i + ((v.l : Nat) : Int)))) 4) (((Int.toNat (IntKind.wrap .i64 (((s.l : Nat) : Int) + ((v.l : Nat) : Int)))) - 0) - (Int.toNat (IntKind.wrap .i64 (i + ((v.l : Nat) : Int))))) ((s.c - 0) - (Int.toNat (IntKind.wrap .i64 (i + ((v.l : Nat) : Int))))))] w fun (b1 : Bool) w5 =>
  cond (!b1)
  ((0 ≤ IntKind.wrap .i64 (i + ((v.l : Nat) : Int)) ∧ IntKind.wrap .i64 (i + ((v.l : Nat) : Int)) ≤ ((((Int.toNat (IntKind.wrap .i64 (((s.l : Nat) : Int) + ((v.l : Nat) : Int)))) - 0) : Nat) : Int)) ∧
  (0 ≤ i ∧ i ≤ ((((Int.toNat (IntKind.wrap .i64 (((s.l : Nat) : Int) + ((v.l : Nat) : Int)))) - 0) : Nat) : Int)) ∧
  copyD Tryz.prog 88 88 ⟨(sliceAddr (sliceAddr s.b s.c 0 4) (s.c - 0) (Int.toNat (IntKind.wrap .i64 (i + ((v.l : Nat) : Int)))) 4), (((Int.toNat (IntKind.wrap .i64 (((s.l : Nat) : Int) + ((v.l : Nat) : Int)))) - 0) - (Int.toNat (IntKind.wrap .i64 (i + ((v.l : Nat) : Int))))), ((s.c - 0) - (Int.toNat (IntKind.wrap .i64 (i + ((v.l : Nat) : Int)))))⟩ (Value.slice (sliceAddr (sliceAddr s.b s.c 0 4) (s.c - 0) (Int.toNat i) 4) (((Int.toNat (IntKind.wrap .i64 (((s.l : Nat) : Int) + ((v.l : Nat) : Int)))) - 0) - (Int.toNat i)) ((s.c - 0) - (Int.toNat i))) w5.drew fun (_ : Int) w6 =>
  (0 ≤ i ∧ i ≤ ((((Int.toNat (IntKind.wrap .i64 (((s.l : Nat) : Int) + ((v.l : Nat) : Int)))) - 0) : Nat) : Int)) ∧
  copyD Tryz.prog 88 88 ⟨(sliceAddr (sliceAddr s.b s.c 0 4) (s.c - 0) (Int.toNat i) 4), (((Int.toNat (IntKind.wrap .i64 (((s.l : Nat) : Int) + ((v.l : Nat) : Int)))) - 0) - (Int.toNat i)), ((s.c - 0) - (Int.toNat i))⟩ (Value.slice v.b v.l v.c) w6 fun (_ : Int) w7 =>
  Q ⟨(sliceAddr s.b s.c 0 4), ((Int.toNat (IntKind.wrap .i64 (((s.l : Nat) : Int) + ((v.l : Nat) : Int)))) - 0), (s.c - 0)⟩ w7)
  ((0 ≤ ((s.l : Nat) : Int) ∧ ((s.l : Nat) : Int) ≤ ((((Int.toNat (IntKind.wrap .i64 (((s.l : Nat) : Int) + ((v.l : Nat) : Int)))) - 0) : Nat) : Int)) ∧
  copyD Tryz.prog 88 88 ⟨(sliceAddr (sliceAddr s.b s.c 0 4) (s.c - 0) (Int.toNat ((s.l : Nat) : Int)) 4), (((Int.toNat (IntKind.wrap .i64 (((s.l : Nat) : Int) + ((v.l : Nat) : Int)))) - 0) - (Int.toNat ((s.l : Nat) : Int))), ((s.c - 0) - (Int.toNat ((s.l : Nat) : Int)))⟩ (Value.slice v.b v.l v.c) w5 fun (_ : Int) w8 =>
  (0 ≤ i ∧ i ≤ ((((Int.toNat (IntKind.wrap .i64 (((s.l : Nat) : Int) + ((v.l : Nat) : Int)))) - 0) : Nat) : Int)) ∧
  F_slices_rotateRight_Arc ⟨(sliceAddr (sliceAddr s.b s.c 0 4) (s.c - 0) (Int.toNat i) 4), (((Int.toNat (IntKind.wrap .i64 (((s.l : Nat) : Int) + ((v.l : Nat) : Int)))) - 0) - (Int.toNat i)), ((s.c - 0) - (Int.toNat i))⟩ ((v.l : Nat) : Int) w8 fun w9 =>
  Q ⟨(sliceAddr s.b s.c 0 4), ((Int.toNat (IntKind.wrap .i64 (((s.l : Nat) : Int) + ((v.l : Nat) : Int)))) - 0), (s.c - 0)⟩ w9))))
def G_slices_Insert_sArc_Arc (t : KTs [.c .slice, .c (.int .i64), .c .slice]) (w : World) (K : Value → World → Prop) : Prop := F_slices_Insert_sArc_Arc t.1 t.2.1 t.2.2.1 w fun (r0 : Sl) w1 => K (Value.slice r0.b r0.l r0.c) w1
abbrev T_slices_Insert_sArc_Arc : Tr := fun args w K => decK [.c .slice, .c (.int .i64), .c .slice] args fun t => G_slices_Insert_sArc_Arc t w K
theorem S_slices_Insert_sArc_Arc : Sound Tryz.prog 130 T_slices_Insert_sArc_Arc := sound_of (fn := Tryz.f130) Tryz.func130 (by kernel_rfl) mixed (by kernel_rfl) (.s .n (.s .n (.s .n (.s .n (.s .n (.s .n (.s (.s .n (.c (.s .n (.s .n (.s (.r (.fl 0 (.fl 1 (.fl 2 (.fl 3 (.fl 4 (.fl 5 (.fl 6 (.fl 7 (.mn 8 .fin .no)))))))))) .n))) .n)) (.s .n (.s (.s .n (.c (.s (.r (.fl 0 (.fl 1 (.fl 2 (.fl 3 (.fl 4 (.fl 5 (.fl 6 (.fl 7 (.mn 8 .fin .no)))))))))) .n) .n)) .n))))))))) [(147, T_slices_rotateRight_Arc)] ⟨⟨by kernel_rfl, S_slices_rotateRight_Arc⟩, trivial⟩ [.c .slice, .c (.int .i64), .c .slice] (by kernel_rfl) G_slices_Insert_sArc_Arc fun t w K => by kernel_rfl

/-- milepost/net.laid -/
def F_net_laid (l : Sl) (i : Int) (ok : Bool) (a : Int × Int × Int × Int × Unit) (w : World) (Q : Sl → World → Prop) : Prop :=
  allocD w #[Value.int .i64 a.1, Value.int .i64 a.2.1, Value.int .i64 a.2.2.1, Value.int .i64 a.2.2.2.1] 91 fun a1 w1 =>
  cond (!ok)
  (ldN [.int .i64, .int .i64, .int .i64, .int .i64] w1 a1 fun (t1 : Int × Int × Int × Int × Unit) =>
  allocD w1 #[Value.int .i64 t1.1, Value.int .i64 t1.2.1, Value.int .i64 t1.2.2.1, Value.int .i64 t1.2.2.2.1] 91 fun a2 w2 =>
  F_slices_Insert_sArc_Arc l i ⟨(some a2), 1, 1⟩ w2 fun (s1 : Sl) w3 =>
  Q s1 w3)
  (ldN [.int .i64, .int .i64, .int .i64, .int .i64] w1 a1 fun (t2 : Int × Int × Int × Int × Unit) =>
  (0 ≤ i ∧ i < ((l.l : Nat) : Int)) ∧
  onSome l.b fun a3 =>
  storeD Tryz.prog 91 (a3.add (Int.toNat i * 4)) (Value.agg #[(Value.int .i64 t2.1), (Value.int .i64 t2.2.1), (Value.int .i64 t2.2.2.1), (Value.int .i64 t2.2.2.2.1)]) w1 fun w4 =>
  Q l w4)
def G_net_laid (t : KTs [.c .slice, .c (.int .i64), .c .bool, .agg [.int .i64, .int .i64, .int .i64, .int .i64]]) (w : World) (K : Value → World → Prop) : Prop := F_net_laid t.1 t.2.1 t.2.2.1 t.2.2.2.1 w fun (r0 : Sl) w1 => K (Value.slice r0.b r0.l r0.c) w1
abbrev T_net_laid : Tr := fun args w K => decK [.c .slice, .c (.int .i64), .c .bool, .agg [.int .i64, .int .i64, .int .i64, .int .i64]] args fun t => G_net_laid t w K
theorem S_net_laid : Sound Tryz.prog 102 T_net_laid := sound_of (fn := Tryz.f102) Tryz.func102 (by kernel_rfl) mixed (by kernel_rfl) (.n) [(130, T_slices_Insert_sArc_Arc)] ⟨⟨by kernel_rfl, S_slices_Insert_sArc_Arc⟩, trivial⟩ [.c .slice, .c (.int .i64), .c .bool, .agg [.int .i64, .int .i64, .int .i64, .int .i64]] (by kernel_rfl) G_net_laid fun t w K => by kernel_rfl

/-- milepost/net.byFrom -/
def F_net_byFrom (l : Sl) (from_ : Int) (w : World) (Q : Int → Bool → World → Prop) : Prop :=
  F_slices_BinarySearchFunc_sArc_Arc_int l from_ (Value.func (.func 131) #[] #[]) w fun (x1 : Int) (b1 : Bool) w1 =>
  Q x1 b1 w1
def G_net_byFrom (t : KTs [.c .slice, .c (.int .i64)]) (w : World) (K : Value → World → Prop) : Prop := F_net_byFrom t.1 t.2.1 w fun (r0 : Int) (r1 : Bool) w1 => K (Value.tuple #[(Value.int .i64 r0), (Value.bool r1)]) w1
abbrev T_net_byFrom : Tr := fun args w K => decK [.c .slice, .c (.int .i64)] args fun t => G_net_byFrom t w K
theorem S_net_byFrom : Sound Tryz.prog 103 T_net_byFrom := sound_of (fn := Tryz.f103) Tryz.func103 (by kernel_rfl) mixed (by kernel_rfl) (.n) [(128, T_slices_BinarySearchFunc_sArc_Arc_int)] ⟨⟨by kernel_rfl, S_slices_BinarySearchFunc_sArc_Arc_int⟩, trivial⟩ [.c .slice, .c (.int .i64)] (by kernel_rfl) G_net_byFrom fun t w K => by kernel_rfl

/-- (*milepost/net.Net).Put -/
def F_net_Net_Put (t : Option Addr) (a : Int × Int × Int × Int × Unit) (w : World) (Q : Bool → World → Prop) : Prop :=
  allocD w #[Value.int .i64 a.1, Value.int .i64 a.2.1, Value.int .i64 a.2.2.1, Value.int .i64 a.2.2.2.1] 91 fun a1 w1 =>
  cond (Option.isNone t)
  (Q false w1)
  (ldN [.int .i64, .int .i64, .int .i64, .int .i64] w1 a1 fun (t1 : Int × Int × Int × Int × Unit) =>
  F_net_Net_may t (t1.1, t1.2.1, t1.2.2.1, t1.2.2.2.1, ()) w1 fun (b1 : Bool) w2 =>
  cond (!b1)
  (Q false w2)
  (onSome t fun a2 =>
  ld1 .slice w2.drew (a2.add 0) fun (s1 : Sl) =>
  ld1 (.int .i64) w2.drew (a1.add 0) fun (x1 : Int) =>
  (0 ≤ x1 ∧ x1 < ((s1.l : Nat) : Int)) ∧
  onSome s1.b fun a3 =>
  ld1 .slice w2.drew (a3.add (Int.toNat x1 * 1)) fun (s2 : Sl) =>
  ld1 (.int .i64) w2.drew (a1.add 1) fun (x2 : Int) =>
  F_net_byTo s2 x2 w2.drew fun (x3 : Int) (b2 : Bool) w3 =>
  ∀ J1 : (Unit) → World → Prop, (∀ (t2 : Unit) (w4 : World), (
  onSome t fun a4 =>
  ld1 .slice w4.drew (a4.add 0) fun (s3 : Sl) =>
  ld1 (.int .i64) w4.drew (a1.add 0) fun (x4 : Int) =>
  onSome t fun a5 =>
  ld1 .slice w4.drew (a5.add 0) fun (s4 : Sl) =>
  ld1 (.int .i64) w4.drew (a1.add 0) fun (x5 : Int) =>
  (0 ≤ x5 ∧ x5 < ((s4.l : Nat) : Int)) ∧
  onSome s4.b fun a6 =>
  ld1 .slice w4.drew (a6.add (Int.toNat x5 * 1)) fun (s5 : Sl) =>
  ldN [.int .i64, .int .i64, .int .i64, .int .i64] w4.drew a1 fun (t3 : Int × Int × Int × Int × Unit) =>
  F_net_laid s5 x3 b2 (t3.1, t3.2.1, t3.2.2.1, t3.2.2.2.1, ()) w4.drew fun (s6 : Sl) w5 =>
  w5.cell? (a1.add 0) = some (Value.int .i64 x4) ∧
  w5.cell? (a4.add 0) = some (Value.slice s3.b s3.l s3.c) ∧
  (0 ≤ x4 ∧ x4 < ((s3.l : Nat) : Int)) ∧
  onSome s3.b fun a7 =>
  storeD Tryz.prog 88 (a7.add (Int.toNat x4 * 1)) (Value.slice s6.b s6.l s6.c) w5 fun w6 =>
  onSome t fun a8 =>
  ld1 .slice w6.drew (a8.add 1) fun (s7 : Sl) =>
  ld1 (.int .i64) w6.drew (a1.add 1) fun (x6 : Int) =>
  (0 ≤ x6 ∧ x6 < ((s7.l : Nat) : Int)) ∧
  onSome s7.b fun a9 =>
  ld1 .slice w6.drew (a9.add (Int.toNat x6 * 1)) fun (s8 : Sl) =>
  ld1 (.int .i64) w6.drew (a1.add 0) fun (x7 : Int) =>
  F_net_byFrom s8 x7 w6.drew fun (x8 : Int) (_ : Bool) w7 =>
  onSome t fun a10 =>
  ld1 .slice w7.drew (a10.add 1) fun (s9 : Sl) =>
  ld1 (.int .i64) w7.drew (a1.add 1) fun (x9 : Int) =>
  onSome t fun a11 =>
  ld1 .slice w7.drew (a11.add 1) fun (s10 : Sl) =>
  ld1 (.int .i64) w7.drew (a1.add 1) fun (x10 : Int) =>
  (0 ≤ x10 ∧ x10 < ((s10.l : Nat) : Int)) ∧
  onSome s10.b fun a12 =>
  ld1 .slice w7.drew (a12.add (Int.toNat x10 * 1)) fun (s11 : Sl) =>
  ldN [.int .i64, .int .i64, .int .i64, .int .i64] w7.drew a1 fun (t4 : Int × Int × Int × Int × Unit) =>
  F_net_laid s11 x8 b2 (t4.1, t4.2.1, t4.2.2.1, t4.2.2.2.1, ()) w7.drew fun (s12 : Sl) w8 =>
  w8.cell? (a1.add 1) = some (Value.int .i64 x9) ∧
  w8.cell? (a10.add 1) = some (Value.slice s9.b s9.l s9.c) ∧
  (0 ≤ x9 ∧ x9 < ((s9.l : Nat) : Int)) ∧
  onSome s9.b fun a13 =>
  storeD Tryz.prog 88 (a13.add (Int.toNat x9 * 1)) (Value.slice s12.b s12.l s12.c) w8 fun w9 =>
  Q true w9) → J1 t2 w4) →
  cond b2
  (onSome t fun a14 =>
  ld1 .slice w3.drew (a14.add 0) fun (s13 : Sl) =>
  ld1 (.int .i64) w3.drew (a1.add 0) fun (x11 : Int) =>
  (0 ≤ x11 ∧ x11 < ((s13.l : Nat) : Int)) ∧
  onSome s13.b fun a15 =>
  ld1 .slice w3.drew (a15.add (Int.toNat x11 * 1)) fun (s14 : Sl) =>
  (0 ≤ x3 ∧ x3 < ((s14.l : Nat) : Int)) ∧
  onSome s14.b fun a16 =>
  ld1 (.int .i64) w3.drew ((a16.add (Int.toNat x3 * 4)).add 2) fun (x12 : Int) =>
  ld1 (.int .i64) w3.drew (a1.add 2) fun (x13 : Int) =>
  cond (decide (x12 ≤ x13))
  (Q false w3.drew)
  (J1 (()) w3.drew))
  (J1 (()) w3.drew)))
def G_net_Net_Put (t : KTs [.c .ptr, .agg [.int .i64, .int .i64, .int .i64, .int .i64]]) (w : World) (K : Value → World → Prop) : Prop := F_net_Net_Put t.1 t.2.1 w fun (r0 : Bool) w1 => K (Value.bool r0) w1
abbrev T_net_Net_Put : Tr := fun args w K => decK [.c .ptr, .agg [.int .i64, .int .i64, .int .i64, .int .i64]] args fun t => G_net_Net_Put t w K
theorem S_net_Net_Put : Sound Tryz.prog 78 T_net_Net_Put := sound_of (fn := Tryz.f78) Tryz.func78 (by kernel_rfl) mixed (by kernel_rfl) (.s .n (.s .n (.s (.r (.fl 0 (.fl 1 (.fl 2 (.fl 3 (.fl 4 (.fl 5 (.fl 6 (.fl 7 (.fl 8 (.fl 9 (.mn 10 (.fl 11 (.fl 12 (.fl 13 (.fl 14 (.fl 15 .fin))))) .no)))))))))))) (.j [] [4, 31, 32, 33, 34, 35, 36, 37, 38, 39, 40, 41, 42, 43, 44, 45, 46, 47, 48] (.s (.r (.fl 0 (.fl 1 (.fl 2 (.fl 3 (.fl 4 (.fl 5 (.fl 6 (.fl 7 (.fl 8 (.fl 9 (.fl 10 (.fl 11 (.fl 12 (.fl 13 (.fl 14 (.fl 15 (.fl 16 (.fl 17 .fin))))))))))))))))))) .n) (.s (.r (.fl 0 (.fl 1 (.fl 2 (.fl 3 (.fl 4 (.fl 5 (.fl 6 (.fl 7 (.fl 8 (.fl 9 (.fl 10 (.fl 11 (.fl 12 (.fl 13 (.fl 14 (.fl 15 (.fl 16 (.mn 17 (.fl 18 (.mn 19 .fin .no)) .no))))))))))))))))))) (.s (.r (.fl 0 (.fl 1 (.fl 2 (.fl 3 (.fl 4 (.fl 5 (.fl 6 (.fl 7 (.fl 8 (.fl 9 (.mn 10 (.fl 11 (.fl 12 (.fl 13 (.fl 14 (.fl 15 .fin))))) .no)))))))))))) (.s (.r (.fl 0 (.fl 1 (.fl 2 (.fl 3 (.fl 4 (.fl 5 (.fl 6 (.fl 7 (.fl 8 (.fl 9 (.fl 10 (.fl 11 (.fl 12 (.fl 13 (.fl 14 (.fl 15 (.fl 16 (.mn 17 (.fl 18 (.mn 19 .fin .no)) .no))))))))))))))))))) .n))))))) [(77, T_net_Net_may), (101, T_net_byTo), (102, T_net_laid), (103, T_net_byFrom)] ⟨⟨by kernel_rfl, S_net_Net_may⟩, ⟨by kernel_rfl, S_net_byTo⟩, ⟨by kernel_rfl, S_net_laid⟩, ⟨by kernel_rfl, S_net_byFrom⟩, trivial⟩ [.c .ptr, .agg [.int .i64, .int .i64, .int .i64, .int .i64]] (by kernel_rfl) G_net_Net_Put fun t w K => by kernel_rfl

/-- milepost/net.New -/
def F_net_New (n : Int) (arcs : Sl) (w : World) (Q : (Option Addr) → Int → World → Prop) : Prop :=
  cond (decide (n < (0 : Int)))
  (Q none (1 : Int) w)
  (cond (decide (n > (512 : Int)))
  (Q none (1 : Int) w)
  (∀ J1 : ((Option Addr) × Unit) → World → Prop, (∀ (t1 : (Option Addr) × Unit) (w1 : World), (
  ∀ X1 : (Int × Unit) → World → Prop, (∀ (t2 : Int × Unit) (w2 : World), (
  cond (decide (t2.1 < ((arcs.l : Nat) : Int)))
  ((0 ≤ t2.1 ∧ t2.1 < ((arcs.l : Nat) : Int)) ∧
  onSome arcs.b fun a1 =>
  ldN [.int .i64, .int .i64, .int .i64, .int .i64] w2 (a1.add (Int.toNat t2.1 * 4)) fun (t3 : Int × Int × Int × Int × Unit) =>
  allocD w2 #[Value.int .i64 (0 : Int), Value.int .i64 (0 : Int), Value.int .i64 (0 : Int), Value.int .i64 (0 : Int)] 91 fun a2 w3 =>
  storeD Tryz.prog 91 a2 (Value.agg #[(Value.int .i64 t3.1), (Value.int .i64 t3.2.1), (Value.int .i64 t3.2.2.1), (Value.int .i64 t3.2.2.2.1)]) w3 fun w4 =>
  ldN [.int .i64, .int .i64, .int .i64, .int .i64] w4 a2 fun (t4 : Int × Int × Int × Int × Unit) =>
  F_net_Net_may t1.1 (t4.1, t4.2.1, t4.2.2.1, t4.2.2.2.1, ()) w4 fun (b1 : Bool) w5 =>
  cond (!b1)
  (Q none (1 : Int) w5)
  (ldN [.int .i64, .int .i64, .int .i64, .int .i64] w5 a2 fun (t5 : Int × Int × Int × Int × Unit) =>
  F_net_Net_Put t1.1 (t5.1, t5.2.1, t5.2.2.1, t5.2.2.2.1, ()) w5 fun (_ : Bool) w6 =>
  X1 ((IntKind.wrap .i64 (t2.1 + (1 : Int))), ()) w6))
  (Q t1.1 (0 : Int) w2)) → X1 t2 w2) →
  X1 ((0 : Int), ()) w1) → J1 t1 w1) →
  (makeSliceD Tryz.prog 145 (Value.int .i64 n) (Value.int .i64 n) w.drew fun (s1 : Sl) w7 =>
  makeSliceD Tryz.prog 145 (Value.int .i64 n) (Value.int .i64 n) w7 fun (s2 : Sl) w8 =>
  allocD w8 #[Value.slice s1.b s1.l s1.c, Value.slice s2.b s2.l s2.c] 147 fun a3 w9 =>
  J1 ((some a3), ()) w9) ∧
  (makeSliceD Tryz.prog 145 (Value.int .i64 n) (Value.int .i64 n) w.drew fun (s3 : Sl) w10 =>
  makeSliceD Tryz.prog 145 (Value.int .i64 n) (Value.int .i64 n) w10 fun (s4 : Sl) w11 =>
  allocD w11 #[Value.slice s4.b s4.l s4.c, Value.slice s3.b s3.l s3.c] 147 fun a4 w12 =>
  J1 ((some a4), ()) w12)))
def G_net_New (t : KTs [.c (.int .i64), .c .slice]) (w : World) (K : Value → World → Prop) : Prop := F_net_New t.1 t.2.1 w fun (r0 : Option Addr) (r1 : Int) w1 => K (Value.tuple #[(Value.pointer r0), (Value.int .i64 r1)]) w1
abbrev T_net_New : Tr := fun args w K => decK [.c (.int .i64), .c .slice] args fun t => G_net_New t w K
theorem S_net_New : Sound Tryz.prog 55 T_net_New := sound_of (fn := Tryz.f55) Tryz.func55 (by kernel_rfl) mixed (by kernel_rfl) (.s .n (.s .n (.j [(6, .c .ptr)] [6, 15, 16, 17, 18, 19, 20] (.r (.fl 0 (.fl 2 (.mn 1 (.mn 3 (.fl 4 (.mn 5 (.fl 6 .fin) .no)) .no) (.mn 3 (.mn 1 (.fl 4 (.mn 5 (.fl 6 .fin) .no)) .no) .no))))) (.s (.s .n (.b (.l [(23, .c (.int .i64))] [4, 5, 8, 23, 24, 25, 26, 27, 28, 29, 30, 31, 32, 33, 34] .n))) .n)))) [(77, T_net_Net_may), (78, T_net_Net_Put)] ⟨⟨by kernel_rfl, S_net_Net_may⟩, ⟨by kernel_rfl, S_net_Net_Put⟩, trivial⟩ [.c (.int .i64), .c .slice] (by kernel_rfl) G_net_New fun t w K => by kernel_rfl

/-- slices.IndexFunc[[]milepost/api.Arc,milepost/api.Arc] -/
def F_slices_IndexFunc_sArc_Arc (s : Sl) (f : Value) (w : World) (Q : Int → World → Prop) : Prop :=
  ∀ X1 : (Int × Unit) → World → Prop, (∀ (t1 : Int × Unit) (w1 : World), (
  cond (decide (t1.1 < ((s.l : Nat) : Int)))
  ((0 ≤ t1.1 ∧ t1.1 < ((s.l : Nat) : Int)) ∧
  onSome s.b fun a1 =>
  ldN [.int .i64, .int .i64, .int .i64, .int .i64] w1 (a1.add (Int.toNat t1.1 * 4)) fun (t2 : Int × Int × Int × Int × Unit) =>
  callV Tryz.prog f [(Value.agg #[(Value.int .i64 t2.1), (Value.int .i64 t2.2.1), (Value.int .i64 t2.2.2.1), (Value.int .i64 t2.2.2.2.1)])] w1 fun v1 w2 =>
  ∃ b1 : Bool, v1 = (Value.bool b1) ∧
  cond b1
  (Q t1.1 w2)
  (X1 ((IntKind.wrap .i64 (t1.1 + (1 : Int))), ()) w2))
  (Q (-1 : Int) w1)) → X1 t1 w1) →
  X1 ((0 : Int), ()) w
def G_slices_IndexFunc_sArc_Arc (t : KTs [.c .slice, .c .any]) (w : World) (K : Value → World → Prop) : Prop := F_slices_IndexFunc_sArc_Arc t.1 t.2.1 w fun (r0 : Int) w1 => K (Value.int .i64 r0) w1
abbrev T_slices_IndexFunc_sArc_Arc : Tr := fun args w K => decK [.c .slice, .c .any] args fun t => G_slices_IndexFunc_sArc_Arc t w K
theorem S_slices_IndexFunc_sArc_Arc : Sound Tryz.prog 79 T_slices_IndexFunc_sArc_Arc := sound_of (fn := Tryz.f79) Tryz.func79 (by kernel_rfl) mixed (by kernel_rfl) (.s .n (.s (.s .n (.b (.l [(8, .c (.int .i64))] [4, 5, 8, 9, 10, 11, 12, 13, 14, 15, 16, 17, 18] .n))) .n)) [] trivial [.c .slice, .c .any] (by kernel_rfl) G_slices_IndexFunc_sArc_Arc fun t w K => by kernel_rfl

/-- slices.DeleteFunc[[]milepost/api.Arc,milepost/api.Arc] -/
def F_slices_DeleteFunc_sArc_Arc (s : Sl) (del : Value) (w : World) (Q : Sl → World → Prop) : Prop :=
  F_slices_IndexFunc_sArc_Arc s del w fun (x1 : Int) w1 =>
  cond (x1 == (-1 : Int))
  (Q s w1)
  (∀ X1 : (Int × Int × Unit) → World → Prop, (∀ (t1 : Int × Int × Unit) (w2 : World), (
  cond (decide (t1.2.1 < ((s.l : Nat) : Int)))
  ((0 ≤ t1.2.1 ∧ t1.2.1 < ((s.l : Nat) : Int)) ∧
  onSome s.b fun a1 =>
  ldN [.int .i64, .int .i64, .int .i64, .int .i64] w2 (a1.add (Int.toNat t1.2.1 * 4)) fun (t2 : Int × Int × Int × Int × Unit) =>
  allocD w2 #[Value.int .i64 (0 : Int), Value.int .i64 (0 : Int), Value.int .i64 (0 : Int), Value.int .i64 (0 : Int)] 91 fun a2 w3 =>
  storeD Tryz.prog 91 a2 (Value.agg #[(Value.int .i64 t2.1), (Value.int .i64 t2.2.1), (Value.int .i64 t2.2.2.1), (Value.int .i64 t2.2.2.2.1)]) w3 fun w4 =>
  ldN [.int .i64, .int .i64, .int .i64, .int .i64] w4 a2 fun (t3 : Int × Int × Int × Int × Unit) =>
  callV Tryz.prog del [(Value.agg #[(Value.int .i64 t3.1), (Value.int .i64 t3.2.1), (Value.int .i64 t3.2.2.1), (Value.int .i64 t3.2.2.2.1)])] w4 fun v1 w5 =>
  ∃ b1 : Bool, v1 = (Value.bool b1) ∧
  cond (!b1)
  (ldN [.int .i64, .int .i64, .int .i64, .int .i64] w5 a2 fun (t4 : Int × Int × Int × Int × Unit) =>
  (0 ≤ t1.1 ∧ t1.1 < ((s.l : Nat) : Int)) ∧
  onSome s.b fun a3 =>
  storeD Tryz.prog 91 (a3.add (Int.toNat t1.1 * 4)) (Value.agg #[(Value.int .i64 t4.1), (Value.int .i64 t4.2.1), (Value.int .i64 t4.2.2.1), (Value.int .i64 t4.2.2.2.1)]) w5 fun w6 =>
  X1 ((IntKind.wrap .i64 (t1.1 + (1 : Int))), (IntKind.wrap .i64 (t1.2.1 + (1 : Int))), ()) w6)
  (X1 (t1.1, (IntKind.wrap .i64 (t1.2.1 + (1 : Int))), ()) w5))
  ((0 ≤ t1.1 ∧ t1.1 ≤ ((s.l : Nat) : Int)) ∧
  clearD Tryz.prog 88 (Value.slice (sliceAddr s.b s.c (Int.toNat t1.1) 4) (s.l - (Int.toNat t1.1)) (s.c - (Int.toNat t1.1))) w2 fun w7 =>
  (0 ≤ t1.1 ∧ t1.1 ≤ ((s.c : Nat) : Int)) ∧
  Q ⟨(sliceAddr s.b s.c 0 4), ((Int.toNat t1.1) - 0), (s.c - 0)⟩ w7)) → X1 t1 w2) →
  X1 (x1, (IntKind.wrap .i64 (x1 + (1 : Int))), ()) w1)
def G_slices_DeleteFunc_sArc_Arc (t : KTs [.c .slice, .c .any]) (w : World) (K : Value → World → Prop) : Prop := F_slices_DeleteFunc_sArc_Arc t.1 t.2.1 w fun (r0 : Sl) w1 => K (Value.slice r0.b r0.l r0.c) w1
abbrev T_slices_DeleteFunc_sArc_Arc : Tr := fun args w K => decK [.c .slice, .c .any] args fun t => G_slices_DeleteFunc_sArc_Arc t w K
theorem S_slices_DeleteFunc_sArc_Arc : Sound Tryz.prog 56 T_slices_DeleteFunc_sArc_Arc := sound_of (fn := Tryz.f56) Tryz.func56 (by kernel_rfl) mixed (by kernel_rfl) (.s .n (.s .n (.s .n (.s (.s .n (.b (.l [(5, .c (.int .i64)), (6, .c (.int .i64))] [5, 6, 7, 16, 17, 18, 19, 20, 21, 22, 23, 24, 25, 26, 27, 28, 29, 30, 31, 32, 33, 34, 35] .n))) .n)))) [(79, T_slices_IndexFunc_sArc_Arc)] ⟨⟨by kernel_rfl, S_slices_IndexFunc_sArc_Arc⟩, trivial⟩ [.c .slice, .c .any] (by kernel_rfl) G_slices_DeleteFunc_sArc_Arc fun t w K => by kernel_rfl

/-- (*milepost/net.Net).Len -/
def F_net_Net_Len (t : Option Addr) (w : World) (Q : Int → World → Prop) : Prop :=
  cond (Option.isNone t)
  (Q (0 : Int) w)
  (onSome t fun a1 =>
  ld1 .slice w (a1.add 0) fun (s1 : Sl) =>
  Q ((s1.l : Nat) : Int) w)
def G_net_Net_Len (t : KTs [.c .ptr]) (w : World) (K : Value → World → Prop) : Prop := F_net_Net_Len t.1 w fun (r0 : Int) w1 => K (Value.int .i64 r0) w1
abbrev T_net_Net_Len : Tr := fun args w K => decK [.c .ptr] args fun t => G_net_Net_Len t w K
theorem S_net_Net_Len : Sound Tryz.prog 81 T_net_Net_Len := sound_of (fn := Tryz.f81) Tryz.func81 (by kernel_rfl) mixed (by kernel_rfl) (.n) [] trivial [.c .ptr] (by kernel_rfl) G_net_Net_Len fun t w K => by kernel_rfl

/-- (*milepost/net.Net).All -/
def F_net_Net_All (t : Option Addr) (w : World) (Q : Sl → World → Prop) : Prop :=
  F_net_Net_Len t w fun (x1 : Int) w1 =>
  ∀ X1 : (Sl × Int × Unit) → World → Prop, (∀ (t1 : Sl × Int × Unit) (w2 : World), (
  cond (decide (t1.2.1 < x1))
  (onSome t fun a1 =>
  ld1 .slice w2 (a1.add 0) fun (s1 : Sl) =>
  (0 ≤ t1.2.1 ∧ t1.2.1 < ((s1.l : Nat) : Int)) ∧
  onSome s1.b fun a2 =>
  ld1 .slice w2 (a2.add (Int.toNat t1.2.1 * 1)) fun (s2 : Sl) =>
  appendD Tryz.prog 88 88 t1.1 (Value.slice s2.b s2.l s2.c) w2 fun (s3 : Sl) w3 =>
  X1 (s3, (IntKind.wrap .i64 (t1.2.1 + (1 : Int))), ()) w3)
  (Q t1.1 w2)) → X1 t1 w2) →
  X1 (⟨none, 0, 0⟩, (0 : Int), ()) w1
def G_net_Net_All (t : KTs [.c .ptr]) (w : World) (K : Value → World → Prop) : Prop := F_net_Net_All t.1 w fun (r0 : Sl) w1 => K (Value.slice r0.b r0.l r0.c) w1
abbrev T_net_Net_All : Tr := fun args w K => decK [.c .ptr] args fun t => G_net_Net_All t w K
theorem S_net_Net_All : Sound Tryz.prog 104 T_net_Net_All := sound_of (fn := Tryz.f104) Tryz.func104 (by kernel_rfl) mixed (by kernel_rfl) (.s .n (.s (.s .n (.b (.l [(2, .c .slice), (6, .c (.int .i64))] [2, 3, 6, 7, 8, 9, 10, 11, 12, 13, 14, 15, 16, 17, 18] .n))) .n)) [(81, T_net_Net_Len)] ⟨⟨by kernel_rfl, S_net_Net_Len⟩, trivial⟩ [.c .ptr] (by kernel_rfl) G_net_Net_All fun t w K => by kernel_rfl

/-- (*milepost/net.Net).Copy -/
def F_net_Net_Copy (t : Option Addr) (w : World) (Q : (Option Addr) → World → Prop) : Prop :=
  cond (Option.isNone t)
  (Q none w)
  (F_net_Net_Len t w fun (x1 : Int) w1 =>
  F_net_Net_All t w1 fun (s1 : Sl) w2 =>
  F_net_New x1 s1 w2 fun (p1 : Option Addr) (_ : Int) w3 =>
  Q p1 w3)
def G_net_Net_Copy (t : KTs [.c .ptr]) (w : World) (K : Value → World → Prop) : Prop := F_net_Net_Copy t.1 w fun (r0 : Option Addr) w1 => K (Value.pointer r0) w1
abbrev T_net_Net_Copy : Tr := fun args w K => decK [.c .ptr] args fun t => G_net_Net_Copy t w K
theorem S_net_Net_Copy : Sound Tryz.prog 80 T_net_Net_Copy := sound_of (fn := Tryz.f80) Tryz.func80 (by kernel_rfl) mixed (by kernel_rfl) (.n) [(55, T_net_New), (81, T_net_Net_Len), (104, T_net_Net_All)] ⟨⟨by kernel_rfl, S_net_New⟩, ⟨by kernel_rfl, S_net_Net_Len⟩, ⟨by kernel_rfl, S_net_Net_All⟩, trivial⟩ [.c .ptr] (by kernel_rfl) G_net_Net_Copy fun t w K => by kernel_rfl

/-- (*milepost/net.Net).has -/
def F_net_Net_has (t : Option Addr) (v : Int) (w : World) (Q : Bool → World → Prop) : Prop :=
  cond (decide (v ≥ (0 : Int)))
  (F_net_Net_Len t w fun (x1 : Int) w1 =>
  Q (decide (v < x1)) w1)
  (Q false w)
def G_net_Net_has (t : KTs [.c .ptr, .c (.int .i64)]) (w : World) (K : Value → World → Prop) : Prop := F_net_Net_has t.1 t.2.1 w fun (r0 : Bool) w1 => K (Value.bool r0) w1
abbrev T_net_Net_has : Tr := fun args w K => decK [.c .ptr, .c (.int .i64)] args fun t => G_net_Net_has t w K
theorem S_net_Net_has : Sound Tryz.prog 110 T_net_Net_has := sound_of (fn := Tryz.f110) Tryz.func110 (by kernel_rfl) mixed (by kernel_rfl) (.n) [(81, T_net_Net_Len)] ⟨⟨by kernel_rfl, S_net_Net_Len⟩, trivial⟩ [.c .ptr, .c (.int .i64)] (by kernel_rfl) G_net_Net_has fun t w K => by kernel_rfl

/-- slices.Clone[[]milepost/api.Arc,milepost/api.Arc] -/
def F_slices_Clone_sArc_Arc (s : Sl) (w : World) (Q : Sl → World → Prop) : Prop :=
  cond (Option.isNone s.b)
  (Q ⟨none, 0, 0⟩ w)
  (allocD w #[] 91 fun a1 w1 =>
  appendD Tryz.prog 88 88 ⟨(some a1), 0, 0⟩ (Value.slice s.b s.l s.c) w1 fun (s1 : Sl) w2 =>
  Q s1 w2)
def G_slices_Clone_sArc_Arc (t : KTs [.c .slice]) (w : World) (K : Value → World → Prop) : Prop := F_slices_Clone_sArc_Arc t.1 w fun (r0 : Sl) w1 => K (Value.slice r0.b r0.l r0.c) w1
abbrev T_slices_Clone_sArc_Arc : Tr := fun args w K => decK [.c .slice] args fun t => G_slices_Clone_sArc_Arc t w K
theorem S_slices_Clone_sArc_Arc : Sound Tryz.prog 132 T_slices_Clone_sArc_Arc := sound_of (fn := Tryz.f132) Tryz.func132 (by kernel_rfl) mixed (by kernel_rfl) (.n) [] trivial [.c .slice] (by kernel_rfl) G_slices_Clone_sArc_Arc fun t w K => by kernel_rfl

/-- (*milepost/net.Net).Out -/
def F_net_Net_Out (t : Option Addr) (v : Int) (w : World) (Q : Sl → World → Prop) : Prop :=
  F_net_Net_has t v w fun (b1 : Bool) w1 =>
  cond (!b1)
  (Q ⟨none, 0, 0⟩ w1)
  (onSome t fun a1 =>
  ld1 .slice w1 (a1.add 0) fun (s1 : Sl) =>
  (0 ≤ v ∧ v < ((s1.l : Nat) : Int)) ∧
  onSome s1.b fun a2 =>
  ld1 .slice w1 (a2.add (Int.toNat v * 1)) fun (s2 : Sl) =>
  F_slices_Clone_sArc_Arc s2 w1 fun (s3 : Sl) w2 =>
  Q s3 w2)
def G_net_Net_Out (t : KTs [.c .ptr, .c (.int .i64)]) (w : World) (K : Value → World → Prop) : Prop := F_net_Net_Out t.1 t.2.1 w fun (r0 : Sl) w1 => K (Value.slice r0.b r0.l r0.c) w1
abbrev T_net_Net_Out : Tr := fun args w K => decK [.c .ptr, .c (.int .i64)] args fun t => G_net_Net_Out t w K
theorem S_net_Net_Out : Sound Tryz.prog 106 T_net_Net_Out := sound_of (fn := Tryz.f106) Tryz.func106 (by kernel_rfl) mixed (by kernel_rfl) (.n) [(110, T_net_Net_has), (132, T_slices_Clone_sArc_Arc)] ⟨⟨by kernel_rfl, S_net_Net_has⟩, ⟨by kernel_rfl, S_slices_Clone_sArc_Arc⟩, trivial⟩ [.c .ptr, .c (.int .i64)] (by kernel_rfl) G_net_Net_Out fun t w K => by kernel_rfl

/-- (*milepost/net.Net).In -/
def F_net_Net_In (t : Option Addr) (v : Int) (w : World) (Q : Sl → World → Prop) : Prop :=
  F_net_Net_has t v w fun (b1 : Bool) w1 =>
  cond (!b1)
  (Q ⟨none, 0, 0⟩ w1)
  (onSome t fun a1 =>
  ld1 .slice w1 (a1.add 1) fun (s1 : Sl) =>
  (0 ≤ v ∧ v < ((s1.l : Nat) : Int)) ∧
  onSome s1.b fun a2 =>
  ld1 .slice w1 (a2.add (Int.toNat v * 1)) fun (s2 : Sl) =>
  F_slices_Clone_sArc_Arc s2 w1 fun (s3 : Sl) w2 =>
  Q s3 w2)
def G_net_Net_In (t : KTs [.c .ptr, .c (.int .i64)]) (w : World) (K : Value → World → Prop) : Prop := F_net_Net_In t.1 t.2.1 w fun (r0 : Sl) w1 => K (Value.slice r0.b r0.l r0.c) w1
abbrev T_net_Net_In : Tr := fun args w K => decK [.c .ptr, .c (.int .i64)] args fun t => G_net_Net_In t w K
theorem S_net_Net_In : Sound Tryz.prog 107 T_net_Net_In := sound_of (fn := Tryz.f107) Tryz.func107 (by kernel_rfl) mixed (by kernel_rfl) (.n) [(110, T_net_Net_has), (132, T_slices_Clone_sArc_Arc)] ⟨⟨by kernel_rfl, S_net_Net_has⟩, ⟨by kernel_rfl, S_slices_Clone_sArc_Arc⟩, trivial⟩ [.c .ptr, .c (.int .i64)] (by kernel_rfl) G_net_Net_In fun t w K => by kernel_rfl

/-- slices.Delete[[]milepost/api.Arc,milepost/api.Arc] -/
def F_slices_Delete_sArc_Arc (s : Sl) (i : Int) (j : Int) (w : World) (Q : Sl → World → Prop) : Prop :=
  (0 ≤ ((s.l : Nat) : Int) ∧ ((s.l : Nat) : Int) ≤ ((s.c : Nat) : Int)) ∧
  (0 ≤ j ∧ j ≤ (((Int.toNat ((s.l : Nat) : Int)) : Nat) : Int)) ∧
  (0 ≤ i ∧ i ≤ (((Int.toNat j) : Nat) : Int)) ∧
  cond (i == j)
  (Q s w)
  ((0 ≤ i ∧ i ≤ ((s.c : Nat) : Int)) ∧
  (0 ≤ j ∧ j ≤ ((s.l : Nat) : Int)) ∧
  appendD Tryz.prog 88 88 ⟨(sliceAddr s.b s.c 0 4), ((Int.toNat i) - 0), (s.c - 0)⟩ (Value.slice (sliceAddr s.b s.c (Int.toNat j) 4) (s.l - (Int.toNat j)) (s.c - (Int.toNat j))) w.drew fun (s1 : Sl) w1 =>
  (0 ≤ ((s.l : Nat) : Int) ∧ ((s.l : Nat) : Int) ≤ ((s1.c : Nat) : Int)) ∧
  (0 ≤ ((s1.l : Nat) : Int) ∧ ((s1.l : Nat) : Int) ≤ (((Int.toNat ((s.l : Nat) : Int)) : Nat) : Int)) ∧
  clearD Tryz.prog 88 (Value.slice (sliceAddr s1.b s1.c (Int.toNat ((s1.l : Nat) : Int)) 4) ((Int.toNat ((s.l : Nat) : Int)) - (Int.toNat ((s1.l : Nat) : Int))) (s1.c - (Int.toNat ((s1.l : Nat) : Int)))) w1 fun w2 =>
  Q s1 w2)
def G_slices_Delete_sArc_Arc (t : KTs [.c .slice, .c (.int .i64), .c (.int .i64)]) (w : World) (K : Value → World → Prop) : Prop := F_slices_Delete_sArc_Arc t.1 t.2.1 t.2.2.1 w fun (r0 : Sl) w1 => K (Value.slice r0.b r0.l r0.c) w1
abbrev T_slices_Delete_sArc_Arc : Tr := fun args w K => decK [.c .slice, .c (.int .i64), .c (.int .i64)] args fun t => G_slices_Delete_sArc_Arc t w K
theorem S_slices_Delete_sArc_Arc : Sound Tryz.prog 109 T_slices_Delete_sArc_Arc := sound_of (fn := Tryz.f109) Tryz.func109 (by kernel_rfl) mixed (by kernel_rfl) (.s .n (.s .n (.s .n (.s .n (.s (.r (.fl 0 (.fl 1 (.fl 2 (.fl 3 (.fl 4 (.fl 5 (.mn 6 (.fl 7 .fin) .no)))))))) .n))))) [] trivial [.c .slice, .c (.int .i64), .c (.int .i64)] (by kernel_rfl) G_slices_Delete_sArc_Arc fun t w K => by kernel_rfl

/-- (*milepost/net.Net).Cut -/
def F_net_Net_Cut (t : Option Addr) (v : Int) (w : World) (Q : World → Prop) : Prop :=
  F_net_Net_Out t v w fun (s1 : Sl) w1 =>
  ∀ X1 : (Int × Unit) → World → Prop, (∀ (t1 : Int × Unit) (w2 : World), (
  cond (decide (t1.1 < ((s1.l : Nat) : Int)))
  ((0 ≤ t1.1 ∧ t1.1 < ((s1.l : Nat) : Int)) ∧
  onSome s1.b fun a1 =>
  ldN [.int .i64, .int .i64, .int .i64, .int .i64] w2 (a1.add (Int.toNat t1.1 * 4)) fun (t2 : Int × Int × Int × Int × Unit) =>
  allocD w2 #[Value.int .i64 (0 : Int), Value.int .i64 (0 : Int), Value.int .i64 (0 : Int), Value.int .i64 (0 : Int)] 91 fun a2 w3 =>
  storeD Tryz.prog 91 a2 (Value.agg #[(Value.int .i64 t2.1), (Value.int .i64 t2.2.1), (Value.int .i64 t2.2.2.1), (Value.int .i64 t2.2.2.2.1)]) w3 fun w4 =>
  onSome t fun a3 =>
  ld1 .slice w4.drew (a3.add 1) fun (s2 : Sl) =>
  ld1 (.int .i64) w4.drew (a2.add 1) fun (x1 : Int) =>
  (0 ≤ x1 ∧ x1 < ((s2.l : Nat) : Int)) ∧
  onSome s2.b fun a4 =>
  ld1 .slice w4.drew (a4.add (Int.toNat x1 * 1)) fun (s3 : Sl) =>
  F_net_byFrom s3 v w4.drew fun (x2 : Int) (_ : Bool) w5 =>
  onSome t fun a5 =>
  ld1 .slice w5.drew (a5.add 1) fun (s4 : Sl) =>
  ld1 (.int .i64) w5.drew (a2.add 1) fun (x3 : Int) =>
  onSome t fun a6 =>
  ld1 .slice w5.drew (a6.add 1) fun (s5 : Sl) =>
  ld1 (.int .i64) w5.drew (a2.add 1) fun (x4 : Int) =>
  (0 ≤ x4 ∧ x4 < ((s5.l : Nat) : Int)) ∧
  onSome s5.b fun a7 =>
  ld1 .slice w5.drew (a7.add (Int.toNat x4 * 1)) fun (s6 : Sl) =>
  F_slices_Delete_sArc_Arc s6 x2 (IntKind.wrap .i64 (x2 + (1 : Int))) w5.drew fun (s7 : Sl) w6 =>
  w6.cell? (a2.add 1) = some (Value.int .i64 x3) ∧
  w6.cell? (a5.add 1) = some (Value.slice s4.b s4.l s4.c) ∧
  (0 ≤ x3 ∧ x3 < ((s4.l : Nat) : Int)) ∧
  onSome s4.b fun a8 =>
  storeD Tryz.prog 88 (a8.add (Int.toNat x3 * 1)) (Value.slice s7.b s7.l s7.c) w6 fun w7 =>
  X1 ((IntKind.wrap .i64 (t1.1 + (1 : Int))), ()) w7)
  (F_net_Net_In t v w2 fun (s8 : Sl) w8 =>
  ∀ X2 : (Int × Unit) → World → Prop, (∀ (t3 : Int × Unit) (w9 : World), (
  cond (decide (t3.1 < ((s8.l : Nat) : Int)))
  ((0 ≤ t3.1 ∧ t3.1 < ((s8.l : Nat) : Int)) ∧
  onSome s8.b fun a9 =>
  ldN [.int .i64, .int .i64, .int .i64, .int .i64] w9 (a9.add (Int.toNat t3.1 * 4)) fun (t4 : Int × Int × Int × Int × Unit) =>
  allocD w9 #[Value.int .i64 (0 : Int), Value.int .i64 (0 : Int), Value.int .i64 (0 : Int), Value.int .i64 (0 : Int)] 91 fun a10 w10 =>
  storeD Tryz.prog 91 a10 (Value.agg #[(Value.int .i64 t4.1), (Value.int .i64 t4.2.1), (Value.int .i64 t4.2.2.1), (Value.int .i64 t4.2.2.2.1)]) w10 fun w11 =>
  onSome t fun a11 =>
  ld1 .slice w11.drew (a11.add 0) fun (s9 : Sl) =>
  ld1 (.int .i64) w11.drew (a10.add 0) fun (x5 : Int) =>
  (0 ≤ x5 ∧ x5 < ((s9.l : Nat) : Int)) ∧
  onSome s9.b fun a12 =>
  ld1 .slice w11.drew (a12.add (Int.toNat x5 * 1)) fun (s10 : Sl) =>
  F_net_byTo s10 v w11.drew fun (x6 : Int) (_ : Bool) w12 =>
  onSome t fun a13 =>
  ld1 .slice w12.drew (a13.add 0) fun (s11 : Sl) =>
  ld1 (.int .i64) w12.drew (a10.add 0) fun (x7 : Int) =>
  onSome t fun a14 =>
  ld1 .slice w12.drew (a14.add 0) fun (s12 : Sl) =>
  ld1 (.int .i64) w12.drew (a10.add 0) fun (x8 : Int) =>
  (0 ≤ x8 ∧ x8 < ((s12.l : Nat) : Int)) ∧
  onSome s12.b fun a15 =>
  ld1 .slice w12.drew (a15.add (Int.toNat x8 * 1)) fun (s13 : Sl) =>
  F_slices_Delete_sArc_Arc s13 x6 (IntKind.wrap .i64 (x6 + (1 : Int))) w12.drew fun (s14 : Sl) w13 =>
  w13.cell? (a10.add 0) = some (Value.int .i64 x7) ∧
  w13.cell? (a13.add 0) = some (Value.slice s11.b s11.l s11.c) ∧
  (0 ≤ x7 ∧ x7 < ((s11.l : Nat) : Int)) ∧
  onSome s11.b fun a16 =>
  storeD Tryz.prog 88 (a16.add (Int.toNat x7 * 1)) (Value.slice s14.b s14.l s14.c) w13 fun w14 =>
  X2 ((IntKind.wrap .i64 (t3.1 + (1 : Int))), ()) w14)
  (F_net_Net_has t v w9 fun (b3 : Bool) w15 =>
  cond b3
  (onSome t fun a17 =>
  ld1 .slice w15.drew (a17.add 0) fun (s15 : Sl) =>
  onSome t fun a18 =>
  ld1 .slice w15.drew (a18.add 1) fun (s16 : Sl) =>
  (0 ≤ v ∧ v < ((s15.l : Nat) : Int)) ∧
  onSome s15.b fun a19 =>
  storeD Tryz.prog 88 (a19.add (Int.toNat v * 1)) (Value.slice none 0 0) w15.drew fun w16 =>
  (0 ≤ v ∧ v < ((s16.l : Nat) : Int)) ∧
  onSome s16.b fun a20 =>
  storeD Tryz.prog 88 (a20.add (Int.toNat v * 1)) (Value.slice none 0 0) w16 fun w17 =>
  Q w17)
  (Q w15))) → X2 t3 w9) →
  X2 ((0 : Int), ()) w8)) → X1 t1 w2) →
  X1 ((0 : Int), ()) w1
def G_net_Net_Cut (t : KTs [.c .ptr, .c (.int .i64)]) (w : World) (K : Value → World → Prop) : Prop := F_net_Net_Cut t.1 t.2.1 w fun  w1 => K (Value.tuple #[]) w1
abbrev T_net_Net_Cut : Tr := fun args w K => decK [.c .ptr, .c (.int .i64)] args fun t => G_net_Net_Cut t w K
theorem S_net_Net_Cut : Sound Tryz.prog 84 T_net_Net_Cut := sound_of (fn := Tryz.f84) Tryz.func84 (by kernel_rfl) mixed (by kernel_rfl) (.s (.s .n (.b (.l [(16, .c (.int .i64))] [5, 6, 7, 16, 17, 18, 19, 20, 21, 22, 23, 24, 25, 26, 27, 28, 29, 30, 31, 32, 33, 34, 35, 36, 37, 38, 39, 40, 41, 42, 43, 44, 45, 46, 47, 48, 49, 50, 51, 52] (.s .n (.s .n (.s (.b (.s .n (.s (.r (.fl 0 (.fl 1 (.fl 2 (.fl 3 (.fl 4 (.fl 5 (.fl 6 (.fl 7 (.fl 8 (.mn 9 (.fl 10 (.fl 11 (.fl 12 (.fl 13 (.fl 14 .fin))))) .no))))))))))) (.r (.fl 0 (.fl 1 (.fl 2 (.fl 3 (.fl 4 (.fl 5 (.fl 6 (.fl 7 (.fl 8 (.fl 9 (.fl 10 (.fl 11 (.fl 12 (.fl 13 (.fl 14 (.fl 15 (.fl 16 (.mn 17 (.fl 18 (.mn 19 .fin .no)) .no)))))))))))))))))))))) .n)))))) (.s (.s .n (.b (.l [(57, .c (.int .i64))] [9, 10, 11, 57, 58, 59, 60, 61, 62, 63, 64, 65, 66, 67, 68, 69, 70, 71, 72, 73, 74, 75, 76, 77, 78, 79, 80, 81, 82, 83, 84, 85, 86, 87, 88, 89, 90, 91, 92, 93] (.s .n (.s .n (.s (.b (.s .n (.s (.r (.fl 0 (.fl 1 (.fl 2 (.fl 3 (.fl 4 (.fl 5 (.fl 6 (.fl 7 (.fl 8 (.mn 9 (.fl 10 (.fl 11 (.fl 12 (.fl 13 (.fl 14 .fin))))) .no))))))))))) (.r (.fl 0 (.fl 1 (.fl 2 (.fl 3 (.fl 4 (.fl 5 (.fl 6 (.fl 7 (.fl 8 (.fl 9 (.fl 10 (.fl 11 (.fl 12 (.fl 13 (.fl 14 (.fl 15 (.fl 16 (.mn 17 (.fl 18 (.mn 19 .fin .no)) .no)))))))))))))))))))))) .n)))))) (.s .n (.c (.r (.fl 0 (.fl 1 (.fl 2 (.fl 3 (.fl 4 (.fl 5 (.fl 6 (.fl 7 (.fl 8 (.fl 9 (.fl 10 (.mn 11 (.fl 12 (.mn 13 .fin .no)) .no))))))))))))) .n)))) [(101, T_net_byTo), (103, T_net_byFrom), (106, T_net_Net_Out), (107, T_net_Net_In), (109, T_slices_Delete_sArc_Arc), (110, T_net_Net_has)] ⟨⟨by kernel_rfl, S_net_byTo⟩, ⟨by kernel_rfl, S_net_byFrom⟩, ⟨by kernel_rfl, S_net_Net_Out⟩, ⟨by kernel_rfl, S_net_Net_In⟩, ⟨by kernel_rfl, S_slices_Delete_sArc_Arc⟩, ⟨by kernel_rfl, S_net_Net_has⟩, trivial⟩ [.c .ptr, .c (.int .i64)] (by kernel_rfl) G_net_Net_Cut fun t w K => by kernel_rfl

/-- (*milepost/net.Net).may$1 -/
def F_net_Net_may_c1 (v : Int) (cap0 : Option Addr) (w : World) (Q : Bool → World → Prop) : Prop :=
  cond (decide (v ≥ (0 : Int)))
  (onSome cap0 fun a1 =>
  ld1 (.int .i64) w a1 fun (x1 : Int) =>
  Q (decide (v < x1)) w)
  (Q false w)
def G_net_Net_may_c1 (t : KTs [.c (.int .i64), .c .ptr]) (w : World) (K : Value → World → Prop) : Prop := F_net_Net_may_c1 t.1 t.2.1 w fun (r0 : Bool) w1 => K (Value.bool r0) w1
abbrev T_net_Net_may_c1 : Tr := fun args w K => decK [.c (.int .i64), .c .ptr] args fun t => G_net_Net_may_c1 t w K
theorem S_net_Net_may_c1 : Sound Tryz.prog 100 T_net_Net_may_c1 := sound_of (fn := Tryz.f100) Tryz.func100 (by kernel_rfl) mixed (by kernel_rfl) (.n) [] trivial [.c (.int .i64), .c .ptr] (by kernel_rfl) G_net_Net_may_c1 fun t w K => by kernel_rfl

/-- cmp.isNaN[int] -/
def F_cmp_isNaN_int (x : Int) (w : World) (Q : Bool → World → Prop) : Prop :=
  Q (x != x) w
def G_cmp_isNaN_int (t : KTs [.c (.int .i64)]) (w : World) (K : Value → World → Prop) : Prop := F_cmp_isNaN_int t.1 w fun (r0 : Bool) w1 => K (Value.bool r0) w1
abbrev T_cmp_isNaN_int : Tr := fun args w K => decK [.c (.int .i64)] args fun t => G_cmp_isNaN_int t w K
theorem S_cmp_isNaN_int : Sound Tryz.prog 145 T_cmp_isNaN_int := sound_of (fn := Tryz.f145) Tryz.func145 (by kernel_rfl) mixed (by kernel_rfl) (.n) [] trivial [.c (.int .i64)] (by kernel_rfl) G_cmp_isNaN_int fun t w K => by kernel_rfl

/-- cmp.Compare[int] -/
def F_cmp_Compare_int (x : Int) (y : Int) (w : World) (Q : Int → World → Prop) : Prop :=
  F_cmp_isNaN_int x w fun (b1 : Bool) w1 =>
  F_cmp_isNaN_int y w1 fun (b2 : Bool) w2 =>
  cond b1
  (cond b2
  (Q (0 : Int) w2)
  (Q (-1 : Int) w2))
  (cond b2
  (Q (1 : Int) w2)
  (cond (decide (x < y))
  (Q (-1 : Int) w2)
  (cond (decide (x > y))
  (Q (1 : Int) w2)
  (Q (0 : Int) w2))))
def G_cmp_Compare_int (t : KTs [.c (.int .i64), .c (.int .i64)]) (w : World) (K : Value → World → Prop) : Prop := F_cmp_Compare_int t.1 t.2.1 w fun (r0 : Int) w1 => K (Value.int .i64 r0) w1
abbrev T_cmp_Compare_int : Tr := fun args w K => decK [.c (.int .i64), .c (.int .i64)] args fun t => G_cmp_Compare_int t w K
theorem S_cmp_Compare_int : Sound Tryz.prog 127 T_cmp_Compare_int := sound_of (fn := Tryz.f127) Tryz.func127 (by kernel_rfl) mixed (by kernel_rfl) (.n) [(145, T_cmp_isNaN_int)] ⟨⟨by kernel_rfl, S_cmp_isNaN_int⟩, trivial⟩ [.c (.int .i64), .c (.int .i64)] (by kernel_rfl) G_cmp_Compare_int fun t w K => by kernel_rfl

/-- milepost/net.byTo$1 -/
def F_net_byTo_c1 (a : Int × Int × Int × Int × Unit) (v : Int) (w : World) (Q : Int → World → Prop) : Prop :=
  allocD w #[Value.int .i64 a.1, Value.int .i64 a.2.1, Value.int .i64 a.2.2.1, Value.int .i64 a.2.2.2.1] 91 fun a1 w1 =>
  ld1 (.int .i64) w1 (a1.add 1) fun (x1 : Int) =>
  F_cmp_Compare_int x1 v w1 fun (x2 : Int) w2 =>
  Q x2 w2
def G_net_byTo_c1 (t : KTs [.agg [.int .i64, .int .i64, .int .i64, .int .i64], .c (.int .i64)]) (w : World) (K : Value → World → Prop) : Prop := F_net_byTo_c1 t.1 t.2.1 w fun (r0 : Int) w1 => K (Value.int .i64 r0) w1
abbrev T_net_byTo_c1 : Tr := fun args w K => decK [.agg [.int .i64, .int .i64, .int .i64, .int .i64], .c (.int .i64)] args fun t => G_net_byTo_c1 t w K
theorem S_net_byTo_c1 : Sound Tryz.prog 129 T_net_byTo_c1 := sound_of (fn := Tryz.f129) Tryz.func129 (by kernel_rfl) mixed (by kernel_rfl) (.n) [(127, T_cmp_Compare_int)] ⟨⟨by kernel_rfl, S_cmp_Compare_int⟩, trivial⟩ [.agg [.int .i64, .int .i64, .int .i64, .int .i64], .c (.int .i64)] (by kernel_rfl) G_net_byTo_c1 fun t w K => by kernel_rfl

/-- milepost/net.byFrom$1 -/
def F_net_byFrom_c1 (a : Int × Int × Int × Int × Unit) (v : Int) (w : World) (Q : Int → World → Prop) : Prop :=
  allocD w #[Value.int .i64 a.1, Value.int .i64 a.2.1, Value.int .i64 a.2.2.1, Value.int .i64 a.2.2.2.1] 91 fun a1 w1 =>
  ld1 (.int .i64) w1 (a1.add 0) fun (x1 : Int) =>
  F_cmp_Compare_int x1 v w1 fun (x2 : Int) w2 =>
  Q x2 w2
def G_net_byFrom_c1 (t : KTs [.agg [.int .i64, .int .i64, .int .i64, .int .i64], .c (.int .i64)]) (w : World) (K : Value → World → Prop) : Prop := F_net_byFrom_c1 t.1 t.2.1 w fun (r0 : Int) w1 => K (Value.int .i64 r0) w1
abbrev T_net_byFrom_c1 : Tr := fun args w K => decK [.agg [.int .i64, .int .i64, .int .i64, .int .i64], .c (.int .i64)] args fun t => G_net_byFrom_c1 t w K
theorem S_net_byFrom_c1 : Sound Tryz.prog 131 T_net_byFrom_c1 := sound_of (fn := Tryz.f131) Tryz.func131 (by kernel_rfl) mixed (by kernel_rfl) (.n) [(127, T_cmp_Compare_int)] ⟨⟨by kernel_rfl, S_cmp_Compare_int⟩, trivial⟩ [.agg [.int .i64, .int .i64, .int .i64, .int .i64], .c (.int .i64)] (by kernel_rfl) G_net_byFrom_c1 fun t w K => by kernel_rfl

end Go.Proofs.YtjjgcimlmjnaeaaGreat
