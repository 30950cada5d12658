import Derived.Test.YtjjgcimlmjnaeaaGreatA1
import Derived.Test.YtjjgcimlmjnaeaaGreatFBase
namespace Go.Proofs.YtjjgcimlmjnaeaaGreat
open Go Go.Den
set_option maxRecDepth 100000
/-- (milepost/heap.item).ahead -/
def F_heap_item_ahead (a : Int × Int × Unit) (b : Int × Int × Unit) (w : World) (Q : Bool → World → Prop) : Prop :=
  allocD w #[Value.int .i64 a.1, Value.int .i64 a.2.1] 200 fun a1 w1 =>
  allocD w1 #[Value.int .i64 b.1, Value.int .i64 b.2.1] 200 fun a2 w2 =>
  ld1 (.int .i64) w2 (a1.add 1) fun (x1 : Int) =>
  ld1 (.int .i64) w2 (a2.add 1) fun (x2 : Int) =>
  cond (decide (x1 < x2))
  (Q true w2)
  (ld1 (.int .i64) w2 (a1.add 1) fun (x3 : Int) =>
  ld1 (.int .i64) w2 (a2.add 1) fun (x4 : Int) =>
  cond (x3 == x4)
  (ld1 (.int .i64) w2 (a1.add 0) fun (x5 : Int) =>
  ld1 (.int .i64) w2 (a2.add 0) fun (x6 : Int) =>
  Q (decide (x5 < x6)) w2)
  (Q false w2))
def G_heap_item_ahead (t : KTs [.agg [.int .i64, .int .i64], .agg [.int .i64, .int .i64]]) (w : World) (K : Value → World → Prop) : Prop := F_heap_item_ahead t.1 t.2.1 w fun (r0 : Bool) w1 => K (Value.bool r0) w1
abbrev T_heap_item_ahead : Tr := fun args w K => decK [.agg [.int .i64, .int .i64], .agg [.int .i64, .int .i64]] args fun t => G_heap_item_ahead t w K
theorem S_heap_item_ahead : Sound Tryz.prog 152 T_heap_item_ahead := sound_of (fn := Tryz.f152) Tryz.func152 (by kernel_rfl) mixed (by kernel_rfl) (.n) [] trivial [.agg [.int .i64, .int .i64], .agg [.int .i64, .int .i64]] (by kernel_rfl) G_heap_item_ahead fun t w K => by kernel_rfl

/-- (*milepost/heap.Heap).set -/
def F_heap_Heap_set (h : Option Addr) (i : Int) (x : Int × Int × Unit) (w : World) (Q : World → Prop) : Prop :=
  allocD w #[Value.int .i64 x.1, Value.int .i64 x.2.1] 200 fun a1 w1 =>
  onSome h fun a2 =>
  ld1 .slice w1.drew (a2.add 0) fun (s1 : Sl) =>
  onSome h fun a3 =>
  ld1 .map w1.drew (a3.add 1) fun (m1 : Option Nat) =>
  ld1 (.int .i64) w1.drew (a1.add 0) fun (x1 : Int) =>
  ldN [.int .i64, .int .i64] w1.drew a1 fun (t1 : Int × Int × Unit) =>
  (0 ≤ i ∧ i < ((s1.l : Nat) : Int)) ∧
  onSome s1.b fun a4 =>
  storeD Tryz.prog 200 (a4.add (Int.toNat i * 2)) (Value.agg #[(Value.int .i64 t1.1), (Value.int .i64 t1.2.1)]) w1.drew fun w2 =>
  w2.cell? (a1.add 0) = some (Value.int .i64 x1) ∧
  mapEntryD Tryz.prog (.c (.int .i64)) 179 (Value.map m1) (Value.int .i64 x1) w2 fun (_ : Int) (x3 : Int) w3 =>
  entryStoreD Tryz.prog 179 (Value.map m1) (Value.int .i64 x3) (Value.int .i64 i) w3 fun w4 =>
  Q w4
def G_heap_Heap_set (t : KTs [.c .ptr, .c (.int .i64), .agg [.int .i64, .int .i64]]) (w : World) (K : Value → World → Prop) : Prop := F_heap_Heap_set t.1 t.2.1 t.2.2.1 w fun  w1 => K (Value.tuple #[]) w1
abbrev T_heap_Heap_set : Tr := fun args w K => decK [.c .ptr, .c (.int .i64), .agg [.int .i64, .int .i64]] args fun t => G_heap_Heap_set t w K
theorem S_heap_Heap_set : Sound Tryz.prog 153 T_heap_Heap_set := sound_of (fn := Tryz.f153) Tryz.func153 (by kernel_rfl) mixed (by kernel_rfl) (.s .n (.r (.fl 0 (.fl 1 (.fl 2 (.fl 3 (.fl 4 (.fl 5 (.fl 6 (.fl 7 (.fl 8 (.fl 9 (.fl 10 (.fl 11 (.fl 12 (.fl 13 (.mn 14 (.mn 15 (.fl 16 (.mn 17 .fin .no)) .no) .no))))))))))))))))) [] trivial [.c .ptr, .c (.int .i64), .agg [.int .i64, .int .i64]] (by kernel_rfl) G_heap_Heap_set fun t w K => by kernel_rfl

/-- (*milepost/heap.Heap).up -/
def F_heap_Heap_up (h : Option Addr) (i : Int) (w : World) (Q : World → Prop) : Prop :=
  onSome h fun a1 =>
  ld1 .slice w (a1.add 0) fun (s1 : Sl) =>
  (0 ≤ i ∧ i < ((s1.l : Nat) : Int)) ∧
  onSome s1.b fun a2 =>
  ldN [.int .i64, .int .i64] w (a2.add (Int.toNat i * 2)) fun (t1 : Int × Int × Unit) =>
  allocD w #[Value.int .i64 (0 : Int), Value.int .i64 (0 : Int)] 200 fun a3 w1 =>
  storeD Tryz.prog 200 a3 (Value.agg #[(Value.int .i64 t1.1), (Value.int .i64 t1.2.1)]) w1 fun w2 =>
  ∀ X1 : (Int × Unit) → World → Prop, (∀ (t2 : Int × Unit) (w3 : World), (
  cond (decide (t2.1 > (0 : Int)))
  (ldN [.int .i64, .int .i64] w3.drew a3 fun (t3 : Int × Int × Unit) =>
  onSome h fun a4 =>
  ld1 .slice w3.drew (a4.add 0) fun (s2 : Sl) =>
  ¬ (2 : Int) = 0 ∧
  (0 ≤ IntKind.wrap .i64 (Int.tdiv (IntKind.wrap .i64 (t2.1 - (1 : Int))) (2 : Int)) ∧ IntKind.wrap .i64 (Int.tdiv (IntKind.wrap .i64 (t2.1 - (1 : Int))) (2 : Int)) < ((s2.l : Nat) : Int)) ∧
  onSome s2.b fun a5 =>
  ldN [.int .i64, .int .i64] w3.drew (a5.add (Int.toNat (IntKind.wrap .i64 (Int.tdiv (IntKind.wrap .i64 (t2.1 - (1 : Int))) (2 : Int))) * 2)) fun (t4 : Int × Int × Unit) =>
  F_heap_item_ahead (t3.1, t3.2.1, ()) (t4.1, t4.2.1, ()) w3.drew fun (b1 : Bool) w4 =>
  cond b1
  (onSome h fun a6 =>
  ld1 .slice w4 (a6.add 0) fun (s3 : Sl) =>
  ¬ (2 : Int) = 0 ∧
  (0 ≤ IntKind.wrap .i64 (Int.tdiv (IntKind.wrap .i64 (t2.1 - (1 : Int))) (2 : Int)) ∧ IntKind.wrap .i64 (Int.tdiv (IntKind.wrap .i64 (t2.1 - (1 : Int))) (2 : Int)) < ((s3.l : Nat) : Int)) ∧
  onSome s3.b fun a7 =>
  ldN [.int .i64, .int .i64] w4 (a7.add (Int.toNat (IntKind.wrap .i64 (Int.tdiv (IntKind.wrap .i64 (t2.1 - (1 : Int))) (2 : Int))) * 2)) fun (t5 : Int × Int × Unit) =>
  F_heap_Heap_set h t2.1 (t5.1, t5.2.1, ()) w4 fun w5 =>
  ¬ (2 : Int) = 0 ∧
  X1 ((IntKind.wrap .i64 (Int.tdiv (IntKind.wrap .i64 (t2.1 - (1 : Int))) (2 : Int))), ()) w5)
  (ldN [.int .i64, .int .i64] w4 a3 fun (t6 : Int × Int × Unit) =>
  F_heap_Heap_set h t2.1 (t6.1, t6.2.1, ()) w4 fun w6 =>
  Q w6))
  (ldN [.int .i64, .int .i64] w3.drew a3 fun (t7 : Int × Int × Unit) =>
  F_heap_Heap_set h t2.1 (t7.1, t7.2.1, ()) w3.drew fun w7 =>
  Q w7)) → X1 t2 w3) →
  X1 (i, ()) w2
def G_heap_Heap_up (t : KTs [.c .ptr, .c (.int .i64)]) (w : World) (K : Value → World → Prop) : Prop := F_heap_Heap_up t.1 t.2.1 w fun  w1 => K (Value.tuple #[]) w1
abbrev T_heap_Heap_up : Tr := fun args w K => decK [.c .ptr, .c (.int .i64)] args fun t => G_heap_Heap_up t w K
theorem S_heap_Heap_up : Sound Tryz.prog 139 T_heap_Heap_up := sound_of (fn := Tryz.f139) Tryz.func139 (by kernel_rfl) mixed (by kernel_rfl) (.s .n (.s (.b (.l [(1, .c (.int .i64))] [1, 12, 13, 14, 15, 16, 17, 18, 19, 20, 21, 22, 23, 24, 25, 26, 27, 28, 29, 30, 31, 32, 33, 34, 35, 36, 37, 38, 39, 40, 41] (.s (.s (.r (.fl 0 (.fl 1 (.fl 2 (.fl 3 (.fl 4 (.fl 5 (.fl 6 (.fl 7 (.fl 8 (.fl 9 (.fl 10 (.fl 11 (.fl 12 (.mn 13 (.fl 14 .fin) .no))))))))))))))) .n) .n))) .n)) [(152, T_heap_item_ahead), (153, T_heap_Heap_set)] ⟨⟨by kernel_rfl, S_heap_item_ahead⟩, ⟨by kernel_rfl, S_heap_Heap_set⟩, trivial⟩ [.c .ptr, .c (.int .i64)] (by kernel_rfl) G_heap_Heap_up fun t w K => by kernel_rfl

/-- (*milepost/heap.Heap).Push -/
def F_heap_Heap_Push (h : Option Addr) (id : Int) (key : Int) (w : World) (Q : Bool → World → Prop) : Prop :=
  cond (Option.isNone h)
  (Q false w)
  (∀ J1 : (Unit) → World → Prop, (∀ (t1 : Unit) (w1 : World), (
  onSome h fun a1 =>
  ld1 .map w1 (a1.add 1) fun (m1 : Option Nat) =>
  lookup2D Tryz.prog (.c (.int .i64)) 179 (Value.map m1) (Value.int .i64 id) w1 fun (x1 : Int) (b1 : Bool) w2 =>
  ∀ J2 : (Int × Unit) → World → Prop, (∀ (t2 : Int × Unit) (w3 : World), (
  onSome h fun a2 =>
  ld1 .slice w3 (a2.add 0) fun (s1 : Sl) =>
  (0 ≤ t2.1 ∧ t2.1 < ((s1.l : Nat) : Int)) ∧
  onSome s1.b fun a3 =>
  storeD Tryz.prog 3 ((a3.add (Int.toNat t2.1 * 2)).add 1) (Value.int .i64 key) w3 fun w4 =>
  F_heap_Heap_up h t2.1 w4 fun w5 =>
  Q true w5) → J2 t2 w3) →
  cond (!b1)
  (onSome h fun a4 =>
  ld1 .slice w2 (a4.add 0) fun (s2 : Sl) =>
  onSome h fun a5 =>
  ld1 .slice w2 (a5.add 0) fun (s3 : Sl) =>
  allocD w2 #[Value.int .i64 id, Value.int .i64 key] 200 fun a6 w6 =>
  appendD Tryz.prog 178 178 s3 (Value.slice (some a6) 1 1) w6 fun (s4 : Sl) w7 =>
  onSome h fun a7 =>
  storeD Tryz.prog 178 (a7.add 0) (Value.slice s4.b s4.l s4.c) w7 fun w8 =>
  J2 (((s2.l : Nat) : Int), ()) w8)
  (onSome h fun a8 =>
  ld1 .slice w2 (a8.add 0) fun (s5 : Sl) =>
  (0 ≤ x1 ∧ x1 < ((s5.l : Nat) : Int)) ∧
  onSome s5.b fun a9 =>
  ld1 (.int .i64) w2 ((a9.add (Int.toNat x1 * 2)).add 1) fun (x2 : Int) =>
  cond (decide (key ≥ x2))
  (Q false w2)
  (J2 (x1, ()) w2))) → J1 t1 w1) →
  onSome h fun a10 =>
  ld1 .map w (a10.add 1) fun (m2 : Option Nat) =>
  cond (Option.isNone m2)
  (mapNewD w fun m3 w9 =>
  onSome h fun a11 =>
  storeD Tryz.prog 179 (a11.add 1) (Value.map (some m3)) w9 fun w10 =>
  J1 (()) w10)
  (J1 (()) w))
def G_heap_Heap_Push (t : KTs [.c .ptr, .c (.int .i64), .c (.int .i64)]) (w : World) (K : Value → World → Prop) : Prop := F_heap_Heap_Push t.1 t.2.1 t.2.2.1 w fun (r0 : Bool) w1 => K (Value.bool r0) w1
abbrev T_heap_Heap_Push : Tr := fun args w K => decK [.c .ptr, .c (.int .i64), .c (.int .i64)] args fun t => G_heap_Heap_Push t w K
theorem S_heap_Heap_Push : Sound Tryz.prog 116 T_heap_Heap_Push := sound_of (fn := Tryz.f116) Tryz.func116 (by kernel_rfl) mixed (by kernel_rfl) (.s .n (.s .n (.j [] [11, 12, 13, 14, 15, 16, 17, 18, 19] .n (.s .n (.j [(7, .c (.int .i64))] [6, 7, 29, 30, 31, 32, 33, 34, 35, 36, 37, 38, 39, 40, 41, 42, 43, 44, 45, 46, 47, 48, 49, 50, 51, 52, 53, 54, 55, 56, 57, 58, 59] .n .n))))) [(139, T_heap_Heap_up)] ⟨⟨by kernel_rfl, S_heap_Heap_up⟩, trivial⟩ [.c .ptr, .c (.int .i64), .c (.int .i64)] (by kernel_rfl) G_heap_Heap_Push fun t w K => by kernel_rfl

/-- (*milepost/heap.Heap).Len -/
def F_heap_Heap_Len (h : Option Addr) (w : World) (Q : Int → World → Prop) : Prop :=
  cond (Option.isNone h)
  (Q (0 : Int) w)
  (onSome h fun a1 =>
  ld1 .slice w (a1.add 0) fun (s1 : Sl) =>
  Q ((s1.l : Nat) : Int) w)
def G_heap_Heap_Len (t : KTs [.c .ptr]) (w : World) (K : Value → World → Prop) : Prop := F_heap_Heap_Len t.1 w fun (r0 : Int) w1 => K (Value.int .i64 r0) w1
abbrev T_heap_Heap_Len : Tr := fun args w K => decK [.c .ptr] args fun t => G_heap_Heap_Len t w K
theorem S_heap_Heap_Len : Sound Tryz.prog 117 T_heap_Heap_Len := sound_of (fn := Tryz.f117) Tryz.func117 (by kernel_rfl) mixed (by kernel_rfl) (.n) [] trivial [.c .ptr] (by kernel_rfl) G_heap_Heap_Len fun t w K => by kernel_rfl

/-- (*milepost/heap.Heap).down -/
def F_heap_Heap_down (h : Option Addr) (i : Int) (w : World) (Q : World → Prop) : Prop :=
  onSome h fun a1 =>
  ld1 .slice w (a1.add 0) fun (s1 : Sl) =>
  (0 ≤ i ∧ i < ((s1.l : Nat) : Int)) ∧
  onSome s1.b fun a2 =>
  ldN [.int .i64, .int .i64] w (a2.add (Int.toNat i * 2)) fun (t1 : Int × Int × Unit) =>
  allocD w #[Value.int .i64 (0 : Int), Value.int .i64 (0 : Int)] 200 fun a3 w1 =>
  storeD Tryz.prog 200 a3 (Value.agg #[(Value.int .i64 t1.1), (Value.int .i64 t1.2.1)]) w1 fun w2 =>
  ∀ X1 : (Int × Unit) → World → Prop, (∀ (t2 : Int × Unit) (w3 : World), (
  ∀ J1 : (Int × Unit) → World → Prop, (∀ (t3 : Int × Unit) (w4 : World), (
  onSome h fun a4 =>
  ld1 .slice w4.drew (a4.add 0) fun (s2 : Sl) =>
  cond (decide (t3.1 ≥ ((s2.l : Nat) : Int)))
  (ldN [.int .i64, .int .i64] w4.drew a3 fun (t4 : Int × Int × Unit) =>
  F_heap_Heap_set h t2.1 (t4.1, t4.2.1, ()) w4.drew fun w5 =>
  Q w5)
  (onSome h fun a5 =>
  ld1 .slice w4.drew (a5.add 0) fun (s3 : Sl) =>
  (0 ≤ t3.1 ∧ t3.1 < ((s3.l : Nat) : Int)) ∧
  onSome s3.b fun a6 =>
  ldN [.int .i64, .int .i64] w4.drew (a6.add (Int.toNat t3.1 * 2)) fun (t5 : Int × Int × Unit) =>
  ldN [.int .i64, .int .i64] w4.drew a3 fun (t6 : Int × Int × Unit) =>
  F_heap_item_ahead (t5.1, t5.2.1, ()) (t6.1, t6.2.1, ()) w4.drew fun (b1 : Bool) w6 =>
  cond (!b1)
  (ldN [.int .i64, .int .i64] w6 a3 fun (t7 : Int × Int × Unit) =>
  F_heap_Heap_set h t2.1 (t7.1, t7.2.1, ()) w6 fun w7 =>
  Q w7)
  (onSome h fun a7 =>
  ld1 .slice w6 (a7.add 0) fun (s4 : Sl) =>
  (0 ≤ t3.1 ∧ t3.1 < ((s4.l : Nat) : Int)) ∧
  onSome s4.b fun a8 =>
  ldN [.int .i64, .int .i64] w6 (a8.add (Int.toNat t3.1 * 2)) fun (t8 : Int × Int × Unit) =>
  F_heap_Heap_set h t2.1 (t8.1, t8.2.1, ()) w6 fun w8 =>
  X1 (t3.1, ()) w8))) → J1 t3 w4) →
  onSome h fun a9 =>
  ld1 .slice w3.drew (a9.add 0) fun (s5 : Sl) =>
  cond (decide ((IntKind.wrap .i64 ((IntKind.wrap .i64 ((IntKind.wrap .i64 ((2 : Int) * t2.1)) + (1 : Int))) + (1 : Int))) < ((s5.l : Nat) : Int)))
  (onSome h fun a10 =>
  ld1 .slice w3.drew (a10.add 0) fun (s6 : Sl) =>
  (0 ≤ IntKind.wrap .i64 ((IntKind.wrap .i64 ((IntKind.wrap .i64 ((2 : Int) * t2.1)) + (1 : Int))) + (1 : Int)) ∧ IntKind.wrap .i64 ((IntKind.wrap .i64 ((IntKind.wrap .i64 ((2 : Int) * t2.1)) + (1 : Int))) + (1 : Int)) < ((s6.l : Nat) : Int)) ∧
  onSome s6.b fun a11 =>
  ldN [.int .i64, .int .i64] w3.drew (a11.add (Int.toNat (IntKind.wrap .i64 ((IntKind.wrap .i64 ((IntKind.wrap .i64 ((2 : Int) * t2.1)) + (1 : Int))) + (1 : Int))) * 2)) fun (t9 : Int × Int × Unit) =>
  onSome h fun a12 =>
  ld1 .slice w3.drew (a12.add 0) fun (s7 : Sl) =>
  (0 ≤ IntKind.wrap .i64 ((IntKind.wrap .i64 ((2 : Int) * t2.1)) + (1 : Int)) ∧ IntKind.wrap .i64 ((IntKind.wrap .i64 ((2 : Int) * t2.1)) + (1 : Int)) < ((s7.l : Nat) : Int)) ∧
  onSome s7.b fun a13 =>
  ldN [.int .i64, .int .i64] w3.drew (a13.add (Int.toNat (IntKind.wrap .i64 ((IntKind.wrap .i64 ((2 : Int) * t2.1)) + (1 : Int))) * 2)) fun (t10 : Int × Int × Unit) =>
  F_heap_item_ahead (t9.1, t9.2.1, ()) (t10.1, t10.2.1, ()) w3.drew fun (b2 : Bool) w9 =>
  cond b2
  (J1 ((IntKind.wrap .i64 ((IntKind.wrap .i64 ((IntKind.wrap .i64 ((2 : Int) * t2.1)) + (1 : Int))) + (1 : Int))), ()) w9)
  (J1 ((IntKind.wrap .i64 ((IntKind.wrap .i64 ((2 : Int) * t2.1)) + (1 : Int))), ()) w9))
  (J1 ((IntKind.wrap .i64 ((IntKind.wrap .i64 ((2 : Int) * t2.1)) + (1 : Int))), ()) w3.drew)) → X1 t2 w3) →
  X1 (i, ()) w2
def G_heap_Heap_down (t : KTs [.c .ptr, .c (.int .i64)]) (w : World) (K : Value → World → Prop) : Prop := F_heap_Heap_down t.1 t.2.1 w fun  w1 => K (Value.tuple #[]) w1
abbrev T_heap_Heap_down : Tr := fun args w K => decK [.c .ptr, .c (.int .i64)] args fun t => G_heap_Heap_down t w K
theorem S_heap_Heap_down : Sound Tryz.prog 140 T_heap_Heap_down := sound_of (fn := Tryz.f140) Tryz.func140 (by kernel_rfl) mixed (by kernel_rfl) (.s .n (.s (.b (.l [(1, .c (.int .i64))] [1, 5, 13, 14, 15, 16, 17, 18, 19, 20, 21, 22, 23, 24, 25, 26, 27, 28, 29, 30, 31, 32, 33, 34, 35, 36, 37, 38, 39, 40, 41, 42, 43, 44, 45, 46, 47, 48, 49, 50, 51, 52, 53, 54, 55, 56, 57, 58, 59, 60, 61, 62, 63, 64, 65, 66, 67, 68, 69, 70, 71, 72, 73] (.b (.s .n (.j [(5, .c (.int .i64))] [5, 16, 17, 18, 19, 20, 21, 22, 23, 24, 25, 26, 27, 28, 29, 30, 31, 32, 33, 34, 35, 36, 37, 38, 39, 40, 41, 42, 43] (.s (.r (.fl 0 (.fl 1 (.fl 2 (.fl 3 (.fl 4 (.fl 5 (.fl 6 (.fl 7 (.fl 8 (.fl 9 (.fl 10 (.fl 11 (.fl 12 (.fl 13 (.fl 14 (.fl 15 (.fl 16 (.fl 17 (.fl 18 (.fl 19 (.fl 20 (.fl 21 (.fl 22 (.fl 23 (.mn 24 (.fl 25 .fin) .no)))))))))))))))))))))))))) .n) (.s (.s (.r (.fl 0 (.fl 1 (.fl 2 (.fl 3 (.fl 4 (.fl 5 (.fl 6 (.fl 7 (.fl 8 (.fl 9 (.fl 10 (.fl 11 (.fl 12 (.fl 13 (.fl 14 (.fl 15 (.mn 16 (.fl 17 (.fl 18 .fin)) .no)))))))))))))))))) .n) .n)))))) .n)) [(152, T_heap_item_ahead), (153, T_heap_Heap_set)] ⟨⟨by kernel_rfl, S_heap_item_ahead⟩, ⟨by kernel_rfl, S_heap_Heap_set⟩, trivial⟩ [.c .ptr, .c (.int .i64)] (by kernel_rfl) G_heap_Heap_down fun t w K => by kernel_rfl

/-- (*milepost/heap.Heap).Pop -/
def F_heap_Heap_Pop (h : Option Addr) (w : World) (Q : Int → Int → Int → World → Prop) : Prop :=
  F_heap_Heap_Len h w fun (x1 : Int) w1 =>
  cond (x1 == (0 : Int))
  (Q (0 : Int) (0 : Int) (4 : Int) w1)
  (∀ J1 : ((Option Addr) × (Option Addr) × Unit) → World → Prop, (∀ (t1 : (Option Addr) × (Option Addr) × Unit) (w2 : World), (
  onSome h fun a1 =>
  ld1 .slice w2.drew (a1.add 0) fun (s1 : Sl) =>
  onSome h fun a2 =>
  ld1 .slice w2.drew (a2.add 0) fun (s2 : Sl) =>
  (0 ≤ IntKind.wrap .i64 (((s2.l : Nat) : Int) - (1 : Int)) ∧ IntKind.wrap .i64 (((s2.l : Nat) : Int) - (1 : Int)) ≤ ((s1.c : Nat) : Int)) ∧
  onSome h fun a3 =>
  storeD Tryz.prog 178 (a3.add 0) (Value.slice (sliceAddr s1.b s1.c 0 2) ((Int.toNat (IntKind.wrap .i64 (((s2.l : Nat) : Int) - (1 : Int)))) - 0) (s1.c - 0)) w2.drew fun w3 =>
  onSome h fun a4 =>
  ld1 .map w3.drew (a4.add 1) fun (m1 : Option Nat) =>
  onSome t1.1 fun a5 =>
  ld1 (.int .i64) w3.drew (a5.add 0) fun (x2 : Int) =>
  deleteD Tryz.prog 179 3 (Value.map m1) (Value.int .i64 x2) w3.drew fun w4 =>
  onSome h fun a6 =>
  ld1 .slice w4 (a6.add 0) fun (s3 : Sl) =>
  cond (decide (((s3.l : Nat) : Int) > (0 : Int)))
  (onSome h fun a7 =>
  ld1 .slice w4.drew (a7.add 0) fun (s4 : Sl) =>
  onSome t1.2.1 fun a8 =>
  ldN [.int .i64, .int .i64] w4.drew a8 fun (t2 : Int × Int × Unit) =>
  (0 ≤ (0 : Int) ∧ (0 : Int) < ((s4.l : Nat) : Int)) ∧
  onSome s4.b fun a9 =>
  storeD Tryz.prog 200 (a9.add (Int.toNat (0 : Int) * 2)) (Value.agg #[(Value.int .i64 t2.1), (Value.int .i64 t2.2.1)]) w4.drew fun w5 =>
  F_heap_Heap_down h (0 : Int) w5 fun w6 =>
  onSome t1.1 fun a10 =>
  ld1 (.int .i64) w6.drew (a10.add 0) fun (x3 : Int) =>
  onSome t1.1 fun a11 =>
  ld1 (.int .i64) w6.drew (a11.add 1) fun (x4 : Int) =>
  Q x3 x4 (0 : Int) w6.drew)
  (onSome t1.1 fun a12 =>
  ld1 (.int .i64) w4.drew (a12.add 0) fun (x5 : Int) =>
  onSome t1.1 fun a13 =>
  ld1 (.int .i64) w4.drew (a13.add 1) fun (x6 : Int) =>
  Q x5 x6 (0 : Int) w4.drew)) → J1 t1 w2) →
  onSome h fun a14 =>
  ld1 .slice w1.drew (a14.add 0) fun (s5 : Sl) =>
  (0 ≤ (0 : Int) ∧ (0 : Int) < ((s5.l : Nat) : Int)) ∧
  onSome s5.b fun a15 =>
  ldN [.int .i64, .int .i64] w1.drew (a15.add (Int.toNat (0 : Int) * 2)) fun (t3 : Int × Int × Unit) =>
  onSome h fun a16 =>
  ld1 .slice w1.drew (a16.add 0) fun (s6 : Sl) =>
  onSome h fun a17 =>
  ld1 .slice w1.drew (a17.add 0) fun (s7 : Sl) =>
  (0 ≤ IntKind.wrap .i64 (((s7.l : Nat) : Int) - (1 : Int)) ∧ IntKind.wrap .i64 (((s7.l : Nat) : Int) - (1 : Int)) < ((s6.l : Nat) : Int)) ∧
  onSome s6.b fun a18 =>
  ldN [.int .i64, .int .i64] w1.drew (a18.add (Int.toNat (IntKind.wrap .i64 (((s7.l : Nat) : Int) - (1 : Int))) * 2)) fun (t4 : Int × Int × Unit) =>
  (allocD w1.drew #[Value.int .i64 (0 : Int), Value.int .i64 (0 : Int)] 200 fun a19 w7 =>
  HoldsAt w7 (a18.add (Int.toNat (IntKind.wrap .i64 (((s7.l : Nat) : Int) - (1 : Int))) * 2)) 0 [Value.int .i64 t4.1, Value.int .i64 t4.2.1] ∧
  w7.cell? (a17.add 0) = some (Value.slice s7.b s7.l s7.c) ∧
  w7.cell? (a16.add 0) = some (Value.slice s6.b s6.l s6.c) ∧
  HoldsAt w7 (a15.add (Int.toNat (0 : Int) * 2)) 0 [Value.int .i64 t3.1, Value.int .i64 t3.2.1] ∧
  w7.cell? (a14.add 0) = some (Value.slice s5.b s5.l s5.c) ∧
  allocD w7 #[Value.int .i64 (0 : Int), Value.int .i64 (0 : Int)] 200 fun a20 w8 =>
  HoldsAt w8 (a18.add (Int.toNat (IntKind.wrap .i64 (((s7.l : Nat) : Int) - (1 : Int))) * 2)) 0 [Value.int .i64 t4.1, Value.int .i64 t4.2.1] ∧
  w8.cell? (a17.add 0) = some (Value.slice s7.b s7.l s7.c) ∧
  w8.cell? (a16.add 0) = some (Value.slice s6.b s6.l s6.c) ∧
  HoldsAt w8 (a15.add (Int.toNat (0 : Int) * 2)) 0 [Value.int .i64 t3.1, Value.int .i64 t3.2.1] ∧
  w8.cell? (a14.add 0) = some (Value.slice s5.b s5.l s5.c) ∧
  storeD Tryz.prog 200 a19 (Value.agg #[(Value.int .i64 t3.1), (Value.int .i64 t3.2.1)]) w8 fun w9 =>
  HoldsAt w9 (a18.add (Int.toNat (IntKind.wrap .i64 (((s7.l : Nat) : Int) - (1 : Int))) * 2)) 0 [Value.int .i64 t4.1, Value.int .i64 t4.2.1] ∧
  w9.cell? (a17.add 0) = some (Value.slice s7.b s7.l s7.c) ∧
  w9.cell? (a16.add 0) = some (Value.slice s6.b s6.l s6.c) ∧
  storeD Tryz.prog 200 a20 (Value.agg #[(Value.int .i64 t4.1), (Value.int .i64 t4.2.1)]) w9 fun w10 =>
  J1 ((some a19), (some a20), ()) w10) ∧
  (allocD w1.drew #[Value.int .i64 (0 : Int), Value.int .i64 (0 : Int)] 200 fun a21 w11 =>
  HoldsAt w11 (a18.add (Int.toNat (IntKind.wrap .i64 (((s7.l : Nat) : Int) - (1 : Int))) * 2)) 0 [Value.int .i64 t4.1, Value.int .i64 t4.2.1] ∧
  w11.cell? (a17.add 0) = some (Value.slice s7.b s7.l s7.c) ∧
  w11.cell? (a16.add 0) = some (Value.slice s6.b s6.l s6.c) ∧
  HoldsAt w11 (a15.add (Int.toNat (0 : Int) * 2)) 0 [Value.int .i64 t3.1, Value.int .i64 t3.2.1] ∧
  w11.cell? (a14.add 0) = some (Value.slice s5.b s5.l s5.c) ∧
  allocD w11 #[Value.int .i64 (0 : Int), Value.int .i64 (0 : Int)] 200 fun a22 w12 =>
  HoldsAt w12 (a18.add (Int.toNat (IntKind.wrap .i64 (((s7.l : Nat) : Int) - (1 : Int))) * 2)) 0 [Value.int .i64 t4.1, Value.int .i64 t4.2.1] ∧
  w12.cell? (a17.add 0) = some (Value.slice s7.b s7.l s7.c) ∧
  w12.cell? (a16.add 0) = some (Value.slice s6.b s6.l s6.c) ∧
  HoldsAt w12 (a15.add (Int.toNat (0 : Int) * 2)) 0 [Value.int .i64 t3.1, Value.int .i64 t3.2.1] ∧
  w12.cell? (a14.add 0) = some (Value.slice s5.b s5.l s5.c) ∧
  storeD Tryz.prog 200 a22 (Value.agg #[(Value.int .i64 t3.1), (Value.int .i64 t3.2.1)]) w12 fun w13 =>
  HoldsAt w13 (a18.add (Int.toNat (IntKind.wrap .i64 (((s7.l : Nat) : Int) - (1 : Int))) * 2)) 0 [Value.int .i64 t4.1, Value.int .i64 t4.2.1] ∧
  w13.cell? (a17.add 0) = some (Value.slice s7.b s7.l s7.c) ∧
  w13.cell? (a16.add 0) = some (Value.slice s6.b s6.l s6.c) ∧
  storeD Tryz.prog 200 a21 (Value.agg #[(Value.int .i64 t4.1), (Value.int .i64 t4.2.1)]) w13 fun w14 =>
  J1 ((some a22), (some a21), ()) w14))
def G_heap_Heap_Pop (t : KTs [.c .ptr]) (w : World) (K : Value → World → Prop) : Prop := F_heap_Heap_Pop t.1 w fun (r0 : Int) (r1 : Int) (r2 : Int) w1 => K (Value.tuple #[(Value.int .i64 r0), (Value.int .i64 r1), (Value.int .i64 r2)]) w1
abbrev T_heap_Heap_Pop : Tr := fun args w K => decK [.c .ptr] args fun t => G_heap_Heap_Pop t w K
theorem S_heap_Heap_Pop : Sound Tryz.prog 118 T_heap_Heap_Pop := sound_of (fn := Tryz.f118) Tryz.func118 (by kernel_rfl) mixed (by kernel_rfl) (.s .n (.s .n (.j [(5, .c .ptr), (6, .c .ptr)] [5, 6, 10, 11, 12, 13, 14, 15, 16, 17, 18, 19, 20, 21, 22, 23, 24, 25, 26, 27] (.r (.fl 0 (.fl 1 (.fl 2 (.fl 3 (.fl 4 (.fl 5 (.fl 6 (.fl 7 (.fl 8 (.fl 9 (.fl 10 (.fl 11 (.fl 12 (.fl 13 (.fl 14 (.fl 15 (.fl 16 (.fl 17 (.mn 18 (.mn 19 (.mn 20 (.mn 21 .fin .no) .no) .no) (.mn 19 (.mn 18 (.mn 20 (.mn 21 .fin .no) .no) .no) .no))))))))))))))))))))) (.s (.r (.fl 0 (.fl 1 (.fl 2 (.fl 3 (.fl 4 (.fl 5 (.fl 6 (.fl 7 (.fl 8 (.fl 9 (.fl 10 (.fl 11 (.fl 12 (.fl 13 (.mn 14 .fin .no)))))))))))))))) (.s (.r (.fl 0 (.fl 1 (.fl 2 (.fl 3 (.fl 4 (.fl 5 (.mn 6 .fin .no)))))))) (.s (.s .n (.c (.s (.r (.fl 0 (.fl 1 (.fl 2 (.fl 3 (.fl 4 (.fl 5 (.mn 6 .fin .no)))))))) .n) .n)) (.s (.r (.fl 0 (.fl 1 (.fl 2 (.fl 3 (.fl 4 (.fl 5 (.fl 6 .fin)))))))) .n))))))) [(117, T_heap_Heap_Len), (140, T_heap_Heap_down)] ⟨⟨by kernel_rfl, S_heap_Heap_Len⟩, ⟨by kernel_rfl, S_heap_Heap_down⟩, trivial⟩ [.c .ptr] (by kernel_rfl) G_heap_Heap_Pop fun t w K => by kernel_rfl

end Go.Proofs.YtjjgcimlmjnaeaaGreat
