import Derived.Test.YtjjgcimlmjnaeaaGreatA1
import Derived.Test.YtjjgcimlmjnaeaaGreatFBase
import Derived.Test.YtjjgcimlmjnaeaaGreatFNet
import Derived.Test.YtjjgcimlmjnaeaaGreatFHeap
namespace Go.Proofs.YtjjgcimlmjnaeaaGreat
open Go Go.Den
set_option maxRecDepth 100000
/-- slices.Clone[[]int,int] -/
def F_slices_Clone_sint_int (s : Sl) (w : World) (Q : Sl → World → Prop) : Prop :=
  cond (Option.isNone s.b)
  (Q ⟨none, 0, 0⟩ w)
  (allocD w #[] 3 fun a1 w1 =>
  appendD Tryz.prog 22 22 ⟨(some a1), 0, 0⟩ (Value.slice s.b s.l s.c) w1 fun (s1 : Sl) w2 =>
  Q s1 w2)
def G_slices_Clone_sint_int (t : KTs [.c .slice]) (w : World) (K : Value → World → Prop) : Prop := F_slices_Clone_sint_int t.1 w fun (r0 : Sl) w1 => K (Value.slice r0.b r0.l r0.c) w1
abbrev T_slices_Clone_sint_int : Tr := fun args w K => decK [.c .slice] args fun t => G_slices_Clone_sint_int t w K
theorem S_slices_Clone_sint_int : Sound Tryz.prog 39 T_slices_Clone_sint_int := sound_of (fn := Tryz.f39) Tryz.func39 (by kernel_rfl) mixed (by kernel_rfl) (.n) [] trivial [.c .slice] (by kernel_rfl) G_slices_Clone_sint_int fun t w K => by kernel_rfl

/-- math/bits.Mul64 -/
def F_math_bits_Mul64 (x : Int) (y : Int) (w : World) (Q : Int → Int → World → Prop) : Prop :=
  0 ≤ (32 : Int) ∧
  0 ≤ (32 : Int) ∧
  0 ≤ (32 : Int) ∧
  0 ≤ (32 : Int) ∧
  0 ≤ (32 : Int) ∧
  Q (IntKind.wrap .u64 ((IntKind.wrap .u64 ((IntKind.wrap .u64 ((Int.fdiv x (2 ^ (min (Int.toNat (32 : Int)) (IntKind.bits .u64)))) * (Int.fdiv y (2 ^ (min (Int.toNat (32 : Int)) (IntKind.bits .u64)))))) + (Int.fdiv (IntKind.wrap .u64 ((IntKind.wrap .u64 ((Int.fdiv x (2 ^ (min (Int.toNat (32 : Int)) (IntKind.bits .u64)))) * (bitsV .and .u64 y (4294967295 : Int)))) + (Int.fdiv (IntKind.wrap .u64 ((bitsV .and .u64 x (4294967295 : Int)) * (bitsV .and .u64 y (4294967295 : Int)))) (2 ^ (min (Int.toNat (32 : Int)) (IntKind.bits .u64)))))) (2 ^ (min (Int.toNat (32 : Int)) (IntKind.bits .u64)))))) + (Int.fdiv (IntKind.wrap .u64 ((bitsV .and .u64 (IntKind.wrap .u64 ((IntKind.wrap .u64 ((Int.fdiv x (2 ^ (min (Int.toNat (32 : Int)) (IntKind.bits .u64)))) * (bitsV .and .u64 y (4294967295 : Int)))) + (Int.fdiv (IntKind.wrap .u64 ((bitsV .and .u64 x (4294967295 : Int)) * (bitsV .and .u64 y (4294967295 : Int)))) (2 ^ (min (Int.toNat (32 : Int)) (IntKind.bits .u64)))))) (4294967295 : Int)) + (IntKind.wrap .u64 ((bitsV .and .u64 x (4294967295 : Int)) * (Int.fdiv y (2 ^ (min (Int.toNat (32 : Int)) (IntKind.bits .u64)))))))) (2 ^ (min (Int.toNat (32 : Int)) (IntKind.bits .u64)))))) (IntKind.wrap .u64 (x * y)) w
def G_math_bits_Mul64 (t : KTs [.c (.int .u64), .c (.int .u64)]) (w : World) (K : Value → World → Prop) : Prop := F_math_bits_Mul64 t.1 t.2.1 w fun (r0 : Int) (r1 : Int) w1 => K (Value.tuple #[(Value.int .u64 r0), (Value.int .u64 r1)]) w1
abbrev T_math_bits_Mul64 : Tr := fun args w K => decK [.c (.int .u64), .c (.int .u64)] args fun t => G_math_bits_Mul64 t w K
theorem S_math_bits_Mul64 : Sound Tryz.prog 160 T_math_bits_Mul64 := sound_of (fn := Tryz.f160) Tryz.func160 (by kernel_rfl) mixed (by kernel_rfl) (.n) [] trivial [.c (.int .u64), .c (.int .u64)] (by kernel_rfl) G_math_bits_Mul64 fun t w K => by kernel_rfl

/-- math/bits.Mul -/
def F_math_bits_Mul (x : Int) (y : Int) (w : World) (Q : Int → Int → World → Prop) : Prop :=
  F_math_bits_Mul64 x y w fun (x1 : Int) (x2 : Int) w1 =>
  Q x1 x2 w1
def G_math_bits_Mul (t : KTs [.c (.int .u64), .c (.int .u64)]) (w : World) (K : Value → World → Prop) : Prop := F_math_bits_Mul t.1 t.2.1 w fun (r0 : Int) (r1 : Int) w1 => K (Value.tuple #[(Value.int .u64 r0), (Value.int .u64 r1)]) w1
abbrev T_math_bits_Mul : Tr := fun args w K => decK [.c (.int .u64), .c (.int .u64)] args fun t => G_math_bits_Mul t w K
theorem S_math_bits_Mul : Sound Tryz.prog 151 T_math_bits_Mul := sound_of (fn := Tryz.f151) Tryz.func151 (by kernel_rfl) mixed (by kernel_rfl) (.n) [(160, T_math_bits_Mul64)] ⟨⟨by kernel_rfl, S_math_bits_Mul64⟩, trivial⟩ [.c (.int .u64), .c (.int .u64)] (by kernel_rfl) G_math_bits_Mul fun t w K => by kernel_rfl

/-- slices.Repeat[[]int,int] -/
def F_slices_Repeat_sint_int (x : Sl) (count : Int) (w : World) (Q : Sl → World → Prop) : Prop :=
  cond (decide (count < (0 : Int)))
  (False)
  (F_math_bits_Mul (IntKind.wrap .u64 (((x.l : Nat) : Int))) (IntKind.wrap .u64 (count)) w fun (x1 : Int) (x2 : Int) w1 =>
  cond (decide (x1 > (0 : Int)))
  (False)
  (cond (decide (x2 > (9223372036854775807 : Int)))
  (False)
  (makeSliceD Tryz.prog 22 (Value.int .i64 (IntKind.wrap .i64 (x2))) (Value.int .i64 (IntKind.wrap .i64 (x2))) w1 fun (s1 : Sl) w2 =>
  copyD Tryz.prog 22 22 s1 (Value.slice x.b x.l x.c) w2 fun (x3 : Int) w3 =>
  ∀ X1 : (Int × Unit) → World → Prop, (∀ (t1 : Int × Unit) (w4 : World), (
  cond (decide (t1.1 < ((s1.l : Nat) : Int)))
  ((0 ≤ t1.1 ∧ t1.1 ≤ ((s1.l : Nat) : Int)) ∧
  (0 ≤ t1.1 ∧ t1.1 ≤ ((s1.c : Nat) : Int)) ∧
  copyD Tryz.prog 22 22 ⟨(sliceAddr s1.b s1.c (Int.toNat t1.1) 1), (s1.l - (Int.toNat t1.1)), (s1.c - (Int.toNat t1.1))⟩ (Value.slice (sliceAddr s1.b s1.c 0 1) ((Int.toNat t1.1) - 0) (s1.c - 0)) w4.drew fun (x4 : Int) w5 =>
  X1 ((IntKind.wrap .i64 (t1.1 + x4)), ()) w5)
  (Q s1 w4)) → X1 t1 w4) →
  X1 (x3, ()) w3)))
def G_slices_Repeat_sint_int (t : KTs [.c .slice, .c (.int .i64)]) (w : World) (K : Value → World → Prop) : Prop := F_slices_Repeat_sint_int t.1 t.2.1 w fun (r0 : Sl) w1 => K (Value.slice r0.b r0.l r0.c) w1
abbrev T_slices_Repeat_sint_int : Tr := fun args w K => decK [.c .slice, .c (.int .i64)] args fun t => G_slices_Repeat_sint_int t w K
theorem S_slices_Repeat_sint_int : Sound Tryz.prog 138 T_slices_Repeat_sint_int := sound_of (fn := Tryz.f138) Tryz.func138 (by kernel_rfl) mixed (by kernel_rfl) (.s .n (.s .n (.s .n (.s .n (.s .n (.s .n (.s (.b (.l [(8, .c (.int .i64))] [8, 34, 35, 36, 37, 38, 39, 40, 41, 42, 43, 44, 45, 46] (.s .n (.b (.r (.fl 0 (.fl 1 (.fl 2 (.fl 3 (.fl 4 (.fl 5 (.fl 6 (.mn 7 (.fl 8 (.fl 9 .fin)) .no))))))))))))) .n))))))) [(151, T_math_bits_Mul)] ⟨⟨by kernel_rfl, S_math_bits_Mul⟩, trivial⟩ [.c .slice, .c (.int .i64)] (by kernel_rfl) G_slices_Repeat_sint_int fun t w K => by kernel_rfl

/-- milepost/search.grow -/
def F_search_grow (l : Option Addr) (from_ : Sl) (arcs : Value) (end_ : Value) (w : World) (Q : (Sl × Sl × Unit) → World → Prop) : Prop :=
  allocD w #[Value.slice none 0 0, Value.slice none 0 0] 196 fun a1 w1 =>
  cond (Option.isNone l)
  (storeD Tryz.prog 196 a1 (Value.agg #[(Value.slice none 0 0), (Value.slice none 0 0)]) w1 fun w2 =>
  ldN [.slice, .slice] w2 a1 fun (t1 : Sl × Sl × Unit) =>
  Q (t1.1, t1.2.1, ()) w2)
  (allocD w1 #[Value.int .i64 (-1 : Int)] 3 fun a2 w3 =>
  onSome l fun a3 =>
  ld1 .ptr w3 (a3.add 0) fun (p1 : Option Addr) =>
  F_net_Net_Len p1 w3 fun (x1 : Int) w4 =>
  F_slices_Repeat_sint_int ⟨(some a2), 1, 1⟩ x1 w4 fun (s1 : Sl) w5 =>
  F_slices_Clone_sint_int s1 w5 fun (s2 : Sl) w6 =>
  mapNewD w6 fun m1 w7 =>
  allocD w7 #[Value.slice none 0 0, Value.map none] 181 fun a4 w8 =>
  allocD w8 #[Value.slice none 0 0, Value.slice none 0 0] 196 fun a5 w9 =>
  storeD Tryz.prog 196 a5 (Value.agg #[(Value.slice s1.b s1.l s1.c), (Value.slice s2.b s2.l s2.c)]) w9 fun w10 =>
  ∀ X1 : (Int × Unit) → World → Prop, (∀ (t2 : Int × Unit) (w11 : World), (
  cond (decide (t2.1 < ((from_.l : Nat) : Int)))
  ((0 ≤ t2.1 ∧ t2.1 < ((from_.l : Nat) : Int)) ∧
  onSome from_.b fun a6 =>
  ld1 (.int .i64) w11 (a6.add (Int.toNat t2.1 * 1)) fun (x2 : Int) =>
  cond (decide (x2 ≥ (0 : Int)))
  (onSome l fun a7 =>
  ld1 .ptr w11 (a7.add 0) fun (p2 : Option Addr) =>
  F_net_Net_Len p2 w11 fun (x3 : Int) w12 =>
  cond (decide (x2 < x3))
  (F_heap_Heap_Push (some a4) x2 (0 : Int) w12 fun (_ : Bool) w13 =>
  mapUpdateD Tryz.prog 179 (Value.map (some m1)) (Value.int .i64 x2) (Value.int .i64 (-1 : Int)) w13 fun w14 =>
  X1 ((IntKind.wrap .i64 (t2.1 + (1 : Int))), ()) w14)
  (X1 ((IntKind.wrap .i64 (t2.1 + (1 : Int))), ()) w12))
  (X1 ((IntKind.wrap .i64 (t2.1 + (1 : Int))), ()) w11))
  (∀ X2 : (Unit) → World → Prop, (∀ (t3 : Unit) (w15 : World), (
  F_heap_Heap_Len (some a4) w15 fun (x4 : Int) w16 =>
  cond (decide (x4 > (0 : Int)))
  (F_heap_Heap_Pop (some a4) w16 fun (x5 : Int) (x6 : Int) (_ : Int) w17 =>
  ld1 .slice w17.drew (a5.add 0) fun (s3 : Sl) =>
  ld1 .slice w17.drew (a5.add 1) fun (s4 : Sl) =>
  lookup1D Tryz.prog (.c (.int .i64)) 179 (Value.map (some m1)) (Value.int .i64 x5) w17.drew fun (x8 : Int) w18 =>
  w18.cell? (a5.add 1) = some (Value.slice s4.b s4.l s4.c) ∧
  w18.cell? (a5.add 0) = some (Value.slice s3.b s3.l s3.c) ∧
  (0 ≤ x5 ∧ x5 < ((s3.l : Nat) : Int)) ∧
  onSome s3.b fun a8 =>
  storeD Tryz.prog 3 (a8.add (Int.toNat x5 * 1)) (Value.int .i64 x6) w18 fun w19 =>
  w19.cell? (a5.add 1) = some (Value.slice s4.b s4.l s4.c) ∧
  (0 ≤ x5 ∧ x5 < ((s4.l : Nat) : Int)) ∧
  onSome s4.b fun a9 =>
  storeD Tryz.prog 3 (a9.add (Int.toNat x5 * 1)) (Value.int .i64 x8) w19 fun w20 =>
  callV Tryz.prog arcs [(Value.int .i64 x5)] w20 fun v1 w21 =>
  ∃ s5 : Sl, v1 = (Value.slice s5.b s5.l s5.c) ∧
  ∀ X3 : (Int × Unit) → World → Prop, (∀ (t4 : Int × Unit) (w22 : World), (
  cond (decide (t4.1 < ((s5.l : Nat) : Int)))
  ((0 ≤ t4.1 ∧ t4.1 < ((s5.l : Nat) : Int)) ∧
  onSome s5.b fun a10 =>
  ldN [.int .i64, .int .i64, .int .i64, .int .i64] w22 (a10.add (Int.toNat t4.1 * 4)) fun (t5 : Int × Int × Int × Int × Unit) =>
  allocD w22 #[Value.int .i64 (0 : Int), Value.int .i64 (0 : Int), Value.int .i64 (0 : Int), Value.int .i64 (0 : Int)] 91 fun a11 w23 =>
  storeD Tryz.prog 91 a11 (Value.agg #[(Value.int .i64 t5.1), (Value.int .i64 t5.2.1), (Value.int .i64 t5.2.2.1), (Value.int .i64 t5.2.2.2.1)]) w23 fun w24 =>
  ldN [.int .i64, .int .i64, .int .i64, .int .i64] w24 a11 fun (t6 : Int × Int × Int × Int × Unit) =>
  callV Tryz.prog end_ [(Value.agg #[(Value.int .i64 t6.1), (Value.int .i64 t6.2.1), (Value.int .i64 t6.2.2.1), (Value.int .i64 t6.2.2.2.1)])] w24 fun v2 w25 =>
  ∃ x9 : Int, v2 = (Value.int .i64 x9) ∧
  ld1 .slice w25 (a5.add 0) fun (s6 : Sl) =>
  (0 ≤ x9 ∧ x9 < ((s6.l : Nat) : Int)) ∧
  onSome s6.b fun a12 =>
  ld1 (.int .i64) w25 (a12.add (Int.toNat x9 * 1)) fun (x10 : Int) =>
  cond (decide (x10 < (0 : Int)))
  (ld1 (.int .i64) w25 (a11.add 2) fun (x11 : Int) =>
  F_heap_Heap_Push (some a4) x9 (IntKind.wrap .i64 (x6 + x11)) w25 fun (b2 : Bool) w26 =>
  cond b2
  (mapUpdateD Tryz.prog 179 (Value.map (some m1)) (Value.int .i64 x9) (Value.int .i64 x5) w26 fun w27 =>
  X3 ((IntKind.wrap .i64 (t4.1 + (1 : Int))), ()) w27)
  (X3 ((IntKind.wrap .i64 (t4.1 + (1 : Int))), ()) w26))
  (X3 ((IntKind.wrap .i64 (t4.1 + (1 : Int))), ()) w25))
  (X2 (()) w22)) → X3 t4 w22) →
  X3 ((0 : Int), ()) w21)
  (ldN [.slice, .slice] w16 a5 fun (t7 : Sl × Sl × Unit) =>
  storeD Tryz.prog 196 a1 (Value.agg #[(Value.slice t7.1.b t7.1.l t7.1.c), (Value.slice t7.2.1.b t7.2.1.l t7.2.1.c)]) w16 fun w28 =>
  ldN [.slice, .slice] w28 a1 fun (t8 : Sl × Sl × Unit) =>
  Q (t8.1, t8.2.1, ()) w28)) → X2 t3 w15) →
  X2 (()) w11)) → X1 t2 w11) →
  X1 ((0 : Int), ()) w10)
def G_search_grow (t : KTs [.c .ptr, .c .slice, .c .any, .c .any]) (w : World) (K : Value → World → Prop) : Prop := F_search_grow t.1 t.2.1 t.2.2.1 t.2.2.2.1 w fun (r0 : Sl × Sl × Unit) w1 => K (Value.agg #[(Value.slice r0.1.b r0.1.l r0.1.c), (Value.slice r0.2.1.b r0.2.1.l r0.2.1.c)]) w1
abbrev T_search_grow : Tr := fun args w K => decK [.c .ptr, .c .slice, .c .any, .c .any] args fun t => G_search_grow t w K
theorem S_search_grow : Sound Tryz.prog 148 T_search_grow := sound_of (fn := Tryz.f148) Tryz.func148 (by kernel_rfl) mixed (by kernel_rfl) (.s .n (.s .n (.s .n (.s .n (.s (.s .n (.b (.l [(40, .c (.int .i64))] [14, 40, 41, 42, 43, 44, 45, 46, 47, 48, 49, 50, 51, 52, 53, 54, 55, 56, 57, 58, 59, 60] .n))) (.s (.b (.l [] [15, 16, 17, 19, 20, 61, 62, 63, 64, 65, 66, 67, 68, 69, 70, 71, 72, 73, 74, 75, 76, 77, 78, 79, 80, 81, 82, 83, 84, 85, 86, 87, 88, 89, 90, 91, 92, 93, 94, 95, 96, 97, 98, 99, 100, 101, 102, 103, 104, 105, 106, 107, 108, 109, 110, 111] (.s .n (.b (.s .n (.s (.r (.fl 0 (.fl 1 (.fl 2 (.fl 3 (.fl 4 (.fl 5 (.fl 6 (.fl 7 (.fl 8 (.mn 9 (.fl 10 (.mn 11 (.fl 12 (.mn 13 .fin .no)) .no)) .no))))))))))) (.s .n (.b (.l [(86, .c (.int .i64))] [19, 20, 86, 87, 88, 89, 90, 91, 92, 93, 94, 95, 96, 97, 98, 99, 100, 101, 102, 103, 104, 105, 106, 107, 108, 109, 110, 111] .n))))))))) .n)))))) [(39, T_slices_Clone_sint_int), (81, T_net_Net_Len), (116, T_heap_Heap_Push), (117, T_heap_Heap_Len), (118, T_heap_Heap_Pop), (138, T_slices_Repeat_sint_int)] ⟨⟨by kernel_rfl, S_slices_Clone_sint_int⟩, ⟨by kernel_rfl, S_net_Net_Len⟩, ⟨by kernel_rfl, S_heap_Heap_Push⟩, ⟨by kernel_rfl, S_heap_Heap_Len⟩, ⟨by kernel_rfl, S_heap_Heap_Pop⟩, ⟨by kernel_rfl, S_slices_Repeat_sint_int⟩, trivial⟩ [.c .ptr, .c .slice, .c .any, .c .any] (by kernel_rfl) G_search_grow fun t w K => by kernel_rfl

/-- milepost/search.down -/
def F_search_down (l : Option Addr) (to : Sl) (w : World) (Q : (Sl × Sl × Unit) → World → Prop) : Prop :=
  allocD w #[Value.slice none 0 0, Value.slice none 0 0] 196 fun a1 w1 =>
  F_search_grow l to (Value.func (.func 149) #[(Value.pointer l)] #[]) (Value.func (.func 150) #[] #[]) w1 fun (t1 : Sl × Sl × Unit) w2 =>
  storeD Tryz.prog 196 a1 (Value.agg #[(Value.slice t1.1.b t1.1.l t1.1.c), (Value.slice t1.2.1.b t1.2.1.l t1.2.1.c)]) w2 fun w3 =>
  ldN [.slice, .slice] w3 a1 fun (t2 : Sl × Sl × Unit) =>
  Q (t2.1, t2.2.1, ()) w3
def G_search_down (t : KTs [.c .ptr, .c .slice]) (w : World) (K : Value → World → Prop) : Prop := F_search_down t.1 t.2.1 w fun (r0 : Sl × Sl × Unit) w1 => K (Value.agg #[(Value.slice r0.1.b r0.1.l r0.1.c), (Value.slice r0.2.1.b r0.2.1.l r0.2.1.c)]) w1
abbrev T_search_down : Tr := fun args w K => decK [.c .ptr, .c .slice] args fun t => G_search_down t w K
theorem S_search_down : Sound Tryz.prog 136 T_search_down := sound_of (fn := Tryz.f136) Tryz.func136 (by kernel_rfl) mixed (by kernel_rfl) (.n) [(148, T_search_grow)] ⟨⟨by kernel_rfl, S_search_grow⟩, trivial⟩ [.c .ptr, .c .slice] (by kernel_rfl) G_search_down fun t w K => by kernel_rfl

/-- milepost/search.Down -/
def F_search_Down (l : Option Addr) (to : Sl) (w : World) (Q : Sl → World → Prop) : Prop :=
  F_search_down l to w fun (t1 : Sl × Sl × Unit) w1 =>
  Q t1.1 w1
def G_search_Down (t : KTs [.c .ptr, .c .slice]) (w : World) (K : Value → World → Prop) : Prop := F_search_Down t.1 t.2.1 w fun (r0 : Sl) w1 => K (Value.slice r0.b r0.l r0.c) w1
abbrev T_search_Down : Tr := fun args w K => decK [.c .ptr, .c .slice] args fun t => G_search_Down t w K
theorem S_search_Down : Sound Tryz.prog 112 T_search_Down := sound_of (fn := Tryz.f112) Tryz.func112 (by kernel_rfl) mixed (by kernel_rfl) (.n) [(136, T_search_down)] ⟨⟨by kernel_rfl, S_search_down⟩, trivial⟩ [.c .ptr, .c .slice] (by kernel_rfl) G_search_Down fun t w K => by kernel_rfl

/-- milepost/search.down$1 -/
def F_search_down_c1 (a : Int × Int × Int × Int × Unit) (w : World) (Q : Int → World → Prop) : Prop :=
  allocD w #[Value.int .i64 a.1, Value.int .i64 a.2.1, Value.int .i64 a.2.2.1, Value.int .i64 a.2.2.2.1] 91 fun a1 w1 =>
  ld1 (.int .i64) w1 (a1.add 0) fun (x1 : Int) =>
  Q x1 w1
def G_search_down_c1 (t : KTs [.agg [.int .i64, .int .i64, .int .i64, .int .i64]]) (w : World) (K : Value → World → Prop) : Prop := F_search_down_c1 t.1 w fun (r0 : Int) w1 => K (Value.int .i64 r0) w1
abbrev T_search_down_c1 : Tr := fun args w K => decK [.agg [.int .i64, .int .i64, .int .i64, .int .i64]] args fun t => G_search_down_c1 t w K
theorem S_search_down_c1 : Sound Tryz.prog 150 T_search_down_c1 := sound_of (fn := Tryz.f150) Tryz.func150 (by kernel_rfl) mixed (by kernel_rfl) (.n) [] trivial [.agg [.int .i64, .int .i64, .int .i64, .int .i64]] (by kernel_rfl) G_search_down_c1 fun t w K => by kernel_rfl

end Go.Proofs.YtjjgcimlmjnaeaaGreat
