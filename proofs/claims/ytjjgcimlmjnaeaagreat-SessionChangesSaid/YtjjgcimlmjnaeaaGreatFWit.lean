import Derived.Test.YtjjgcimlmjnaeaaGreatA1
import Derived.Test.YtjjgcimlmjnaeaaGreatFBase
import Derived.Test.YtjjgcimlmjnaeaaGreatFNet
import Derived.Test.YtjjgcimlmjnaeaaGreatFHeap
namespace Go.Proofs.YtjjgcimlmjnaeaaGreat
open Go Go.Den
set_option maxRecDepth 100000
/-- milepost/witness.has -/
def F_witness_has (t : Option Addr) (v : Int) (w : World) (Q : Bool → World → Prop) : Prop :=
  cond (decide (v ≥ (0 : Int)))
  (F_net_Net_Len t w fun (x1 : Int) w1 =>
  Q (decide (v < x1)) w1)
  (Q false w)
def G_witness_has (t : KTs [.c .ptr, .c (.int .i64)]) (w : World) (K : Value → World → Prop) : Prop := F_witness_has t.1 t.2.1 w fun (r0 : Bool) w1 => K (Value.bool r0) w1
abbrev T_witness_has : Tr := fun args w K => decK [.c .ptr, .c (.int .i64)] args fun t => G_witness_has t w K
theorem S_witness_has : Sound Tryz.prog 133 T_witness_has := sound_of (fn := Tryz.f133) Tryz.func133 (by kernel_rfl) mixed (by kernel_rfl) (.n) [(81, T_net_Net_Len)] ⟨⟨by kernel_rfl, S_net_Net_Len⟩, trivial⟩ [.c .ptr, .c (.int .i64)] (by kernel_rfl) G_witness_has fun t w K => by kernel_rfl

/-- milepost/witness.seek -/
def F_witness_seek (t : Option Addr) (from_ : Int) (without : Int) (done : Value) (w : World) (Q : World → Prop) : Prop :=
  allocD w #[Value.slice none 0 0, Value.map none] 181 fun a1 w1 =>
  mapNewD w1 fun m1 w2 =>
  F_heap_Heap_Push (some a1) from_ (0 : Int) w2 fun (_ : Bool) w3 =>
  ∀ X1 : (Unit) → World → Prop, (∀ (t1 : Unit) (w4 : World), (
  F_heap_Heap_Len (some a1) w4 fun (x1 : Int) w5 =>
  cond (decide (x1 > (0 : Int)))
  (F_heap_Heap_Pop (some a1) w5 fun (x2 : Int) (x3 : Int) (_ : Int) w6 =>
  mapUpdateD Tryz.prog 207 (Value.map (some m1)) (Value.int .i64 x2) (Value.bool true) w6 fun w7 =>
  callV Tryz.prog done [(Value.int .i64 x2), (Value.int .i64 x3)] w7 fun v1 w8 =>
  ∃ b2 : Bool, v1 = (Value.bool b2) ∧
  cond b2
  (Q w8)
  (F_net_Net_Out t x2 w8 fun (s1 : Sl) w9 =>
  ∀ X2 : (Int × Unit) → World → Prop, (∀ (t2 : Int × Unit) (w10 : World), (
  cond (decide (t2.1 < ((s1.l : Nat) : Int)))
  ((0 ≤ t2.1 ∧ t2.1 < ((s1.l : Nat) : Int)) ∧
  onSome s1.b fun a2 =>
  ldN [.int .i64, .int .i64, .int .i64, .int .i64] w10 (a2.add (Int.toNat t2.1 * 4)) fun (t3 : Int × Int × Int × Int × Unit) =>
  allocD w10 #[Value.int .i64 (0 : Int), Value.int .i64 (0 : Int), Value.int .i64 (0 : Int), Value.int .i64 (0 : Int)] 91 fun a3 w11 =>
  storeD Tryz.prog 91 a3 (Value.agg #[(Value.int .i64 t3.1), (Value.int .i64 t3.2.1), (Value.int .i64 t3.2.2.1), (Value.int .i64 t3.2.2.2.1)]) w11 fun w12 =>
  ld1 (.int .i64) w12 (a3.add 1) fun (x5 : Int) =>
  cond (x5 != without)
  (ld1 (.int .i64) w12 (a3.add 1) fun (x6 : Int) =>
  lookup1D Tryz.prog (.c .bool) 207 (Value.map (some m1)) (Value.int .i64 x6) w12 fun (x7 : Bool) w13 =>
  cond (!x7)
  (ld1 (.int .i64) w13 (a3.add 1) fun (x8 : Int) =>
  ld1 (.int .i64) w13 (a3.add 2) fun (x9 : Int) =>
  F_heap_Heap_Push (some a1) x8 (IntKind.wrap .i64 (x3 + x9)) w13 fun (_ : Bool) w14 =>
  X2 ((IntKind.wrap .i64 (t2.1 + (1 : Int))), ()) w14)
  (X2 ((IntKind.wrap .i64 (t2.1 + (1 : Int))), ()) w13))
  (X2 ((IntKind.wrap .i64 (t2.1 + (1 : Int))), ()) w12))
  (X1 (()) w10)) → X2 t2 w10) →
  X2 ((0 : Int), ()) w9))
  (Q w5)) → X1 t1 w4) →
  X1 (()) w3
def G_witness_seek (t : KTs [.c .ptr, .c (.int .i64), .c (.int .i64), .c .any]) (w : World) (K : Value → World → Prop) : Prop := F_witness_seek t.1 t.2.1 t.2.2.1 t.2.2.2.1 w fun  w1 => K (Value.tuple #[]) w1
abbrev T_witness_seek : Tr := fun args w K => decK [.c .ptr, .c (.int .i64), .c (.int .i64), .c .any] args fun t => G_witness_seek t w K
theorem S_witness_seek : Sound Tryz.prog 134 T_witness_seek := sound_of (fn := Tryz.f134) Tryz.func134 (by kernel_rfl) mixed (by kernel_rfl) (.s .n (.s .n (.b (.l [] [10, 11, 12, 14, 21, 22, 23, 24, 25, 26, 27, 28, 29, 30, 31, 32, 33, 34, 35, 36, 37, 38, 39, 40, 41, 42, 43, 44, 45, 46, 47, 48, 49, 50, 51, 52, 53, 54, 55, 56, 57, 58, 59, 60, 61, 62, 63] (.s .n (.b (.s .n (.s .n (.s .n (.s .n (.b (.l [(40, .c (.int .i64))] [14, 40, 41, 42, 43, 44, 45, 46, 47, 48, 49, 50, 51, 52, 53, 54, 55, 56, 57, 58, 59, 60, 61, 62, 63] .n)))))))))))) [(106, T_net_Net_Out), (116, T_heap_Heap_Push), (117, T_heap_Heap_Len), (118, T_heap_Heap_Pop)] ⟨⟨by kernel_rfl, S_net_Net_Out⟩, ⟨by kernel_rfl, S_heap_Heap_Push⟩, ⟨by kernel_rfl, S_heap_Heap_Len⟩, ⟨by kernel_rfl, S_heap_Heap_Pop⟩, trivial⟩ [.c .ptr, .c (.int .i64), .c (.int .i64), .c .any] (by kernel_rfl) G_witness_seek fun t w K => by kernel_rfl

/-- milepost/witness.Find -/
def F_witness_Find (t : Option Addr) (from_ : Int) (to : Int) (without : Int) (most : Int) (settle : Int) (w : World) (Q : Bool → World → Prop) : Prop :=
  allocD w #[Value.int .i64 to] 3 fun a1 w1 =>
  allocD w1 #[Value.int .i64 most] 3 fun a2 w2 =>
  allocD w2 #[Value.int .i64 settle] 3 fun a3 w3 =>
  allocD w3 #[Value.bool false] 4 fun a4 w4 =>
  F_witness_has t from_ w4 fun (b1 : Bool) w5 =>
  cond (!b1)
  (storeD Tryz.prog 4 a4 (Value.bool false) w5 fun w6 =>
  ld1 .bool w6 a4 fun (b2 : Bool) =>
  Q b2 w6)
  (ld1 (.int .i64) w5 a1 fun (x1 : Int) =>
  F_witness_has t x1 w5 fun (b3 : Bool) w7 =>
  cond (!b3)
  (storeD Tryz.prog 4 a4 (Value.bool false) w7 fun w8 =>
  ld1 .bool w8 a4 fun (b4 : Bool) =>
  Q b4 w8)
  (cond (from_ == without)
  (storeD Tryz.prog 4 a4 (Value.bool false) w7 fun w9 =>
  ld1 .bool w9 a4 fun (b5 : Bool) =>
  Q b5 w9)
  (ld1 (.int .i64) w7 a3 fun (x2 : Int) =>
  cond (decide (x2 < (1 : Int)))
  (storeD Tryz.prog 4 a4 (Value.bool false) w7 fun w10 =>
  ld1 .bool w10 a4 fun (b6 : Bool) =>
  Q b6 w10)
  (F_witness_seek t from_ without (Value.func (.func 135) #[] #[(Value.pointer (some a3)), (Value.pointer (some a1)), (Value.pointer (some a2)), (Value.pointer (some a4))]) w7 fun w11 =>
  ld1 .bool w11 a4 fun (b7 : Bool) =>
  storeD Tryz.prog 4 a4 (Value.bool b7) w11 fun w12 =>
  ld1 .bool w12 a4 fun (b8 : Bool) =>
  Q b8 w12))))
def G_witness_Find (t : KTs [.c .ptr, .c (.int .i64), .c (.int .i64), .c (.int .i64), .c (.int .i64), .c (.int .i64)]) (w : World) (K : Value → World → Prop) : Prop := F_witness_Find t.1 t.2.1 t.2.2.1 t.2.2.2.1 t.2.2.2.2.1 t.2.2.2.2.2.1 w fun (r0 : Bool) w1 => K (Value.bool r0) w1
abbrev T_witness_Find : Tr := fun args w K => decK [.c .ptr, .c (.int .i64), .c (.int .i64), .c (.int .i64), .c (.int .i64), .c (.int .i64)] args fun t => G_witness_Find t w K
theorem S_witness_Find : Sound Tryz.prog 108 T_witness_Find := sound_of (fn := Tryz.f108) Tryz.func108 (by kernel_rfl) mixed (by kernel_rfl) (.n) [(133, T_witness_has), (134, T_witness_seek)] ⟨⟨by kernel_rfl, S_witness_has⟩, ⟨by kernel_rfl, S_witness_seek⟩, trivial⟩ [.c .ptr, .c (.int .i64), .c (.int .i64), .c (.int .i64), .c (.int .i64), .c (.int .i64)] (by kernel_rfl) G_witness_Find fun t w K => by kernel_rfl

/-- milepost/witness.Find$1 -/
def F_witness_Find_c1 (v : Int) (d : Int) (cap0 : Option Addr) (cap1 : Option Addr) (cap2 : Option Addr) (cap3 : Option Addr) (w : World) (Q : Bool → World → Prop) : Prop :=
  onSome cap0 fun a1 =>
  ld1 (.int .i64) w a1 fun (x1 : Int) =>
  onSome cap0 fun a2 =>
  storeD Tryz.prog 3 a2 (Value.int .i64 (IntKind.wrap .i64 (x1 - (1 : Int)))) w fun w1 =>
  onSome cap1 fun a3 =>
  ld1 (.int .i64) w1 a3 fun (x2 : Int) =>
  cond (v == x2)
  (onSome cap2 fun a4 =>
  ld1 (.int .i64) w1 a4 fun (x3 : Int) =>
  onSome cap3 fun a5 =>
  storeD Tryz.prog 4 a5 (Value.bool (decide (d ≤ x3))) w1 fun w2 =>
  onSome cap1 fun a6 =>
  ld1 (.int .i64) w2 a6 fun (x4 : Int) =>
  cond (v == x4)
  (Q true w2)
  (onSome cap0 fun a7 =>
  ld1 (.int .i64) w2 a7 fun (x5 : Int) =>
  Q (x5 == (0 : Int)) w2))
  (onSome cap3 fun a8 =>
  storeD Tryz.prog 4 a8 (Value.bool false) w1 fun w3 =>
  onSome cap1 fun a9 =>
  ld1 (.int .i64) w3 a9 fun (x6 : Int) =>
  cond (v == x6)
  (Q true w3)
  (onSome cap0 fun a10 =>
  ld1 (.int .i64) w3 a10 fun (x7 : Int) =>
  Q (x7 == (0 : Int)) w3))
def G_witness_Find_c1 (t : KTs [.c (.int .i64), .c (.int .i64), .c .ptr, .c .ptr, .c .ptr, .c .ptr]) (w : World) (K : Value → World → Prop) : Prop := F_witness_Find_c1 t.1 t.2.1 t.2.2.1 t.2.2.2.1 t.2.2.2.2.1 t.2.2.2.2.2.1 w fun (r0 : Bool) w1 => K (Value.bool r0) w1
abbrev T_witness_Find_c1 : Tr := fun args w K => decK [.c (.int .i64), .c (.int .i64), .c .ptr, .c .ptr, .c .ptr, .c .ptr] args fun t => G_witness_Find_c1 t w K
theorem S_witness_Find_c1 : Sound Tryz.prog 135 T_witness_Find_c1 := sound_of (fn := Tryz.f135) Tryz.func135 (by kernel_rfl) mixed (by kernel_rfl) (.n) [] trivial [.c (.int .i64), .c (.int .i64), .c .ptr, .c .ptr, .c .ptr, .c .ptr] (by kernel_rfl) G_witness_Find_c1 fun t w K => by kernel_rfl

end Go.Proofs.YtjjgcimlmjnaeaaGreat
