import Derived.Test.YtjjgcimlmjnaeaaGreatA1
import Derived.Test.YtjjgcimlmjnaeaaGreatFBase
import Derived.Test.YtjjgcimlmjnaeaaGreatFNet
namespace Go.Proofs.YtjjgcimlmjnaeaaGreat
open Go Go.Den
set_option maxRecDepth 100000
/-- milepost/milepostref4.NewShuts -/
def F_ref4_NewShuts (n : Int) (w : World) (Q : (Option Addr) → World → Prop) : Prop :=
  F_ref4_within n (0 : Int) (512 : Int) w fun (b1 : Bool) w1 =>
  cond (!b1)
  (Q none w1)
  (makeSliceD Tryz.prog 22 (Value.int .i64 n) (Value.int .i64 n) w1 fun (s1 : Sl) w2 =>
  allocD w2 #[Value.slice s1.b s1.l s1.c] 99 fun a1 w3 =>
  Q (some a1) w3)
def G_ref4_NewShuts (t : KTs [.c (.int .i64)]) (w : World) (K : Value → World → Prop) : Prop := F_ref4_NewShuts t.1 w fun (r0 : Option Addr) w1 => K (Value.pointer r0) w1
abbrev T_ref4_NewShuts : Tr := fun args w K => decK [.c (.int .i64)] args fun t => G_ref4_NewShuts t w K
theorem S_ref4_NewShuts : Sound Tryz.prog 18 T_ref4_NewShuts := sound_of (fn := Tryz.f18) Tryz.func18 (by kernel_rfl) mixed (by kernel_rfl) (.n) [(40, T_ref4_within)] ⟨⟨by kernel_rfl, S_ref4_within⟩, trivial⟩ [.c (.int .i64)] (by kernel_rfl) G_ref4_NewShuts fun t w K => by kernel_rfl

/-- (*milepost/milepostref4.Shuts).Mask -/
def F_ref4_Shuts_Mask (s : Option Addr) (w : World) (Q : Sl → World → Prop) : Prop :=
  onSome s fun a1 =>
  ld1 .slice w (a1.add 0) fun (s1 : Sl) =>
  makeSliceD Tryz.prog 54 (Value.int .i64 ((s1.l : Nat) : Int)) (Value.int .i64 ((s1.l : Nat) : Int)) w fun (s2 : Sl) w1 =>
  ∀ X1 : (Int × Unit) → World → Prop, (∀ (t1 : Int × Unit) (w2 : World), (
  onSome s fun a2 =>
  ld1 .slice w2 (a2.add 0) fun (s3 : Sl) =>
  cond (decide (t1.1 < ((s3.l : Nat) : Int)))
  (onSome s fun a3 =>
  ld1 .slice w2 (a3.add 0) fun (s4 : Sl) =>
  (0 ≤ t1.1 ∧ t1.1 < ((s4.l : Nat) : Int)) ∧
  onSome s4.b fun a4 =>
  ld1 (.int .i64) w2 (a4.add (Int.toNat t1.1 * 1)) fun (x1 : Int) =>
  (0 ≤ t1.1 ∧ t1.1 < ((s2.l : Nat) : Int)) ∧
  onSome s2.b fun a5 =>
  storeD Tryz.prog 4 (a5.add (Int.toNat t1.1 * 1)) (Value.bool (x1 != (0 : Int))) w2 fun w3 =>
  X1 ((IntKind.wrap .i64 (t1.1 + (1 : Int))), ()) w3)
  (Q s2 w2)) → X1 t1 w2) →
  X1 ((0 : Int), ()) w1
def G_ref4_Shuts_Mask (t : KTs [.c .ptr]) (w : World) (K : Value → World → Prop) : Prop := F_ref4_Shuts_Mask t.1 w fun (r0 : Sl) w1 => K (Value.slice r0.b r0.l r0.c) w1
abbrev T_ref4_Shuts_Mask : Tr := fun args w K => decK [.c .ptr] args fun t => G_ref4_Shuts_Mask t w K
theorem S_ref4_Shuts_Mask : Sound Tryz.prog 19 T_ref4_Shuts_Mask := sound_of (fn := Tryz.f19) Tryz.func19 (by kernel_rfl) mixed (by kernel_rfl) (.s .n (.s .n (.s (.s .n (.b (.l [(4, .c (.int .i64))] [4, 11, 12, 13, 14, 15, 16, 17, 18, 19, 20, 21, 22, 23, 24, 25, 26, 27, 28, 29, 30] .n))) .n))) [] trivial [.c .ptr] (by kernel_rfl) G_ref4_Shuts_Mask fun t w K => by kernel_rfl

/-- milepost/milepostref4.listed -/
def F_ref4_listed (l : Sl) (w : World) (Q : Sl → World → Prop) : Prop :=
  ∀ X1 : (Sl × Int × Unit) → World → Prop, (∀ (t1 : Sl × Int × Unit) (w1 : World), (
  cond (decide (t1.2.1 < ((l.l : Nat) : Int)))
  ((0 ≤ t1.2.1 ∧ t1.2.1 < ((l.l : Nat) : Int)) ∧
  onSome l.b fun a1 =>
  ld1 .bool w1 (a1.add (Int.toNat t1.2.1 * 1)) fun (b1 : Bool) =>
  cond b1
  (allocD w1 #[Value.int .i64 t1.2.1] 3 fun a2 w2 =>
  appendD Tryz.prog 22 22 t1.1 (Value.slice (some a2) 1 1) w2 fun (s1 : Sl) w3 =>
  X1 (s1, (IntKind.wrap .i64 (t1.2.1 + (1 : Int))), ()) w3)
  (X1 (t1.1, (IntKind.wrap .i64 (t1.2.1 + (1 : Int))), ()) w1))
  (Q t1.1 w1)) → X1 t1 w1) →
  X1 (⟨none, 0, 0⟩, (0 : Int), ()) w
def G_ref4_listed (t : KTs [.c .slice]) (w : World) (K : Value → World → Prop) : Prop := F_ref4_listed t.1 w fun (r0 : Sl) w1 => K (Value.slice r0.b r0.l r0.c) w1
abbrev T_ref4_listed : Tr := fun args w K => decK [.c .slice] args fun t => G_ref4_listed t w K
theorem S_ref4_listed : Sound Tryz.prog 46 T_ref4_listed := sound_of (fn := Tryz.f46) Tryz.func46 (by kernel_rfl) mixed (by kernel_rfl) (.s .n (.s .n (.s (.s .n (.b (.l [(3, .c .slice), (4, .c (.int .i64))] [3, 4, 5, 6, 7, 8, 9, 10, 11, 12, 13, 14, 15, 16, 17, 18] .n))) .n))) [] trivial [.c .slice] (by kernel_rfl) G_ref4_listed fun t w K => by kernel_rfl

/-- (*milepost/milepostref4.Shuts).Close -/
def F_ref4_Shuts_Close (s : Option Addr) (until_ : Int) (l : Sl) (w : World) (Q : Sl → Int → World → Prop) : Prop :=
  F_ref4_within until_ (1 : Int) (1099511627776 : Int) w fun (b1 : Bool) w1 =>
  cond (!b1)
  (Q ⟨none, 0, 0⟩ (1 : Int) w1)
  (∀ X1 : (Int × Unit) → World → Prop, (∀ (t1 : Int × Unit) (w2 : World), (
  cond (decide (t1.1 < ((l.l : Nat) : Int)))
  ((0 ≤ t1.1 ∧ t1.1 < ((l.l : Nat) : Int)) ∧
  onSome l.b fun a1 =>
  ld1 (.int .i64) w2.drew (a1.add (Int.toNat t1.1 * 1)) fun (x1 : Int) =>
  onSome s fun a2 =>
  ld1 .slice w2.drew (a2.add 0) fun (s1 : Sl) =>
  F_ref4_within x1 (0 : Int) (IntKind.wrap .i64 (((s1.l : Nat) : Int) - (1 : Int))) w2.drew fun (b2 : Bool) w3 =>
  cond (!b2)
  (Q ⟨none, 0, 0⟩ (1 : Int) w3)
  (X1 ((IntKind.wrap .i64 (t1.1 + (1 : Int))), ()) w3))
  (onSome s fun a3 =>
  ld1 .slice w2 (a3.add 0) fun (s2 : Sl) =>
  makeSliceD Tryz.prog 54 (Value.int .i64 ((s2.l : Nat) : Int)) (Value.int .i64 ((s2.l : Nat) : Int)) w2 fun (s3 : Sl) w4 =>
  ∀ X2 : (Int × Unit) → World → Prop, (∀ (t2 : Int × Unit) (w5 : World), (
  cond (decide (t2.1 < ((l.l : Nat) : Int)))
  ((0 ≤ t2.1 ∧ t2.1 < ((l.l : Nat) : Int)) ∧
  onSome l.b fun a4 =>
  ld1 (.int .i64) w5.drew (a4.add (Int.toNat t2.1 * 1)) fun (x2 : Int) =>
  (0 ≤ t2.1 ∧ t2.1 < ((l.l : Nat) : Int)) ∧
  onSome l.b fun a5 =>
  ld1 (.int .i64) w5.drew (a5.add (Int.toNat t2.1 * 1)) fun (x3 : Int) =>
  (0 ≤ x3 ∧ x3 < ((s3.l : Nat) : Int)) ∧
  onSome s3.b fun a6 =>
  ld1 .bool w5.drew (a6.add (Int.toNat x3 * 1)) fun (b3 : Bool) =>
  cond b3
  ((0 ≤ x2 ∧ x2 < ((s3.l : Nat) : Int)) ∧
  onSome s3.b fun a7 =>
  storeD Tryz.prog 4 (a7.add (Int.toNat x2 * 1)) (Value.bool true) w5.drew fun w6 =>
  onSome s fun a8 =>
  ld1 .slice w6.drew (a8.add 0) fun (s4 : Sl) =>
  (0 ≤ t2.1 ∧ t2.1 < ((l.l : Nat) : Int)) ∧
  onSome l.b fun a9 =>
  ld1 (.int .i64) w6.drew (a9.add (Int.toNat t2.1 * 1)) fun (x4 : Int) =>
  (0 ≤ x4 ∧ x4 < ((s4.l : Nat) : Int)) ∧
  onSome s4.b fun a10 =>
  storeD Tryz.prog 3 (a10.add (Int.toNat x4 * 1)) (Value.int .i64 until_) w6.drew fun w7 =>
  X2 ((IntKind.wrap .i64 (t2.1 + (1 : Int))), ()) w7)
  (onSome s fun a11 =>
  ld1 .slice w5.drew (a11.add 0) fun (s5 : Sl) =>
  (0 ≤ t2.1 ∧ t2.1 < ((l.l : Nat) : Int)) ∧
  onSome l.b fun a12 =>
  ld1 (.int .i64) w5.drew (a12.add (Int.toNat t2.1 * 1)) fun (x5 : Int) =>
  (0 ≤ x5 ∧ x5 < ((s5.l : Nat) : Int)) ∧
  onSome s5.b fun a13 =>
  ld1 (.int .i64) w5.drew (a13.add (Int.toNat x5 * 1)) fun (x6 : Int) =>
  (0 ≤ x2 ∧ x2 < ((s3.l : Nat) : Int)) ∧
  onSome s3.b fun a14 =>
  storeD Tryz.prog 4 (a14.add (Int.toNat x2 * 1)) (Value.bool (x6 == (0 : Int))) w5.drew fun w8 =>
  onSome s fun a15 =>
  ld1 .slice w8.drew (a15.add 0) fun (s6 : Sl) =>
  (0 ≤ t2.1 ∧ t2.1 < ((l.l : Nat) : Int)) ∧
  onSome l.b fun a16 =>
  ld1 (.int .i64) w8.drew (a16.add (Int.toNat t2.1 * 1)) fun (x7 : Int) =>
  (0 ≤ x7 ∧ x7 < ((s6.l : Nat) : Int)) ∧
  onSome s6.b fun a17 =>
  storeD Tryz.prog 3 (a17.add (Int.toNat x7 * 1)) (Value.int .i64 until_) w8.drew fun w9 =>
  X2 ((IntKind.wrap .i64 (t2.1 + (1 : Int))), ()) w9))
  (F_ref4_listed s3 w5 fun (s7 : Sl) w10 =>
  Q s7 (0 : Int) w10)) → X2 t2 w5) →
  X2 ((0 : Int), ()) w4)) → X1 t1 w2) →
  X1 ((0 : Int), ()) w1)
def G_ref4_Shuts_Close (t : KTs [.c .ptr, .c (.int .i64), .c .slice]) (w : World) (K : Value → World → Prop) : Prop := F_ref4_Shuts_Close t.1 t.2.1 t.2.2.1 w fun (r0 : Sl) (r1 : Int) w1 => K (Value.tuple #[(Value.slice r0.b r0.l r0.c), (Value.int .i64 r1)]) w1
abbrev T_ref4_Shuts_Close : Tr := fun args w K => decK [.c .ptr, .c (.int .i64), .c .slice] args fun t => G_ref4_Shuts_Close t w K
theorem S_ref4_Shuts_Close : Sound Tryz.prog 23 T_ref4_Shuts_Close := sound_of (fn := Tryz.f23) Tryz.func23 (by kernel_rfl) mixed (by kernel_rfl) (.s .n (.s .n (.s (.s .n (.b (.l [(8, .c (.int .i64))] [6, 7, 8, 14, 15, 16, 17, 18, 19, 20, 21, 22, 23, 24, 25, 26, 27, 28, 29, 30, 31] (.s .n (.s (.b (.s (.r (.fl 0 (.fl 1 (.fl 2 (.fl 3 (.fl 4 (.fl 5 (.fl 6 (.fl 7 (.fl 8 (.fl 9 (.mn 10 (.fl 11 .fin) .no)))))))))))) .n)) .n))))) (.s .n (.s (.s .n (.b (.l [(10, .c (.int .i64))] [10, 38, 39, 40, 41, 42, 43, 44, 45, 46, 47, 48, 49, 50, 51, 52, 53, 54, 55, 56, 57, 58, 59, 60, 61, 62, 63, 64, 65, 66, 67, 68, 69, 70, 71, 72, 73, 74, 75, 76, 77, 78, 79] (.s .n (.s (.b (.s (.r (.fl 0 (.fl 1 (.fl 2 (.fl 3 (.fl 4 (.fl 5 (.fl 6 (.fl 7 (.fl 8 (.fl 9 (.fl 10 (.fl 11 (.fl 12 (.fl 13 (.fl 14 (.fl 15 (.fl 16 (.fl 17 (.fl 18 (.fl 19 (.fl 20 (.fl 21 (.fl 22 (.fl 23 (.fl 24 (.fl 25 (.mn 26 .fin .no)))))))))))))))))))))))))))) (.r (.fl 0 (.fl 1 (.fl 2 (.fl 3 (.fl 4 (.fl 5 (.fl 6 (.fl 7 (.fl 8 (.fl 9 (.mn 10 .fin .no)))))))))))))) .n))))) .n))))) [(40, T_ref4_within), (46, T_ref4_listed)] ⟨⟨by kernel_rfl, S_ref4_within⟩, ⟨by kernel_rfl, S_ref4_listed⟩, trivial⟩ [.c .ptr, .c (.int .i64), .c .slice] (by kernel_rfl) G_ref4_Shuts_Close fun t w K => by kernel_rfl

/-- (*milepost/milepostref4.Shuts).Open -/
def F_ref4_Shuts_Open (s : Option Addr) (l : Sl) (w : World) (Q : Sl → Int → World → Prop) : Prop :=
  ∀ X1 : (Int × Unit) → World → Prop, (∀ (t1 : Int × Unit) (w1 : World), (
  cond (decide (t1.1 < ((l.l : Nat) : Int)))
  ((0 ≤ t1.1 ∧ t1.1 < ((l.l : Nat) : Int)) ∧
  onSome l.b fun a1 =>
  ld1 (.int .i64) w1.drew (a1.add (Int.toNat t1.1 * 1)) fun (x1 : Int) =>
  onSome s fun a2 =>
  ld1 .slice w1.drew (a2.add 0) fun (s1 : Sl) =>
  F_ref4_within x1 (0 : Int) (IntKind.wrap .i64 (((s1.l : Nat) : Int) - (1 : Int))) w1.drew fun (b1 : Bool) w2 =>
  cond (!b1)
  (Q ⟨none, 0, 0⟩ (1 : Int) w2)
  (X1 ((IntKind.wrap .i64 (t1.1 + (1 : Int))), ()) w2))
  (onSome s fun a3 =>
  ld1 .slice w1 (a3.add 0) fun (s2 : Sl) =>
  makeSliceD Tryz.prog 54 (Value.int .i64 ((s2.l : Nat) : Int)) (Value.int .i64 ((s2.l : Nat) : Int)) w1 fun (s3 : Sl) w3 =>
  ∀ X2 : (Int × Unit) → World → Prop, (∀ (t2 : Int × Unit) (w4 : World), (
  cond (decide (t2.1 < ((l.l : Nat) : Int)))
  ((0 ≤ t2.1 ∧ t2.1 < ((l.l : Nat) : Int)) ∧
  onSome l.b fun a4 =>
  ld1 (.int .i64) w4.drew (a4.add (Int.toNat t2.1 * 1)) fun (x2 : Int) =>
  (0 ≤ t2.1 ∧ t2.1 < ((l.l : Nat) : Int)) ∧
  onSome l.b fun a5 =>
  ld1 (.int .i64) w4.drew (a5.add (Int.toNat t2.1 * 1)) fun (x3 : Int) =>
  (0 ≤ x3 ∧ x3 < ((s3.l : Nat) : Int)) ∧
  onSome s3.b fun a6 =>
  ld1 .bool w4.drew (a6.add (Int.toNat x3 * 1)) fun (b2 : Bool) =>
  cond b2
  ((0 ≤ x2 ∧ x2 < ((s3.l : Nat) : Int)) ∧
  onSome s3.b fun a7 =>
  storeD Tryz.prog 4 (a7.add (Int.toNat x2 * 1)) (Value.bool true) w4.drew fun w5 =>
  onSome s fun a8 =>
  ld1 .slice w5.drew (a8.add 0) fun (s4 : Sl) =>
  (0 ≤ t2.1 ∧ t2.1 < ((l.l : Nat) : Int)) ∧
  onSome l.b fun a9 =>
  ld1 (.int .i64) w5.drew (a9.add (Int.toNat t2.1 * 1)) fun (x4 : Int) =>
  (0 ≤ x4 ∧ x4 < ((s4.l : Nat) : Int)) ∧
  onSome s4.b fun a10 =>
  storeD Tryz.prog 3 (a10.add (Int.toNat x4 * 1)) (Value.int .i64 (0 : Int)) w5.drew fun w6 =>
  X2 ((IntKind.wrap .i64 (t2.1 + (1 : Int))), ()) w6)
  (onSome s fun a11 =>
  ld1 .slice w4.drew (a11.add 0) fun (s5 : Sl) =>
  (0 ≤ t2.1 ∧ t2.1 < ((l.l : Nat) : Int)) ∧
  onSome l.b fun a12 =>
  ld1 (.int .i64) w4.drew (a12.add (Int.toNat t2.1 * 1)) fun (x5 : Int) =>
  (0 ≤ x5 ∧ x5 < ((s5.l : Nat) : Int)) ∧
  onSome s5.b fun a13 =>
  ld1 (.int .i64) w4.drew (a13.add (Int.toNat x5 * 1)) fun (x6 : Int) =>
  (0 ≤ x2 ∧ x2 < ((s3.l : Nat) : Int)) ∧
  onSome s3.b fun a14 =>
  storeD Tryz.prog 4 (a14.add (Int.toNat x2 * 1)) (Value.bool (x6 != (0 : Int))) w4.drew fun w7 =>
  onSome s fun a15 =>
  ld1 .slice w7.drew (a15.add 0) fun (s6 : Sl) =>
  (0 ≤ t2.1 ∧ t2.1 < ((l.l : Nat) : Int)) ∧
  onSome l.b fun a16 =>
  ld1 (.int .i64) w7.drew (a16.add (Int.toNat t2.1 * 1)) fun (x7 : Int) =>
  (0 ≤ x7 ∧ x7 < ((s6.l : Nat) : Int)) ∧
  onSome s6.b fun a17 =>
  storeD Tryz.prog 3 (a17.add (Int.toNat x7 * 1)) (Value.int .i64 (0 : Int)) w7.drew fun w8 =>
  X2 ((IntKind.wrap .i64 (t2.1 + (1 : Int))), ()) w8))
  (F_ref4_listed s3 w4 fun (s7 : Sl) w9 =>
  Q s7 (0 : Int) w9)) → X2 t2 w4) →
  X2 ((0 : Int), ()) w3)) → X1 t1 w1) →
  X1 ((0 : Int), ()) w
def G_ref4_Shuts_Open (t : KTs [.c .ptr, .c .slice]) (w : World) (K : Value → World → Prop) : Prop := F_ref4_Shuts_Open t.1 t.2.1 w fun (r0 : Sl) (r1 : Int) w1 => K (Value.tuple #[(Value.slice r0.b r0.l r0.c), (Value.int .i64 r1)]) w1
abbrev T_ref4_Shuts_Open : Tr := fun args w K => decK [.c .ptr, .c .slice] args fun t => G_ref4_Shuts_Open t w K
theorem S_ref4_Shuts_Open : Sound Tryz.prog 26 T_ref4_Shuts_Open := sound_of (fn := Tryz.f26) Tryz.func26 (by kernel_rfl) mixed (by kernel_rfl) (.s .n (.s (.s .n (.b (.l [(6, .c (.int .i64))] [4, 5, 6, 9, 10, 11, 12, 13, 14, 15, 16, 17, 18, 19, 20, 21, 22, 23, 24, 25, 26] (.s .n (.s (.b (.s (.r (.fl 0 (.fl 1 (.fl 2 (.fl 3 (.fl 4 (.fl 5 (.fl 6 (.fl 7 (.fl 8 (.fl 9 (.mn 10 (.fl 11 .fin) .no)))))))))))) .n)) .n))))) (.s .n (.s (.s .n (.b (.l [(8, .c (.int .i64))] [8, 33, 34, 35, 36, 37, 38, 39, 40, 41, 42, 43, 44, 45, 46, 47, 48, 49, 50, 51, 52, 53, 54, 55, 56, 57, 58, 59, 60, 61, 62, 63, 64, 65, 66, 67, 68, 69, 70, 71, 72, 73] (.s .n (.s (.b (.s (.r (.fl 0 (.fl 1 (.fl 2 (.fl 3 (.fl 4 (.fl 5 (.fl 6 (.fl 7 (.fl 8 (.fl 9 (.fl 10 (.fl 11 (.fl 12 (.fl 13 (.fl 14 (.fl 15 (.fl 16 (.fl 17 (.fl 18 (.fl 19 (.fl 20 (.fl 21 (.fl 22 (.fl 23 (.fl 24 (.fl 25 (.mn 26 .fin .no)))))))))))))))))))))))))))) (.r (.fl 0 (.fl 1 (.fl 2 (.fl 3 (.fl 4 (.fl 5 (.fl 6 (.fl 7 (.fl 8 (.mn 9 .fin .no))))))))))))) .n))))) .n)))) [(40, T_ref4_within), (46, T_ref4_listed)] ⟨⟨by kernel_rfl, S_ref4_within⟩, ⟨by kernel_rfl, S_ref4_listed⟩, trivial⟩ [.c .ptr, .c .slice] (by kernel_rfl) G_ref4_Shuts_Open fun t w K => by kernel_rfl

end Go.Proofs.YtjjgcimlmjnaeaaGreat
