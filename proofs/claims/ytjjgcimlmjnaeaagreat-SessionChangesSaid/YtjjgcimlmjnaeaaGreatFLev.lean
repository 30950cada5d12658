import Derived.Test.YtjjgcimlmjnaeaaGreatA1
import Derived.Test.YtjjgcimlmjnaeaaGreatFBase
import Derived.Test.YtjjgcimlmjnaeaaGreatFNet
import Derived.Test.YtjjgcimlmjnaeaaGreatFRank
namespace Go.Proofs.YtjjgcimlmjnaeaaGreat
open Go Go.Den
set_option maxRecDepth 100000
/-- milepost/levels.Build -/
def F_levels_Build (t : Option Addr) (w : World) (Q : (Option Addr) → World → Prop) : Prop :=
  cond (Option.isNone t)
  (Q none w)
  (F_net_Net_Copy t w.drew fun (p1 : Option Addr) w1 =>
  F_net_Net_Len t w1 fun (x1 : Int) w2 =>
  makeSliceD Tryz.prog 54 (Value.int .i64 x1) (Value.int .i64 x1) w2 fun (s1 : Sl) w3 =>
  F_net_Net_Copy t w3 fun (p2 : Option Addr) w4 =>
  F_net_Net_Len t w4 fun (x2 : Int) w5 =>
  makeSliceD Tryz.prog 22 (Value.int .i64 x2) (Value.int .i64 x2) w5 fun (s2 : Sl) w6 =>
  allocD w6 #[Value.pointer p2, Value.slice s2.b s2.l s2.c] 151 fun a1 w7 =>
  F_net_Net_Len t w7 fun (x3 : Int) w8 =>
  ∀ X1 : (Int × Unit) → World → Prop, (∀ (t1 : Int × Unit) (w9 : World), (
  cond (decide (t1.1 < x3))
  (F_rank_First p1 s1 w9 fun (x4 : Int) w10 =>
  F_rank_Shortcuts p1 x4 w10 fun (s3 : Sl) w11 =>
  ∀ X2 : (Int × Unit) → World → Prop, (∀ (t2 : Int × Unit) (w12 : World), (
  cond (decide (t2.1 < ((s3.l : Nat) : Int)))
  ((0 ≤ t2.1 ∧ t2.1 < ((s3.l : Nat) : Int)) ∧
  onSome s3.b fun a2 =>
  ldN [.int .i64, .int .i64, .int .i64, .int .i64] w12 (a2.add (Int.toNat t2.1 * 4)) fun (t3 : Int × Int × Int × Int × Unit) =>
  allocD w12 #[Value.int .i64 (0 : Int), Value.int .i64 (0 : Int), Value.int .i64 (0 : Int), Value.int .i64 (0 : Int)] 91 fun a3 w13 =>
  storeD Tryz.prog 91 a3 (Value.agg #[(Value.int .i64 t3.1), (Value.int .i64 t3.2.1), (Value.int .i64 t3.2.2.1), (Value.int .i64 t3.2.2.2.1)]) w13 fun w14 =>
  ldN [.int .i64, .int .i64, .int .i64, .int .i64] w14 a3 fun (t4 : Int × Int × Int × Int × Unit) =>
  F_net_Net_Put p1 (t4.1, t4.2.1, t4.2.2.1, t4.2.2.2.1, ()) w14 fun (_ : Bool) w15 =>
  ld1 .ptr w15.drew (a1.add 0) fun (p3 : Option Addr) =>
  ldN [.int .i64, .int .i64, .int .i64, .int .i64] w15.drew a3 fun (t5 : Int × Int × Int × Int × Unit) =>
  F_net_Net_Put p3 (t5.1, t5.2.1, t5.2.2.1, t5.2.2.2.1, ()) w15.drew fun (_ : Bool) w16 =>
  X2 ((IntKind.wrap .i64 (t2.1 + (1 : Int))), ()) w16)
  (F_net_Net_Cut p1 x4 w12 fun w17 =>
  ld1 .slice w17 (a1.add 1) fun (s4 : Sl) =>
  (0 ≤ x4 ∧ x4 < ((s4.l : Nat) : Int)) ∧
  onSome s4.b fun a4 =>
  storeD Tryz.prog 3 (a4.add (Int.toNat x4 * 1)) (Value.int .i64 t1.1) w17 fun w18 =>
  (0 ≤ x4 ∧ x4 < ((s1.l : Nat) : Int)) ∧
  onSome s1.b fun a5 =>
  storeD Tryz.prog 4 (a5.add (Int.toNat x4 * 1)) (Value.bool true) w18 fun w19 =>
  X1 ((IntKind.wrap .i64 (t1.1 + (1 : Int))), ()) w19)) → X2 t2 w12) →
  X2 ((0 : Int), ()) w11)
  (Q (some a1) w9)) → X1 t1 w9) →
  X1 ((0 : Int), ()) w8)
def G_levels_Build (t : KTs [.c .ptr]) (w : World) (K : Value → World → Prop) : Prop := F_levels_Build t.1 w fun (r0 : Option Addr) w1 => K (Value.pointer r0) w1
abbrev T_levels_Build : Tr := fun args w K => decK [.c .ptr] args fun t => G_levels_Build t w K
theorem S_levels_Build : Sound Tryz.prog 59 T_levels_Build := sound_of (fn := Tryz.f59) Tryz.func59 (by kernel_rfl) mixed (by kernel_rfl) (.s .n (.s .n (.s (.r (.fl 0 (.fl 2 (.mn 1 (.mn 3 (.fl 5 (.mn 4 (.fl 6 .fin) .no)) .no) .no)))) (.s .n (.s (.s .n (.b (.l [(26, .c (.int .i64))] [6, 7, 9, 26, 27, 28, 29, 30, 31, 32, 33, 34, 35, 36, 37, 38, 39, 40, 41, 42, 43, 44, 45, 46, 47, 48, 49, 50, 51, 52, 53, 54, 55, 56, 57, 58, 59, 60, 61, 62, 63] (.s .n (.s .n (.s (.b (.s .n (.s .n (.s (.s .n (.b (.l [(36, .c (.int .i64))] [9, 36, 37, 38, 39, 40, 41, 42, 43, 44, 45, 46, 47, 48, 49] (.s .n (.s .n (.s (.b (.s .n (.s .n (.r (.fl 0 (.fl 1 (.fl 2 (.fl 3 (.fl 4 (.mn 5 .fin .no)))))))))) .n)))))) .n)))) .n)))))) .n))))) [(78, T_net_Net_Put), (80, T_net_Net_Copy), (81, T_net_Net_Len), (82, T_rank_First), (83, T_rank_Shortcuts), (84, T_net_Net_Cut)] ⟨⟨by kernel_rfl, S_net_Net_Put⟩, ⟨by kernel_rfl, S_net_Net_Copy⟩, ⟨by kernel_rfl, S_net_Net_Len⟩, ⟨by kernel_rfl, S_rank_First⟩, ⟨by kernel_rfl, S_rank_Shortcuts⟩, ⟨by kernel_rfl, S_net_Net_Cut⟩, trivial⟩ [.c .ptr] (by kernel_rfl) G_levels_Build fun t w K => by kernel_rfl

/-- (*milepost/levels.Levels).Rank -/
def F_levels_Levels_Rank (l : Option Addr) (v : Int) (w : World) (Q : Int → World → Prop) : Prop :=
  cond (Option.isNone l)
  (Q (-1 : Int) w)
  (cond (decide (v < (0 : Int)))
  (Q (-1 : Int) w)
  (onSome l fun a1 =>
  ld1 .slice w (a1.add 1) fun (s1 : Sl) =>
  cond (decide (v ≥ ((s1.l : Nat) : Int)))
  (Q (-1 : Int) w)
  (onSome l fun a2 =>
  ld1 .slice w (a2.add 1) fun (s2 : Sl) =>
  (0 ≤ v ∧ v < ((s2.l : Nat) : Int)) ∧
  onSome s2.b fun a3 =>
  ld1 (.int .i64) w (a3.add (Int.toNat v * 1)) fun (x1 : Int) =>
  Q x1 w)))
def G_levels_Levels_Rank (t : KTs [.c .ptr, .c (.int .i64)]) (w : World) (K : Value → World → Prop) : Prop := F_levels_Levels_Rank t.1 t.2.1 w fun (r0 : Int) w1 => K (Value.int .i64 r0) w1
abbrev T_levels_Levels_Rank : Tr := fun args w K => decK [.c .ptr, .c (.int .i64)] args fun t => G_levels_Levels_Rank t w K
theorem S_levels_Levels_Rank : Sound Tryz.prog 60 T_levels_Levels_Rank := sound_of (fn := Tryz.f60) Tryz.func60 (by kernel_rfl) mixed (by kernel_rfl) (.n) [] trivial [.c .ptr, .c (.int .i64)] (by kernel_rfl) G_levels_Levels_Rank fun t w K => by kernel_rfl

/-- (*milepost/levels.Levels).Up -/
def F_levels_Levels_Up (l : Option Addr) (v : Int) (w : World) (Q : Sl → World → Prop) : Prop :=
  allocD w #[Value.pointer l] 78 fun a1 w1 =>
  allocD w1 #[Value.int .i64 v] 3 fun a2 w2 =>
  ld1 .ptr w2 a1 fun (p1 : Option Addr) =>
  cond (Option.isNone p1)
  (Q ⟨none, 0, 0⟩ w2)
  (ld1 .ptr w2.drew a1 fun (p2 : Option Addr) =>
  onSome p2 fun a3 =>
  ld1 .ptr w2.drew (a3.add 0) fun (p3 : Option Addr) =>
  ld1 (.int .i64) w2.drew a2 fun (x1 : Int) =>
  F_net_Net_Out p3 x1 w2.drew fun (s1 : Sl) w3 =>
  F_slices_DeleteFunc_sArc_Arc s1 (Value.func (.func 137) #[] #[(Value.pointer (some a1)), (Value.pointer (some a2))]) w3 fun (s2 : Sl) w4 =>
  Q s2 w4)
def G_levels_Levels_Up (t : KTs [.c .ptr, .c (.int .i64)]) (w : World) (K : Value → World → Prop) : Prop := F_levels_Levels_Up t.1 t.2.1 w fun (r0 : Sl) w1 => K (Value.slice r0.b r0.l r0.c) w1
abbrev T_levels_Levels_Up : Tr := fun args w K => decK [.c .ptr, .c (.int .i64)] args fun t => G_levels_Levels_Up t w K
theorem S_levels_Levels_Up : Sound Tryz.prog 114 T_levels_Levels_Up := sound_of (fn := Tryz.f114) Tryz.func114 (by kernel_rfl) mixed (by kernel_rfl) (.s .n (.s .n (.s (.r (.fl 0 (.fl 1 (.fl 2 (.fl 3 (.fl 4 (.fl 6 (.mn 5 (.mn 7 (.fl 8 .fin) .no) .no)))))))) .n))) [(56, T_slices_DeleteFunc_sArc_Arc), (106, T_net_Net_Out)] ⟨⟨by kernel_rfl, S_slices_DeleteFunc_sArc_Arc⟩, ⟨by kernel_rfl, S_net_Net_Out⟩, trivial⟩ [.c .ptr, .c (.int .i64)] (by kernel_rfl) G_levels_Levels_Up fun t w K => by kernel_rfl

/-- (*milepost/levels.Levels).Up$1 -/
def F_levels_Levels_Up_c1 (a : Int × Int × Int × Int × Unit) (cap0 : Option Addr) (cap1 : Option Addr) (w : World) (Q : Bool → World → Prop) : Prop :=
  allocD w #[Value.int .i64 a.1, Value.int .i64 a.2.1, Value.int .i64 a.2.2.1, Value.int .i64 a.2.2.2.1] 91 fun a1 w1 =>
  onSome cap0 fun a2 =>
  ld1 .ptr w1.drew a2 fun (p1 : Option Addr) =>
  ld1 (.int .i64) w1.drew (a1.add 1) fun (x1 : Int) =>
  onSome cap0 fun a3 =>
  ld1 .ptr w1.drew a3 fun (p2 : Option Addr) =>
  onSome cap1 fun a4 =>
  ld1 (.int .i64) w1.drew a4 fun (x2 : Int) =>
  F_levels_Levels_Rank p1 x1 w1.drew fun (x3 : Int) w2 =>
  w2.cell? a4 = some (Value.int .i64 x2) ∧
  w2.cell? a3 = some (Value.pointer p2) ∧
  F_levels_Levels_Rank p2 x2 w2 fun (x4 : Int) w3 =>
  Q (decide (x3 ≤ x4)) w3
def G_levels_Levels_Up_c1 (t : KTs [.agg [.int .i64, .int .i64, .int .i64, .int .i64], .c .ptr, .c .ptr]) (w : World) (K : Value → World → Prop) : Prop := F_levels_Levels_Up_c1 t.1 t.2.1 t.2.2.1 w fun (r0 : Bool) w1 => K (Value.bool r0) w1
abbrev T_levels_Levels_Up_c1 : Tr := fun args w K => decK [.agg [.int .i64, .int .i64, .int .i64, .int .i64], .c .ptr, .c .ptr] args fun t => G_levels_Levels_Up_c1 t w K
theorem S_levels_Levels_Up_c1 : Sound Tryz.prog 137 T_levels_Levels_Up_c1 := sound_of (fn := Tryz.f137) Tryz.func137 (by kernel_rfl) mixed (by kernel_rfl) (.s .n (.s (.r (.fl 0 (.fl 1 (.fl 2 (.fl 4 (.fl 5 (.mn 3 (.mn 6 (.fl 7 (.fl 8 .fin)) .no) .no))))))) .n)) [(60, T_levels_Levels_Rank)] ⟨⟨by kernel_rfl, S_levels_Levels_Rank⟩, trivial⟩ [.agg [.int .i64, .int .i64, .int .i64, .int .i64], .c .ptr, .c .ptr] (by kernel_rfl) G_levels_Levels_Up_c1 fun t w K => by kernel_rfl

/-- (*milepost/levels.Levels).Down -/
def F_levels_Levels_Down (l : Option Addr) (v : Int) (w : World) (Q : Sl → World → Prop) : Prop :=
  allocD w #[Value.pointer l] 78 fun a1 w1 =>
  allocD w1 #[Value.int .i64 v] 3 fun a2 w2 =>
  ld1 .ptr w2 a1 fun (p1 : Option Addr) =>
  cond (Option.isNone p1)
  (Q ⟨none, 0, 0⟩ w2)
  (ld1 .ptr w2.drew a1 fun (p2 : Option Addr) =>
  onSome p2 fun a3 =>
  ld1 .ptr w2.drew (a3.add 0) fun (p3 : Option Addr) =>
  ld1 (.int .i64) w2.drew a2 fun (x1 : Int) =>
  F_net_Net_In p3 x1 w2.drew fun (s1 : Sl) w3 =>
  F_slices_DeleteFunc_sArc_Arc s1 (Value.func (.func 158) #[] #[(Value.pointer (some a1)), (Value.pointer (some a2))]) w3 fun (s2 : Sl) w4 =>
  Q s2 w4)
def G_levels_Levels_Down (t : KTs [.c .ptr, .c (.int .i64)]) (w : World) (K : Value → World → Prop) : Prop := F_levels_Levels_Down t.1 t.2.1 w fun (r0 : Sl) w1 => K (Value.slice r0.b r0.l r0.c) w1
abbrev T_levels_Levels_Down : Tr := fun args w K => decK [.c .ptr, .c (.int .i64)] args fun t => G_levels_Levels_Down t w K
theorem S_levels_Levels_Down : Sound Tryz.prog 149 T_levels_Levels_Down := sound_of (fn := Tryz.f149) Tryz.func149 (by kernel_rfl) mixed (by kernel_rfl) (.s .n (.s .n (.s (.r (.fl 0 (.fl 1 (.fl 2 (.fl 3 (.fl 4 (.fl 6 (.mn 5 (.mn 7 (.fl 8 .fin) .no) .no)))))))) .n))) [(56, T_slices_DeleteFunc_sArc_Arc), (107, T_net_Net_In)] ⟨⟨by kernel_rfl, S_slices_DeleteFunc_sArc_Arc⟩, ⟨by kernel_rfl, S_net_Net_In⟩, trivial⟩ [.c .ptr, .c (.int .i64)] (by kernel_rfl) G_levels_Levels_Down fun t w K => by kernel_rfl

/-- (*milepost/levels.Levels).Down$1 -/
def F_levels_Levels_Down_c1 (a : Int × Int × Int × Int × Unit) (cap0 : Option Addr) (cap1 : Option Addr) (w : World) (Q : Bool → World → Prop) : Prop :=
  allocD w #[Value.int .i64 a.1, Value.int .i64 a.2.1, Value.int .i64 a.2.2.1, Value.int .i64 a.2.2.2.1] 91 fun a1 w1 =>
  onSome cap0 fun a2 =>
  ld1 .ptr w1.drew a2 fun (p1 : Option Addr) =>
  ld1 (.int .i64) w1.drew (a1.add 0) fun (x1 : Int) =>
  onSome cap0 fun a3 =>
  ld1 .ptr w1.drew a3 fun (p2 : Option Addr) =>
  onSome cap1 fun a4 =>
  ld1 (.int .i64) w1.drew a4 fun (x2 : Int) =>
  F_levels_Levels_Rank p1 x1 w1.drew fun (x3 : Int) w2 =>
  w2.cell? a4 = some (Value.int .i64 x2) ∧
  w2.cell? a3 = some (Value.pointer p2) ∧
  F_levels_Levels_Rank p2 x2 w2 fun (x4 : Int) w3 =>
  Q (decide (x3 ≤ x4)) w3
def G_levels_Levels_Down_c1 (t : KTs [.agg [.int .i64, .int .i64, .int .i64, .int .i64], .c .ptr, .c .ptr]) (w : World) (K : Value → World → Prop) : Prop := F_levels_Levels_Down_c1 t.1 t.2.1 t.2.2.1 w fun (r0 : Bool) w1 => K (Value.bool r0) w1
abbrev T_levels_Levels_Down_c1 : Tr := fun args w K => decK [.agg [.int .i64, .int .i64, .int .i64, .int .i64], .c .ptr, .c .ptr] args fun t => G_levels_Levels_Down_c1 t w K
theorem S_levels_Levels_Down_c1 : Sound Tryz.prog 158 T_levels_Levels_Down_c1 := sound_of (fn := Tryz.f158) Tryz.func158 (by kernel_rfl) mixed (by kernel_rfl) (.s .n (.s (.r (.fl 0 (.fl 1 (.fl 2 (.fl 4 (.fl 5 (.mn 3 (.mn 6 (.fl 7 (.fl 8 .fin)) .no) .no))))))) .n)) [(60, T_levels_Levels_Rank)] ⟨⟨by kernel_rfl, S_levels_Levels_Rank⟩, trivial⟩ [.agg [.int .i64, .int .i64, .int .i64, .int .i64], .c .ptr, .c .ptr] (by kernel_rfl) G_levels_Levels_Down_c1 fun t w K => by kernel_rfl

end Go.Proofs.YtjjgcimlmjnaeaaGreat
