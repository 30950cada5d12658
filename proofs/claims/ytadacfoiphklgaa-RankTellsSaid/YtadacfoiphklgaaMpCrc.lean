/-
  The sum by which bytes are checked, as a law of rows of bits: linear, keeps the parity, loses nothing of four bytes. No program in sight.
-/
import Derived.Test.YtadacfoiphklgaaMpMem
namespace Go.Den
open Go

def poly : BitVec 32 := 2197175160#32
/-- One step. -/
def stepB (c : BitVec 32) : BitVec 32 := (c >>> 1) ^^^ (if c.getLsbD 0 then poly else 0#32)
def steps : Nat → BitVec 32 → BitVec 32
  | 0, c => c
  | n + 1, c => steps n (stepB c)
def stepBy (c : BitVec 32) (b : BitVec 8) : BitVec 32 := steps 8 (c ^^^ b.setWidth 32)
def crcOf (c : BitVec 32) (l : List (BitVec 8)) : BitVec 32 := l.foldl stepBy c
def sumOf (l : List (BitVec 8)) : BitVec 32 := ~~~ crcOf (BitVec.allOnes 32) l

theorem crcOf_append (c : BitVec 32) (l m : List (BitVec 8)) : crcOf c (l ++ m) = crcOf (crcOf c l) m := List.foldl_append ..
theorem crcOf_cons (c : BitVec 32) (b : BitVec 8) (l : List (BitVec 8)) : crcOf c (b :: l) = crcOf (stepBy c b) l := rfl
theorem crcOf_snoc (c : BitVec 32) (l : List (BitVec 8)) (b : BitVec 8) : crcOf c (l ++ [b]) = stepBy (crcOf c l) b := by simp [crcOf]
theorem steps_succ' : ∀ (n : Nat) (c : BitVec 32), steps (n + 1) c = stepB (steps n c)
  | 0, _ => rfl
  | n + 1, c => by rw [steps, steps_succ' n]; rfl
theorem steps_add (m n : Nat) (c : BitVec 32) : steps (m + n) c = steps m (steps n c) := by
  induction m with
  | zero => simp [steps]
  | succ m ih => rw [show m + 1 + n = (m + n) + 1 by omega, steps_succ', steps_succ', ih]

/-! ### Linear -/

theorem stepB_xor (x y : BitVec 32) : stepB (x ^^^ y) = stepB x ^^^ stepB y := by
  unfold stepB
  rw [BitVec.ushiftRight_xor_distrib, BitVec.getLsbD_xor]
  cases hx : x.getLsbD 0 <;> cases hy : y.getLsbD 0 <;> simp
  · rw [BitVec.xor_assoc]
  · rw [BitVec.xor_assoc, BitVec.xor_assoc]; congr 1; rw [BitVec.xor_comm]
  · rw [show x >>> 1 ^^^ poly ^^^ (y >>> 1 ^^^ poly) = x >>> 1 ^^^ y >>> 1 ^^^ (poly ^^^ poly) by ac_rfl]
    simp
theorem steps_xor : ∀ (n : Nat) (x y : BitVec 32), steps n (x ^^^ y) = steps n x ^^^ steps n y
  | 0, _, _ => rfl
  | n + 1, x, y => by rw [steps, stepB_xor, steps_xor n]; rfl
theorem stepBy_xor (x y : BitVec 32) (a b : BitVec 8) : stepBy (x ^^^ y) (a ^^^ b) = stepBy x a ^^^ stepBy y b := by
  unfold stepBy
  rw [← steps_xor, BitVec.setWidth_xor]
  congr 1
  ac_rfl
theorem crcOf_xor : ∀ (l m : List (BitVec 8)) (x y : BitVec 32), l.length = m.length → crcOf (x ^^^ y) (List.zipWith (· ^^^ ·) l m) = crcOf x l ^^^ crcOf y m
  | [], [], _, _, _ => rfl
  | a :: l, b :: m, x, y, h => by
    simp only [List.zipWith_cons_cons, crcOf_cons, stepBy_xor]
    exact crcOf_xor l m _ _ (by simpa using h)
theorem zip_zero : ∀ l : List (BitVec 8), List.zipWith (· ^^^ ·) l (List.replicate l.length 0#8) = l
  | [] => rfl
  | a :: l => by simp [List.replicate_succ, zip_zero l]

/-- Of two rows as long as each other. -/
theorem sumOf_xor (a b : List (BitVec 8)) (h : a.length = b.length) :
    sumOf (List.zipWith (· ^^^ ·) a b) = sumOf a ^^^ sumOf b ^^^ sumOf (List.replicate a.length 0#8) := by
  have h1 := crcOf_xor (List.zipWith (· ^^^ ·) a b) (List.replicate a.length 0#8) (BitVec.allOnes 32 ^^^ BitVec.allOnes 32) (BitVec.allOnes 32) (by simp [h])
  have h2 := crcOf_xor a b (BitVec.allOnes 32) (BitVec.allOnes 32) h
  have hz : List.zipWith (· ^^^ ·) (List.zipWith (· ^^^ ·) a b) (List.replicate a.length 0#8) = List.zipWith (· ^^^ ·) a b := by
    have := zip_zero (List.zipWith (· ^^^ ·) a b)
    rwa [show (List.zipWith (· ^^^ ·) a b).length = a.length by simp [h]] at this
  rw [hz] at h1
  have h3 : (BitVec.allOnes 32 ^^^ BitVec.allOnes 32 ^^^ BitVec.allOnes 32) = BitVec.allOnes 32 := by decide
  rw [h3] at h1
  unfold sumOf
  rw [h1, h2]
  generalize crcOf (BitVec.allOnes 32) a = x
  generalize crcOf (BitVec.allOnes 32) b = y
  generalize crcOf (BitVec.allOnes 32) (List.replicate a.length 0#8) = z
  ext i
  simp

/-! ### Parity -/

def parN : Nat → (Nat → Bool) → Bool
  | 0, _ => false
  | n + 1, f => xor (parN n f) (f n)
def par {w : Nat} (x : BitVec w) : Bool := parN w x.getLsbD
theorem parN_xor (f g : Nat → Bool) : ∀ n, parN n (fun i => xor (f i) (g i)) = xor (parN n f) (parN n g)
  | 0 => rfl
  | n + 1 => by simp only [parN, parN_xor f g n]; cases parN n f <;> cases parN n g <;> cases f n <;> cases g n <;> rfl
theorem parN_congr {f g : Nat → Bool} : ∀ {n}, (∀ i, i < n → f i = g i) → parN n f = parN n g
  | 0, _ => rfl
  | n + 1, h => by simp only [parN]; rw [parN_congr fun i hi => h i (by omega), h n (by omega)]
theorem par_xor {w : Nat} (x y : BitVec w) : par (x ^^^ y) = xor (par x) (par y) := by
  unfold par
  rw [← parN_xor]
  exact parN_congr fun i _ => BitVec.getLsbD_xor
theorem parN_shift (f : Nat → Bool) : ∀ n, parN (n + 1) f = xor (f 0) (parN n fun i => f (i + 1))
  | 0 => by simp [parN]
  | n + 1 => by rw [parN, parN_shift f n, parN]; cases f 0 <;> cases (parN n fun i => f (i + 1)) <;> cases f (n + 1) <;> rfl
theorem par_shift (c : BitVec 32) : par (c >>> 1) = xor (par c) (c.getLsbD 0) := by
  unfold par
  have h1 : parN 32 (c >>> 1).getLsbD = parN 31 (fun i => c.getLsbD (i + 1)) := by
    show xor (parN 31 (c >>> 1).getLsbD) ((c >>> 1).getLsbD 31) = _
    have : (c >>> 1).getLsbD 31 = false := by rw [BitVec.getLsbD_ushiftRight]; exact BitVec.getLsbD_of_ge _ _ (by omega)
    rw [this, Bool.xor_false]
    exact parN_congr fun i _ => by rw [BitVec.getLsbD_ushiftRight, Nat.add_comm]
  rw [h1, show parN 32 c.getLsbD = _ from parN_shift c.getLsbD 31]
  cases c.getLsbD 0 <;> cases (parN 31 fun i => c.getLsbD (i + 1)) <;> rfl
theorem par_poly : par poly = true := by decide
theorem par_stepB (c : BitVec 32) : par (stepB c) = par c := by
  unfold stepB
  rw [par_xor, par_shift]
  cases c.getLsbD 0 <;> simp [par_poly, show par 0#32 = false by decide]
theorem par_steps : ∀ (n : Nat) (c : BitVec 32), par (steps n c) = par c
  | 0, _ => rfl
  | n + 1, c => by rw [steps, par_steps n, par_stepB]
theorem par_widen (b : BitVec 8) : par (b.setWidth 32) = par b := by
  unfold par
  have : ∀ n, parN (8 + n) (b.setWidth 32).getLsbD = parN 8 b.getLsbD := by
    intro n
    induction n with
    | zero => exact parN_congr fun i hi => by simp; omega
    | succ n ih =>
      rw [show 8 + (n + 1) = (8 + n) + 1 by omega, parN, ih]
      have : (b.setWidth 32).getLsbD (8 + n) = false := by simp
      rw [this, Bool.xor_false]
  exact this 24
def parL (l : List (BitVec 8)) : Bool := l.foldr (fun b p => xor (par b) p) false
theorem par_crcOf : ∀ (l : List (BitVec 8)) (c : BitVec 32), par (crcOf c l) = xor (par c) (parL l)
  | [], c => by simp [crcOf, parL]
  | b :: l, c => by
    rw [crcOf_cons, par_crcOf l, stepBy, par_steps, par_xor, par_widen]
    simp only [parL, List.foldr_cons]
    cases par c <;> cases par b <;> simp
/-- Rows of bytes of unlike parity have unlike sums. -/
theorem sumOf_parity {a b : List (BitVec 8)} (h : parL a ≠ parL b) : sumOf a ≠ sumOf b := by
  intro he
  have h1 : crcOf (BitVec.allOnes 32) a = crcOf (BitVec.allOnes 32) b := by
    have := congrArg (fun x => ~~~ x) he
    simpa [sumOf] using this
  have h2 := par_crcOf a (BitVec.allOnes 32)
  rw [h1, par_crcOf b] at h2
  apply h
  revert h2
  cases par (BitVec.allOnes 32) <;> cases parL a <;> cases parL b <;> simp

/-! ### Nothing is lost -/

theorem stepB_inj {x y : BitVec 32} (h : stepB x = stepB y) : x = y := by
  have hz : ∀ z : BitVec 32, stepB z = 0#32 → z = 0#32 := by
    intro z hz
    have h31 : (stepB z).getLsbD 31 = z.getLsbD 0 := by
      unfold stepB
      rw [BitVec.getLsbD_xor, BitVec.getLsbD_ushiftRight, BitVec.getLsbD_of_ge _ _ (by omega)]
      cases z.getLsbD 0 <;> simp <;> decide
    rw [hz] at h31
    have h0 : z.getLsbD 0 = false := by rw [← h31]; simp
    unfold stepB at hz
    rw [h0] at hz
    simp at hz
    apply BitVec.eq_of_getLsbD_eq
    intro i hi
    cases i with
    | zero => rw [h0]; simp
    | succ i =>
      have : (z >>> 1).getLsbD i = (0#32).getLsbD i := by rw [hz]
      rw [BitVec.getLsbD_ushiftRight, Nat.add_comm] at this
      rw [this]; simp
  have h1 : stepB (x ^^^ y) = 0#32 := by rw [stepB_xor, h]; simp
  have h2 := hz _ h1
  exact BitVec.xor_eq_zero_iff.1 h2
theorem steps_inj : ∀ {n : Nat} {x y : BitVec 32}, steps n x = steps n y → x = y
  | 0, _, _, h => h
  | n + 1, _, _, h => stepB_inj (steps_inj (n := n) h)
theorem stepB_low {c : BitVec 32} (h : c.getLsbD 0 = false) : stepB c = c >>> 1 := by unfold stepB; rw [h]; simp
theorem steps_shift (b : BitVec 32) : ∀ n, (∀ i, i < n → b.getLsbD i = false) → steps n b = b >>> n
  | 0, _ => by simp [steps]
  | n + 1, h => by
    rw [steps_succ', steps_shift b n fun i hi => h i (by omega), stepB_low, BitVec.shiftRight_add]
    rw [BitVec.getLsbD_ushiftRight]; exact h n (by omega)
/-- Four bytes at once. -/
theorem crcOf_four (c : BitVec 32) (a b d e : BitVec 8) :
    crcOf c [a, b, d, e] = steps 32 (c ^^^ (a.setWidth 32 ^^^ (b.setWidth 32 <<< 8) ^^^ (d.setWidth 32 <<< 16) ^^^ (e.setWidth 32 <<< 24))) := by
  have key : ∀ (k : Nat) (x : BitVec 8), k ≤ 24 → steps k (x.setWidth 32 <<< k) = x.setWidth 32 := by
    intro k x hk
    rw [steps_shift _ _ fun i hi => by simp; omega]
    apply BitVec.eq_of_getLsbD_eq
    intro i hi
    simp only [BitVec.getLsbD_ushiftRight, BitVec.getLsbD_shiftLeft, BitVec.getLsbD_setWidth]
    by_cases h : k + i < 32
    · simp [h, hi]
    · have : x.getLsbD i = false := BitVec.getLsbD_of_ge _ _ (by omega)
      simp [h, this]
  have e1 : steps 32 (c ^^^ (a.setWidth 32 ^^^ (b.setWidth 32 <<< 8) ^^^ (d.setWidth 32 <<< 16) ^^^ (e.setWidth 32 <<< 24))) =
      steps 32 (c ^^^ a.setWidth 32) ^^^ steps 24 (b.setWidth 32) ^^^ steps 16 (d.setWidth 32) ^^^ steps 8 (e.setWidth 32) := by
    have hb : steps 32 (b.setWidth 32 <<< 8) = steps 24 (b.setWidth 32) := (steps_add 24 8 _).trans (by rw [key 8 b (by omega)])
    have hd : steps 32 (d.setWidth 32 <<< 16) = steps 16 (d.setWidth 32) := (steps_add 16 16 _).trans (by rw [key 16 d (by omega)])
    have he : steps 32 (e.setWidth 32 <<< 24) = steps 8 (e.setWidth 32) := (steps_add 8 24 _).trans (by rw [key 24 e (by omega)])
    rw [← hb, ← hd, ← he, ← steps_xor, ← steps_xor, ← steps_xor]
    have assoc : ∀ p q r s t : BitVec 32, p ^^^ (q ^^^ r ^^^ s ^^^ t) = p ^^^ q ^^^ r ^^^ s ^^^ t := fun p q r s t => by ac_rfl
    exact congrArg (steps 32) (assoc _ _ _ _ _)
  rw [e1]
  show steps 8 (steps 8 (steps 8 (steps 8 (c ^^^ a.setWidth 32) ^^^ b.setWidth 32) ^^^ d.setWidth 32) ^^^ e.setWidth 32) = _
  generalize c ^^^ a.setWidth 32 = u
  generalize b.setWidth 32 = v
  generalize d.setWidth 32 = x
  generalize e.setWidth 32 = y
  have u1 : steps 32 u = steps 8 (steps 24 u) := steps_add 8 24 u
  have u2 : steps 24 u = steps 8 (steps 16 u) := steps_add 8 16 u
  have u3 : steps 16 u = steps 8 (steps 8 u) := steps_add 8 8 u
  have v1 : steps 24 v = steps 8 (steps 16 v) := steps_add 8 16 v
  have v2 : steps 16 v = steps 8 (steps 8 v) := steps_add 8 8 v
  have x1 : steps 16 x = steps 8 (steps 8 x) := steps_add 8 8 x
  rw [u1, u2, u3, v1, v2, x1, steps_xor 8 (steps 8 u) v, steps_xor 8 _ x, steps_xor 8 _ y, steps_xor 8 (steps 8 (steps 8 u)) _, steps_xor 8 _ (steps 8 x), steps_xor 8 _ (steps 8 (steps 8 v))]
/-- Unlike rows of four bytes have unlike sums. -/
theorem sumOf_four {a b d e a' b' d' e' : BitVec 8} (h : sumOf [a, b, d, e] = sumOf [a', b', d', e']) : a = a' ∧ b = b' ∧ d = d' ∧ e = e' := by
  have h1 : crcOf (BitVec.allOnes 32) [a, b, d, e] = crcOf (BitVec.allOnes 32) [a', b', d', e'] := by
    have := congrArg (fun x => ~~~ x) h
    simpa [sumOf] using this
  rw [crcOf_four, crcOf_four] at h1
  have h2 := steps_inj h1
  have h3 := (BitVec.xor_right_inj _).1 h2
  have bit : ∀ i, i < 32 → (a.setWidth 32 ^^^ (b.setWidth 32 <<< 8) ^^^ (d.setWidth 32 <<< 16) ^^^ (e.setWidth 32 <<< 24)).getLsbD i = (a'.setWidth 32 ^^^ (b'.setWidth 32 <<< 8) ^^^ (d'.setWidth 32 <<< 16) ^^^ (e'.setWidth 32 <<< 24)).getLsbD i :=
    fun i _ => by rw [h3]
  simp only [BitVec.getLsbD_xor, BitVec.getLsbD_shiftLeft, BitVec.getLsbD_setWidth] at bit
  have hi : ∀ (x : BitVec 8) i, 8 ≤ i → x.getLsbD i = false := fun x i h => BitVec.getLsbD_of_ge _ _ h
  refine ⟨?_, ?_, ?_, ?_⟩ <;> apply BitVec.eq_of_getLsbD_eq <;> intro i hi8
  · have := bit i (by omega)
    simpa [show i < 32 by omega, show i < 8 by omega, show i < 16 by omega, show i < 24 by omega] using this
  · have := bit (i + 8) (by omega)
    simpa [show i < 32 by omega, show i + 8 < 32 by omega, show ¬ i + 8 < 8 by omega, show i + 8 < 16 by omega, show i + 8 < 24 by omega, hi _ _ (show 8 ≤ i + 8 by omega)] using this
  · have := bit (i + 16) (by omega)
    simpa [show i < 32 by omega, show i + 16 < 32 by omega, show ¬ i + 16 < 8 by omega, show ¬ i + 16 < 16 by omega, show i + 16 < 24 by omega, hi _ _ (show 8 ≤ i + 16 by omega), hi _ _ (show 8 ≤ i + 16 - 8 by omega)] using this
  · have := bit (i + 24) (by omega)
    simpa [show i < 32 by omega, show i + 24 < 32 by omega, show ¬ i + 24 < 8 by omega, show ¬ i + 24 < 16 by omega, show ¬ i + 24 < 24 by omega, hi _ _ (show 8 ≤ i + 24 by omega), hi _ _ (show 8 ≤ i + 24 - 8 by omega), hi _ _ (show 8 ≤ i + 24 - 16 by omega)] using this

/-! ### The words of the code -/

theorem bitsV_and (c d : BitVec 32) : bitsV .and .u32 (c.toNat : Int) (d.toNat : Int) = ((c &&& d).toNat : Int) := by
  show IntKind.wrap .u32 ((BitVec.ofInt 32 (c.toNat : Int) &&& BitVec.ofInt 32 (d.toNat : Int)).toNat : Int) = _
  have hc : BitVec.ofInt 32 (c.toNat : Int) = c := by simp
  have hd : BitVec.ofInt 32 (d.toNat : Int) = d := by simp
  rw [hc, hd, IntKind.wrap_u32]
  have h : (c &&& d).toNat < 4294967296 := (c &&& d).isLt
  omega
theorem bitsV_xor (c d : BitVec 32) : bitsV .xor .u32 (c.toNat : Int) (d.toNat : Int) = ((c ^^^ d).toNat : Int) := by
  show IntKind.wrap .u32 ((BitVec.ofInt 32 (c.toNat : Int) ^^^ BitVec.ofInt 32 (d.toNat : Int)).toNat : Int) = _
  have hc : BitVec.ofInt 32 (c.toNat : Int) = c := by simp
  have hd : BitVec.ofInt 32 (d.toNat : Int) = d := by simp
  rw [hc, hd, IntKind.wrap_u32]
  have h : (c ^^^ d).toNat < 4294967296 := (c ^^^ d).isLt
  omega
theorem shift_one (c : BitVec 32) : Int.fdiv (c.toNat : Int) (2 ^ (min (Int.toNat (1 : Int)) (IntKind.bits .u32))) = ((c >>> 1).toNat : Int) := by
  rw [BitVec.toNat_ushiftRight, Nat.shiftRight_eq_div_pow]
  show Int.fdiv (c.toNat : Int) 2 = ((c.toNat / 2 : Nat) : Int)
  rw [Int.fdiv_eq_ediv_of_nonneg _ (by omega)]
  omega
theorem and_one (c : BitVec 32) : ((c &&& 1#32).toNat : Int) = if c.getLsbD 0 then 1 else 0 := by
  rw [BitVec.toNat_and]
  simp only [BitVec.getLsbD, Nat.testBit_zero]
  have : c.toNat &&& (1#32).toNat = c.toNat % 2 := Nat.and_one_is_mod _
  rw [this]
  rcases Nat.mod_two_eq_zero_or_one c.toNat with h | h <;> simp [h]
theorem stepB_cases (c : BitVec 32) : stepB c = if c.getLsbD 0 then (c >>> 1) ^^^ poly else c >>> 1 := by unfold stepB; split <;> simp

end Go.Den
