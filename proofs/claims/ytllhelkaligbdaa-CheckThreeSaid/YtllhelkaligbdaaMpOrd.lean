/-
  A region that is run in any order: what stands behind each operation, kept by all that comes later, stands at the end.
-/
import Derived.Test.YtllhelkaligbdaaMpMem
namespace Go.Den
open Go

def apartB (ops : Array Oper) : Bool := allLt (fun i => allLt (fun j => Nat.beq i j || match slotOf ops i, slotOf ops j with
  | some a, some b => !Nat.beq a b
  | _, _ => true) ops.size) ops.size
theorem apartB_spec {ops : Array Oper} (h : apartB ops = true) {i j s : Nat} (hi : slotOf ops i = some s) (hj : slotOf ops j = some s) : i = j := by
  have hl : ∀ {i s}, slotOf ops i = some s → i < ops.size := fun {i s} hi => by
    unfold slotOf at hi
    cases ho : ops[i]? with
    | none => rw [ho] at hi; cases hi
    | some op => exact (Array.getElem?_eq_some_iff.1 ho).1
  have := allLt_spec (allLt_spec h i (hl hi)) j (hl hj)
  rw [hi, hj] at this
  by_cases he : i = j
  · exact he
  · have hb : Nat.beq i j = false := by cases hb : Nat.beq i j with
      | false => rfl
      | true => exact absurd (Nat.eq_of_beq_eq_true hb) he
    rw [hb] at this
    simp at this

def Ext (cur cur' : Ent) : Prop := ∀ t x, look cur t = some x → look cur' t = some x
theorem Ext.refl (cur : Ent) : Ext cur cur := fun _ _ h => h

/-! ### By what is seen of the operations -/

structure Sig where
  dst : Option Nat
  op : Op
  guard : Option (Nat × Bool)
  type : TypeId
  deps : List Nat
def sigOf (o : Oper) : Sig := ⟨o.dst, o.op, o.guard, o.type, (o.after.toList.filter fun e => Region.binds .any e).map (·.on)⟩
def isDst (L : List Sig) (s : Nat) : Bool := L.any fun g => match g.dst with
  | some d => Nat.beq d s
  | none => false
def dstAt (L : List Sig) (j : Nat) : Option Nat := match L[j]? with
  | some g => g.dst
  | none => none
def DoneS (L : List Sig) (Post : Nat → Value → World → Prop) (cur : Ent) (w : World) (j : Nat) : Prop := ∃ v, Post j v w ∧ ∀ s, dstAt L j = some s → look cur s = some v
def StepS (C : Ctx) (ops : Array Oper) (i0 : Ent) (L : List Sig) (Post : Nat → Value → World → Prop) (R : World → World → Prop) (Base : World → Prop) (i : Nat) (g : Sig) : Prop :=
  ∀ cur w, Base w → (∀ j ∈ g.deps, DoneS L Post cur w j) → (∀ s, isDst L s = false → look cur s = none) → ∀ (N : Ent → Value → World → Prop) (M : Ent → Prop),
    (∀ cur' v w', Ext cur cur' → (∀ s, isDst L s = false → look cur' s = none) → Post i v w' → R w w' → Base w' → N cur' v w') → (∀ cur', Ext cur cur' → (∀ s, isDst L s = false → look cur' s = none) → Post i undef w → M cur') →
    guardD ops g.guard cur i0 (fun cur' => opD C.P C.env cur' i0 g.op g.type w (N cur')) M
def AllS (F : Nat → Sig → Prop) : Nat → List Sig → Prop
  | _, [] => True
  | i, g :: r => F i g ∧ AllS F (i + 1) r
theorem AllS.get {F : Nat → Sig → Prop} : ∀ {L : List Sig} {i j : Nat} {g : Sig}, AllS F i L → L[j]? = some g → F (i + j) g
  | [], _, _, _, _, h => by simp at h
  | g :: r, i, 0, g', h, hj => by simp at hj; subst hj; exact h.1
  | g :: r, i, j + 1, g', h, hj => by
    simp only [List.getElem?_cons_succ] at hj
    have := AllS.get h.2 hj
    rwa [show i + 1 + j = i + (j + 1) by omega] at this

theorem ordS_i {C : Ctx} {ops : Array Oper} {i0 : Ent} {K : Ent → World → Prop} {w0 : World} {L : List Sig} (hL : ops.toList.map sigOf = L) (hap : apartB ops = true) (Post : Nat → Value → World → Prop) (R : World → World → Prop) (Base : World → Prop)
    (hR : ∀ j v w w', Post j v w → R w w' → Post j v w') (hRr : ∀ w, R w w) (h0 : Base w0)
    (step : AllS (StepS C ops i0 L Post R Base) 0 L)
    (fin : ∀ cur w, Base w → (∀ j, j < L.length → DoneS L Post cur w j) → K cur w) : OrdP C ops i0 K w0 := by
  have hsize : ops.size = L.length := by rw [← hL]; simp
  have hat : ∀ j op, ops[j]? = some op → L[j]? = some (sigOf op) := fun j op hj => by rw [← hL, List.getElem?_map, Array.getElem?_toList, hj]; rfl
  have hslot : ∀ j s, slotOf ops j = some s → dstAt L j = some s := fun j s hj => by
    unfold slotOf at hj
    cases ho : ops[j]? with
    | none => rw [ho] at hj; cases hj
    | some op => rw [ho] at hj; simp only [dstAt, hat j op ho]; exact hj
  refine ⟨?_⟩
  suffices H : ∀ (k m : Nat) (cur : Ent) (w : World), undone m ops.size = k → Base w → (∀ j, j < ops.size → Nat.testBit m j = true → DoneS L Post cur w j) → (∀ s, isDst L s = false → look cur s = none) → orderD C ops i0 K k m cur w from
    H ops.size 0 [] w0 (undone_full _) h0 (fun j _ hj => by simp at hj) (fun _ _ => rfl)
  intro k
  induction k with
  | zero => exact fun m cur w hu hB hD _ => fin cur w hB fun j hj => hD j (by omega) (undone_zero hu j (by omega))
  | succ k ih =>
    intro m cur w hu hB hD hnew i op hop hr
    have hlt : i < ops.size := (Array.getElem?_eq_some_iff.1 hop).1
    have hrr := hr
    unfold readyB at hrr
    rw [hop] at hrr
    simp only [Bool.and_eq_true] at hrr
    have ht : Nat.testBit m i = false := by simpa using hrr.1
    have hu' : undone (Nat.lor m (Nat.shiftLeft 1 i)) ops.size = k := by have := undone_set ht hlt; omega
    have hself : dstAt L i = op.dst := by simp only [dstAt, hat i op hop]; rfl
    have hisd : ∀ d, op.dst = some d → isDst L d = true := fun d hd => by
      unfold isDst
      rw [List.any_eq_true]
      exact ⟨sigOf op, List.mem_of_getElem? (hat i op hop), by show (match op.dst with | some d' => Nat.beq d' d | none => false) = true; rw [hd]; simp⟩
    have next : ∀ cur' v w', Ext cur cur' → (∀ s, isDst L s = false → look cur' s = none) → Post i v w' → R w w' → Base w' → orderD C ops i0 K k (Nat.lor m (Nat.shiftLeft 1 i)) (putE op.dst v cur') w' := by
      intro cur' v w' hx hn hp hr hB'
      refine ih _ _ _ hu' hB' (fun j hj hjt => ?_) (fun s hs => ?_)
      · rw [testBit_lor_shift] at hjt
        by_cases he : i = j
        · subst he
          refine ⟨v, hp, fun s hs => ?_⟩
          rw [hself] at hs
          rw [hs]
          simp [putE, look]
        · have hjm : Nat.testBit m j = true := by simpa [he] using hjt
          obtain ⟨u, h1, h2⟩ := hD j hj hjm
          refine ⟨u, hR _ _ _ _ h1 hr, fun s hs => ?_⟩
          have h3 := hx s u (h2 s hs)
          cases hd : op.dst with
          | none => exact h3
          | some d =>
            have hne : d ≠ s := by
              rintro rfl
              refine he (apartB_spec hap (s := d) (by simp [slotOf, hop, hd]) ?_)
              have hjs : j < ops.size := hj
              have hoj : ops[j]? = some ops[j] := Array.getElem?_eq_getElem hjs
              have := hat j _ hoj
              simp only [dstAt, this] at hs
              simp only [slotOf, hoj]
              exact hs
            have hb : Nat.beq d s = false := by cases hb : Nat.beq d s with
              | false => rfl
              | true => exact absurd (Nat.eq_of_beq_eq_true hb) hne
            simp only [putE, look, hb]
            exact h3
      · cases hd : op.dst with
        | none => exact hn s hs
        | some d =>
          have hne : Nat.beq d s = false := by cases hb : Nat.beq d s with
            | false => rfl
            | true =>
              have := Nat.eq_of_beq_eq_true hb
              subst this
              rw [hisd d hd] at hs; cases hs
          simp only [putE, look, hne]
          exact hn s hs
    have hst := AllS.get step (hat i op hop)
    rw [Nat.zero_add] at hst
    refine hst cur w hB (fun j hj => ?_) hnew _ _ next fun cur' hx hn hp => next cur' undef w hx hn hp (hRr w) hB
    simp only [sigOf, List.mem_map, List.mem_filter] at hj
    obtain ⟨e, ⟨he, hb⟩, rfl⟩ := hj
    have h2 := List.all_eq_true.1 hrr.2 e he
    simp only [hb, Bool.not_true, Bool.false_or, Bool.and_eq_true] at h2
    exact hD e.on (by simpa using h2.1) h2.2

/-! ### One operation -/

section
variable {P : Program} {env : Env} {cur o : Ent} {w : World} {K : Value → World → Prop} {ty : TypeId}
theorem rdT_cur {t : Nat} {v : Value} (h : look cur t = some v) : rdT cur o t = some v := by simp [rdT, h]
theorem rdT_out {t : Nat} {v : Value} (h : look cur t = none) (h' : look o t = some v) : rdT cur o t = some v := by simp [rdT, h, h']
theorem op_move {t : Nat} {v : Value} (h : rdT cur o t = some v) (hK : K v w) : opD P env cur o (.move (.tmp t)) ty w K := by
  show onV (rdT cur o t) _; rw [h]; exact hK
theorem op_assign {t : Nat} {v : Value} (h : rdT cur o t = some v) (hK : K v w) : opD P env cur o (.assign (.tmp t)) ty w K := by
  show onV (rdT cur o t) _; rw [h]; exact hK
theorem op_bin {bop : BinOp} {t bt ut : Nat} {x y : Nat} {u v : Value} (hx : rdT cur o x = some u) (hy : rdT cur o y = some v) (hK : binD P bop t u v fun r => K r w) : opD P env cur o (.binOp bop t (.tmp x) (.tmp y) bt) ut w K := by
  show onV (rdT cur o x) _; rw [hx]; show onV (rdT cur o y) _; rw [hy]; exact hK
theorem op_pick {c a : Nat} {b : Value} {x : Value} (hc : rdT cur o c = some (.bool true)) (ha : rdT cur o a = some x) (hK : K x w) : opD P env cur o (.pick (.tmp c) (.tmp a) (.const b)) ty w K := by
  show onV (rdT cur o c) _; rw [hc]; show onV (rdT cur o a) _; rw [ha]; exact hK
theorem op_pick_no {c a : Nat} {b : Value} (hc : rdT cur o c = some (.bool false)) (hK : K b w) : opD P env cur o (.pick (.tmp c) (.tmp a) (.const b)) ty w K := by
  show onV (rdT cur o c) _; rw [hc]; exact hK
theorem op_build1 {t e : TypeId} {x : Nat} {v : Value} {len : Nat} {cells : Array Value} (hx : rdT cur o x = some v) (hb : builtSlice P t len [(0, v)] = some (e, cells))
    (hK : K (.slice (some ⟨w.heap.size, 0, none⟩) len len) (w.alloc (.cells cells e))) : opD P env cur o (.buildSlice t len #[(0, .tmp x)]) ty w K := by
  show onV (rds cur o [.tmp x]) _
  have : rds cur o [.tmp x] = some [v] := by simp [rds, rd, hx]
  rw [this]
  show onV (builtSlice P t len [(0, v)]) _
  rw [hb]; exact hK
theorem op_call0 {f : FuncId} {T : Tr} (hf : findE env f = some T) (hT : T [] w K) : opD P env cur o (.call { callee := .value (.func f), args := #[], argTypes := #[] }) ty w K := by
  show callD P env ty f [] w K
  unfold callD; rw [hf]; exact hT
theorem op_call1 {f : FuncId} {T : Tr} {x : Nat} {v : Value} {ats : Array TypeId} (hx : rdT cur o x = some v) (hf : findE env f = some T) (hT : T [v] w K) : opD P env cur o (.call { callee := .value (.func f), args := #[.tmp x], argTypes := ats }) ty w K := by
  show onV (rds cur o [.tmp x]) _
  have : rds cur o [.tmp x] = some [v] := by simp [rds, rd, hx]
  rw [this]
  show callD P env ty f [v] w K
  unfold callD; rw [hf]; exact hT
theorem op_make {t : TypeId} {x y : Nat} {u v : Value} (hx : rdT cur o x = some u) (hy : rdT cur o y = some v) (hK : makeSliceD P t u v w fun s w' => K (.slice s.b s.l s.c) w') : opD P env cur o (.makeSlice t (.tmp x) (.tmp y)) ty w K := by
  show onV (rdT cur o x) _; rw [hx]; show onV (rdT cur o y) _; rw [hy]; exact hK
theorem op_slice_h {t e : TypeId} {x y : Nat} {b : Option Addr} {l c : Nat} {k : IntKind} {i : Int} {n : Nat} (hx : rdT cur o x = some (.slice b l c)) (hy : rdT cur o y = some (.int k i)) (ht : P.underlying t = some (.slice e))
    (hn : (P.info? e).map (·.size) = some n) (h0 : 0 ≤ i ∧ i ≤ (c : Int)) (hK : K (.slice (sliceAddr b c 0 n) (i.toNat - 0) (c - 0)) w) : opD P env cur o (.slice t (.tmp x) none (some (.tmp y)) none) ty w K := by
  unfold opD
  have hp : isPure P (.slice t (.tmp x) none (some (.tmp y)) none) = true := by simp only [isPure, ht]
  rw [hp]
  show onV (rdT cur o x) _; rw [hx]
  show onV (rdT cur o y) _; rw [hy]
  show (match P.underlying t, Value.slice b l c with
    | some (.slice e), .slice b l c => boundD c (some (.int k i)) l fun h => boundD h none 0 fun l' => sizeD P e fun n => K (.slice (sliceAddr b c l' n) (h - l') (c - l')) w
    | _, _ => False)
  rw [ht]
  refine ⟨h0, ?_⟩
  unfold boundD sizeD
  cases hi : P.info? e with
  | none => rw [hi] at hn; cases hn
  | some j => rw [hi] at hn; cases hn; exact hK
theorem op_conv {src dst : TypeId} {x : Nat} {v : Value} (z : Value) (hx : rdT cur o x = some v) (hp : isPure P (.convert src dst (.tmp x)) = false) (hz : (P.info? dst).bind (·.zero) = some z)
    (hK : convD P (Knd.of z) src dst v w fun u w' => K ((Knd.of z).enc u) w') : opD P env cur o (.convert src dst (.tmp x)) ty w K := by
  unfold opD
  rw [hp]
  show onV (rdT cur o x) _; rw [hx]
  show zeroD P dst _
  unfold zeroD
  cases hi : P.info? dst with
  | none => rw [hi] at hz; cases hz
  | some i =>
    rw [hi] at hz
    have hz' : i.zero = some z := hz
    simp only [hz']
    exact hK
theorem bool_eq_i {t : TypeId} {a b : Bool} {K : Value → Prop} (ht : P.underlying t = some .bool) (hK : K (.bool (a == b))) : binD P .eql t (.bool a) (.bool b) K := by
  simp only [binD, ht]; exact hK
/-- A guard that stands: the operation is run. -/
theorem guard_yes {ops : Array Oper} {j s : Nat} {yes no : Ent → Prop} (hj : slotOf ops j = some s) (hs : look cur s = some (.bool true)) (ho : look o s = none)
    (h : ∀ cur', Ext cur cur' → (∀ t, look cur t = none → look cur' t = none) → yes cur') : guardD ops (some (j, true)) cur o yes no := by
  show onV (slotOf ops j) _
  rw [hj]
  show onV (rdT cur o s) _
  rw [rdT_cur hs]
  simp only [onV, ho]
  refine h _ (fun t x hx => ?_) (fun t ht => ?_)
  · simp only [look]
    cases hb : Nat.beq s t with
    | false => exact hx
    | true => have := Nat.eq_of_beq_eq_true hb; subst this; rw [hs] at hx; exact hx
  · simp only [look]
    cases hb : Nat.beq s t with
    | false => exact ht
    | true => have := Nat.eq_of_beq_eq_true hb; subst this; rw [hs] at ht; cases ht
end

end Go.Den
