/-
  The pure operations of the denotation are sound.
-/
import Derived.Test.YtadacfoiphklgaaMpDen
namespace Go.Den
open Go

theorem run_sizeOf' {P : Program} {t : TypeId} {i : TypeInfo} (h : P.info? t = some i) (w : World) : (sizeOf t).run P w = .ok i.size w := by
  simp [sizeOf, typeInfo, h]
theorem sizeD_spec {P : Program} {t : TypeId} {K : Nat → Prop} (h : sizeD P t K) : ∃ n, K n ∧ ∀ w, (sizeOf t).run P w = .ok n w := by
  unfold sizeD at h
  cases hi : P.info? t with
  | none => rw [hi] at h; exact h.elim
  | some i => rw [hi] at h; exact ⟨i.size, h, run_sizeOf' hi⟩

theorem eqInts_eq {P : Program} (d : Nat) (w : World) : ∀ (fs : List Field) (i : Nat) (xs ys : Array Value) (e : Bool), plainFields P fs i = true → eqInts (xs.toList.drop i) (ys.toList.drop i) = some e →
    xs.size = i + fs.length → (Op.eqFields (d + 1) xs ys fs).run P w = .ok e w
  | [], i, xs, ys, e, _, he, hx => by
    have h1 : xs.toList.drop i = [] := by simp at hx; simp; omega
    rw [h1] at he
    cases hy : ys.toList.drop i with
    | nil => rw [hy] at he; simp [eqInts] at he; subst he; simp [Op.eqFields]
    | cons y r => rw [hy] at he; simp [eqInts] at he
  | f :: fs, i, xs, ys, e, hp, he, hx => by
    simp only [plainFields, Bool.and_eq_true] at hp
    obtain ⟨⟨⟨h1, h2⟩, h3⟩, h4⟩ := hp
    have hoff : f.offset = i := Nat.eq_of_beq_eq_true h2
    simp only [List.length_cons] at hx
    have hix : i < xs.toList.length := by simp; omega
    have hdx : xs.toList.drop i = xs.toList[i] :: xs.toList.drop (i + 1) := List.drop_eq_getElem_cons hix
    rw [hdx] at he
    cases hdy : ys.toList.drop i with
    | nil => rw [hdy] at he; cases xs.toList[i] <;> simp [eqInts] at he
    | cons y r =>
      have hiy : i < ys.toList.length := by
        rcases Nat.lt_or_ge i ys.toList.length with h | h
        · exact h
        · rw [List.drop_eq_nil_of_le h] at hdy; cases hdy
      have hdy' := List.drop_eq_getElem_cons hiy
      rw [hdy] at hdy'
      simp only [List.cons.injEq] at hdy'
      obtain ⟨hy0, hyr⟩ := hdy'
      rw [hdy, hyr] at he
      have hu : ∃ k', P.underlying f.type = some (.int k') := by
        cases hu : P.underlying f.type with
        | none => simp [hu] at h3
        | some dd => cases dd <;> simp [hu] at h3; exact ⟨_, rfl⟩
      obtain ⟨k', hu⟩ := hu
      generalize hxv : xs.toList[i] = xv at he
      cases xv <;> try (simp [eqInts] at he; done)
      rename_i k a
      cases y <;> try (simp [eqInts] at he; done)
      rename_i k2 b
      simp only [eqInts] at he
      cases hd : decEq k k2 with
      | isFalse hne => rw [hd] at he; cases he
      | isTrue hk =>
        subst hk
        rw [hd] at he
        cases hr : eqInts (xs.toList.drop (i + 1)) (ys.toList.drop (i + 1)) with
        | none => simp [hr] at he
        | some e' =>
          simp [hr] at he
          subst he
          have hname : f.name ≠ "_" := by simpa using h1
          have hag : ∀ w, (isAgg f.type).run P w = .ok false w := fun w => by simp [isAgg, run_underlying hu]
          have ex : xs[i]? = some (.int k a) := by
            have : xs.toList[i]? = some (.int k a) := by rw [List.getElem?_eq_getElem hix, hxv]
            simpa using this
          have ey : ys[i]? = some (.int k b) := by
            have : ys.toList[i]? = some (.int k b) := by rw [List.getElem?_eq_getElem hiy, ← hy0]
            simpa using this
          have px : ∀ w, (part f.type xs f.offset).run P w = .ok (.int k a) w := fun w => by simp [part, hag, hoff, ex]
          have py : ∀ w, (part f.type ys f.offset).run P w = .ok (.int k b) w := fun w => by simp [part, hag, hoff, ey]
          have ih := eqInts_eq d w fs (i + 1) xs ys e' (by simpa using h4) hr (by omega)
          have heq : (Op.equalIn (d + 1) f.type (.int k a) (.int k b)).run P w = .ok (a == b) w := by simp [Op.equalIn, run_underlying hu]
          simp only [Op.eqFields, hname, ne_eq, not_false_eq_true, if_true, Sem.run_bind, px, py, Result.andThen_ok, heq, Sem.run_ite]
          cases hab : (a == b) with
          | true => simp [ih]
          | false => simp

theorem eqAgg_spec {P : Program} {t : TypeId} {xs ys : Array Value} {K : Bool → Prop} (h : eqAgg P t xs ys K) :
    ∃ b, K b ∧ P.eqGuardType P.depth t = false ∧ ∀ w, (Op.equal t (.agg xs) (.agg ys)).run P w = .ok b w := by
  unfold eqAgg at h
  cases hu : P.underlying t with
  | none => rw [hu] at h; exact h.elim
  | some d =>
    cases d <;> try (rw [hu] at h; exact h.elim)
    rename_i fs
    rw [hu] at h
    simp only at h
    cases hc : (!P.stoodInHeld t && !P.eqGuardType P.depth t && plainFields P fs.toList 0 && Nat.beq fs.size xs.size && Nat.beq fs.size ys.size) with
    | false => rw [hc] at h; exact h.elim
    | true =>
      rw [hc] at h
      obtain ⟨b, hb, hK⟩ := onV_spec h
      simp only [Bool.and_eq_true, Bool.not_eq_true'] at hc
      obtain ⟨⟨⟨⟨h1, h2⟩, h3⟩, h4⟩, h5⟩ := hc
      refine ⟨b, hK, h2, fun w => ?_⟩
      have hfo : P.fieldsOf t = fs := by simp [Program.fieldsOf, hu]
      have hs : xs.size = 0 + fs.toList.length := by have := Nat.eq_of_beq_eq_true h4; simp; omega
      rw [Op.equal, show Op.maxDepth = 9999 + 1 from rfl, run_equalIn_struct w 9999 t xs ys (by rw [hfo]; exact hu) h1, hfo]
      exact eqInts_eq 9998 w fs.toList 0 xs ys b h3 (by simpa using hb) hs

theorem eqBool {P : Program} (d : Nat) (w : World) {t : TypeId} (hu : P.underlying t = some .bool) (a b : Bool) : (Op.equalIn (d + 1) t (.bool a) (.bool b)).run P w = .ok (a == b) w := by
  simp [Op.equalIn, run_underlying hu]
theorem eqPtr {P : Program} (d : Nat) (w : World) {t e : TypeId} (hu : P.underlying t = some (.pointer e)) (a : Option Addr) : (Op.equalIn (d + 1) t (.pointer a) (.pointer none)).run P w = .ok a.isNone w := by
  cases a <;> simp [Op.equalIn, run_underlying hu]
theorem eqSl {P : Program} (d : Nat) (w : World) {t e : TypeId} (hu : P.underlying t = some (.slice e)) (a : Option Addr) (l c l' c' : Nat) : (Op.equalIn (d + 1) t (.slice a l c) (.slice none l' c')).run P w = .ok a.isNone w := by
  cases a <;> simp [Op.equalIn, run_underlying hu]
theorem eqMap {P : Program} (d : Nat) (w : World) {t k e : TypeId} (hu : P.underlying t = some (.map k e)) (a : Option Nat) : (Op.equalIn (d + 1) t (.map a) (.map none)).run P w = .ok a.isNone w := by
  cases a <;> simp [Op.equalIn, run_underlying hu]
theorem run_eql {P : Program} (w : World) {op : BinOp} {t : TypeId} {x y : Value} {ox oy : Operand} {e : Bool} (h1 : (eqGuard op t ox oy x y).run P w = .ok () w) (h2 : (Op.equalIn 10000 t x y).run P w = .ok e w)
    (h3 : binOp op t x y = (do pure (.bool (← Op.equal t x y)))) : (do eqGuard op t ox oy x y; binOp op t x y : Sem Value).run P w = .ok (.bool e) w := by
  simp [h1, h3, Op.equal, Op.maxDepth, h2]
theorem run_neq {P : Program} (w : World) {op : BinOp} {t : TypeId} {x y : Value} {ox oy : Operand} {e : Bool} (h1 : (eqGuard op t ox oy x y).run P w = .ok () w) (h2 : (Op.equalIn 10000 t x y).run P w = .ok e w)
    (h3 : binOp op t x y = (do pure (.bool (!(← Op.equal t x y))))) : (do eqGuard op t ox oy x y; binOp op t x y : Sem Value).run P w = .ok (.bool (!e)) w := by
  simp [h1, h3, Op.equal, Op.maxDepth, h2]
theorem binD_spec {P : Program} {op : BinOp} {t : TypeId} {x y : Value} {K : Value → Prop} (h : binD P op t x y K) :
    ∃ v, K v ∧ ∀ (w : World) (ox oy : Operand), (do eqGuard op t ox oy x y; binOp op t x y : Sem Value).run P w = .ok v w := by
  have wrapEq : ∀ k n, IntKind.wrap k n = IntKind.wrap k n := fun _ _ => rfl
  cases x <;> cases y <;> try (exact h.elim)
  case bool.bool a b =>
    simp only [binD] at h
    cases op <;> try (exact h.elim)
    all_goals
      cases hu : P.underlying t with
      | none => simp [hu] at h
      | some d =>
        cases d <;> try (simp [hu] at h; done)
        simp only [hu] at h
        refine ⟨_, h, fun w ox oy => ?_⟩
        first
          | exact run_eql w (by simp [eqGuard]) (eqBool 9999 w hu _ _) rfl
          | exact run_neq w (by simp [eqGuard]) (eqBool 9999 w hu _ _) rfl
  case int.int k a k' b =>
    simp only [binD] at h
    cases op
    case shl => exact ⟨_, h.2, fun w ox oy => by simp [eqGuard, binOp, Op.shift, Int.not_lt.2 h.1]⟩
    case shr => exact ⟨_, h.2, fun w ox oy => by simp [eqGuard, binOp, Op.shift, Int.not_lt.2 h.1]⟩
    all_goals
      cases hd : decEq k k' with
      | isFalse hne => rw [hd] at h; exact h.elim
      | isTrue hk =>
        subst hk
        rw [hd] at h
        simp only at h
        first
          | exact ⟨_, h, fun w ox oy => by simp [eqGuard, binOp, Op.intArith, Op.intBits, Op.intCmp, bitsV]⟩
          | exact ⟨_, h.2, fun w ox oy => by simp [eqGuard, binOp, Op.intDiv, h.1]⟩
          | exact h.elim
  case string.string a b =>
    simp only [binD] at h
    cases op <;> try (exact h.elim)
    all_goals exact ⟨_, h, fun w ox oy => by simp [eqGuard, binOp, Op.stringOp]⟩
  case pointer.pointer a b =>
    cases b with
    | some b => exact h.elim
    | none =>
      simp only [binD] at h
      cases op <;> try (exact h.elim)
      all_goals
        cases hu : P.underlying t with
        | none => simp [hu] at h
        | some d =>
          cases d <;> try (simp [hu] at h; done)
          simp only [hu] at h
          refine ⟨_, h, fun w ox oy => ?_⟩
          first
            | exact run_eql w (by simp [eqGuard]) (eqPtr 9999 w hu _) rfl
            | exact run_neq w (by simp [eqGuard]) (eqPtr 9999 w hu _) rfl
  case slice.slice a l c b l' c' =>
    cases b with
    | some b => exact h.elim
    | none =>
      simp only [binD] at h
      cases op <;> try (exact h.elim)
      all_goals
        cases hu : P.underlying t with
        | none => simp [hu] at h
        | some d =>
          cases d <;> try (simp [hu] at h; done)
          simp only [hu] at h
          refine ⟨_, h, fun w ox oy => ?_⟩
          first
            | exact run_eql w (by simp [eqGuard]) (eqSl 9999 w hu _ _ _ _ _) rfl
            | exact run_neq w (by simp [eqGuard]) (eqSl 9999 w hu _ _ _ _ _) rfl
  case map.map a b =>
    cases b with
    | some b => exact h.elim
    | none =>
      simp only [binD] at h
      cases op <;> try (exact h.elim)
      all_goals
        cases hu : P.underlying t with
        | none => simp [hu] at h
        | some d =>
          cases d <;> try (simp [hu] at h; done)
          simp only [hu] at h
          refine ⟨_, h, fun w ox oy => ?_⟩
          first
            | exact run_eql w (by simp [eqGuard]) (eqMap 9999 w hu _) rfl
            | exact run_neq w (by simp [eqGuard]) (eqMap 9999 w hu _) rfl
  case agg.agg xs ys =>
    simp only [binD] at h
    cases op <;> try (exact h.elim)
    all_goals
      obtain ⟨b, hb, hg, hr⟩ := eqAgg_spec h
      refine ⟨_, hb, fun w ox oy => ?_⟩
      first
        | exact run_eql w (by simp [eqGuard, hg]) (hr w) rfl
        | exact run_neq w (by simp [eqGuard, hg]) (hr w) rfl

theorem unD_spec {P : Program} {op : UnOp} {x : Value} {K : Value → Prop} (h : unD op x K) : ∃ v, K v ∧ ∀ w, (Op.unary op x).run P w = .ok v w := by
  cases op <;> cases x <;> try (exact h.elim)
  all_goals exact ⟨_, h, fun w => by simp [Op.unary, Op.intArith, Op.intBits, bitsV]⟩

theorem partD_spec {P : Program} {t : TypeId} {cs : Array Value} {off : Nat} {K : Value → Prop} (h : partD P t cs off K) :
    ∃ v, K v ∧ ∀ w, (part t cs off).run P w = .ok v w := by
  unfold partD at h
  cases hu : P.underlying t with
  | none => rw [hu] at h; exact h.elim
  | some d =>
    rw [hu] at h
    by_cases hs : (∃ fs, d = .struct fs) ∨ (∃ n e, d = .array n e)
    · have hag : ∀ w, (isAgg t).run P w = .ok true w := fun w => by
        rcases hs with ⟨fs, rfl⟩ | ⟨n, e, rfl⟩ <;> simp [isAgg, run_underlying hu]
      have h' : sizeD P t fun n => K (.agg (cs.extract off (off + n))) := by
        rcases hs with ⟨fs, rfl⟩ | ⟨n, e, rfl⟩ <;> exact h
      obtain ⟨n, hK, hn⟩ := sizeD_spec h'
      exact ⟨_, hK, fun w => by simp [part, hag, hn]⟩
    · have hag : ∀ w, (isAgg t).run P w = .ok false w := fun w => by
        cases d <;> simp [isAgg, run_underlying hu] <;> simp_all
      cases hc : cs[off]? with
      | none => cases d <;> simp [hc] at h <;> simp_all
      | some v =>
        refine ⟨v, ?_, fun w => by simp [part, hag, hc]⟩
        cases d <;> simp [hc] at h <;> first | exact h | simp_all

theorem boundD_spec {P : Program} {y : Nat} {v : Option Value} {d : Nat} {K : Nat → Prop} (h : boundD y v d K) :
    ∃ m, K m ∧ ((v = none ∧ m = d) ∨ ∃ u, v = some u ∧ m ≤ y ∧ ∀ w code, (Instr.sliceBound u y code).run P w = .ok m w) := by
  cases v with
  | none => exact ⟨d, h, .inl ⟨rfl, rfl⟩⟩
  | some u =>
    cases u <;> try (exact h.elim)
    rename_i k i
    obtain ⟨⟨h0, h1⟩, hK⟩ := h
    refine ⟨_, hK, .inr ⟨_, rfl, by omega, fun w code => by simp [Instr.sliceBound, asIntOf, h0, h1]⟩⟩

theorem onO_spec {n : Nat} {cur o : Ent} {a : Act} (hv : View n cur o a) {x : Option Operand} {K : Option Value → Prop} (h : onO cur o x K) : K (x.map a.eval) := by
  cases x with
  | none => exact h
  | some x =>
    obtain ⟨v, hx, hK⟩ := onV_spec h
    rw [Option.map_some, hv.rd hx]
    exact hK

theorem minD_spec {P : Program} (mx : Bool) : ∀ {r : List Value} {x : Value} {K : Value → Prop}, minD mx x r K →
    ∃ v, K v ∧ ∀ w, (r.foldlM (if mx then Builtin.max2 else Builtin.min2) x).run P w = .ok v w
  | [], x, K, h => ⟨x, by cases x <;> exact h, fun w => by simp⟩
  | y :: r, x, K, h => by
    cases x <;> cases y <;> try (exact h.elim)
    rename_i k a k' b
    obtain ⟨v, hK, hr⟩ := minD_spec mx (r := r) (x := .int k (cond mx (maxInt a b) (minInt a b))) h
    refine ⟨v, hK, fun w => ?_⟩
    have := hr w
    cases mx <;> simpa [List.foldlM, Builtin.max2, Builtin.min2, minInt, maxInt] using this

theorem indexD_spec {P : Program} {t : TypeId} {x : Value} {ix : Operand} {k : IntKind} {i : Int} {K : Value → Prop} (h : indexD P t x ix i K) :
    ∃ v, K v ∧ ∀ w, (Instr.index t x (.int k i)).run P w = .ok v w := by
  unfold indexD at h
  cases hu : P.underlying t with
  | none => rw [hu] at h; exact h.elim
  | some d =>
    rw [hu] at h
    cases d <;> try (exact h.elim)
    case array len elem =>
      cases x <;> try (exact h.elim)
      rename_i cs
      simp only at h
      cases hc : isConst ix with
      | true =>
        rw [hc] at h
        obtain ⟨hb, h⟩ := h
        obtain ⟨n, hn, hs⟩ := sizeD_spec h
        obtain ⟨v, hK, hp⟩ := partD_spec hn
        exact ⟨v, hK, fun w => by simp [Instr.index, asIntOf, run_underlying hu, hb, hs, hp]⟩
      | false =>
        rw [hc] at h
        obtain ⟨hb, h⟩ := h
        obtain ⟨m, h, hm⟩ := sizeD_spec h
        cases hm1 : Nat.beq m 1 with
        | false => rw [hm1] at h; exact h.elim
        | true =>
          rw [hm1] at h
          have : m = 1 := Nat.eq_of_beq_eq_true hm1
          subst this
          cases he : P.underlying elem with
          | none => rw [he] at h; exact h.elim
          | some de =>
            rw [he] at h
            cases de <;> try (exact h.elim)
            rename_i k'
            obtain ⟨n, hn, hK⟩ := h
            refine ⟨_, hK, fun w => ?_⟩
            have hag : ∀ w, (isAgg elem).run P w = .ok false w := fun w => by simp [isAgg, run_underlying he]
            simp [Instr.index, asIntOf, run_underlying hu, hb, hm, part, hag, hn]
    case string =>
      cases x <;> try (exact h.elim)
      rename_i s
      obtain ⟨h0, b, hb, hK⟩ := h
      exact ⟨_, hK, fun w => by simp [Instr.index, asIntOf, run_underlying hu, h0, hb]⟩
end Go.Den
