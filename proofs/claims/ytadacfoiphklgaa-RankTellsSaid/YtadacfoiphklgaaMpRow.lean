/-
  From what a law function computes to its row: it returns true, and of what was there nothing has turned.
-/
import Derived.Test.YtadacfoiphklgaaMpMem
import Derived.WalkKit
import Derived.ProofKit
import Derived.OpenShut
import Derived.JoinedOf
import Derived.Handed
import Derived.WideKeyArgs
import Derived.ChangeSlices
import Derived.Laws.IdiomArrays
import Derived.Laws.BytesArg
namespace Go.Den
open Go Go.ChangeShapes Go.WideShapes Go.ChangeAt Go.RowKit

abbrev Since (W w : World) : Prop := Mod (fun k => W.heap.size ≤ k) W w
theorem Since.keep {W w w' : World} (h : Since W w) (k : Keep w w') : Since W w' := h.trans k fun _ _ h => h.elim
theorem Since.below {W w : World} (h : Since W w) : Below W.heap.size W w := Mod.below h (Nat.le_refl _)

section
variable {H : Type} {enc : TypeId × Value → H} {P : Program}

theorem trodAll_stays (hl : laidOutB P = true) {W W' : World} {sp' : Nat → Bool} : ∀ {ts : List TypeId} {vs : List Value} {ds : List (DataW H)} {ps : List MemPlace},
    (∀ t ∈ ts, P.readableRec t = true ∧ t < P.types.size) → DataW.TrodAll enc P W 0 (fun _ => true) true ts vs ds ps → (∀ p ∈ ps, W.sameAt W' p) → (∀ p ∈ ps, sp' p.block = true) → DataW.TrodAll enc P W' 0 sp' true ts vs ds ps
  | [], [], [], _, _, h, _, _ => h
  | t :: ts, v :: vs, d :: ds, ps, ht, h, hs, hp => by
    obtain ⟨p, q, h1, h2, rfl⟩ := h
    refine ⟨p, q, WideElems.Trod_stays hl (ht t (by simp)).1 (ht t (by simp)).2 h1 (fun x hx => hs x (by simp [hx])) (fun x hx => hp x (by simp [hx])), ?_, rfl⟩
    exact trodAll_stays hl (fun u hu => ht u (by simp [hu])) h2 (fun x hx => hs x (by simp [hx])) (fun x hx => hp x (by simp [hx]))
  | [], _ :: _, _, _, _, h, _, _ => h.elim
  | [], [], _ :: _, _, _, h, _, _ => h.elim
  | _ :: _, [], _, _, _, h, _, _ => h.elim
  | _ :: _, _ :: _, [], _, _, h, _, _ => h.elim

theorem trodAll_length {W : World} {base : Nat} {sp : Nat → Bool} {hd : Bool} : ∀ {ts : List TypeId} {vs : List Value} {ds : List (DataW H)} {ps : List MemPlace}, DataW.TrodAll enc P W base sp hd ts vs ds ps → ds.length = ts.length ∧ vs.length = ts.length
  | [], [], [], _, _ => ⟨rfl, rfl⟩
  | _ :: _, _ :: _, _ :: _, _, h => by obtain ⟨_, _, _, h2, _⟩ := h; have := trodAll_length h2; simp [this.1, this.2]
  | [], _ :: _, _, _, h => h.elim
  | [], [], _ :: _, _, h => h.elim
  | _ :: _, [], _, _, h => h.elim
  | _ :: _, _ :: _, [], _, h => h.elim

/-- The row's close: true, and all as before. -/
theorem law_post {fn : Func} {s : ChangeSpec} {apart fresh handsOn again : Bool} {W W' : World} {args : Array Value} {ds gs : List (DataW H)} {before : List MemPlace} {tb : TypeId}
    (hW : DataW.Whole enc P fn.params.toList s.vars apart W args.toList ds gs before) (hv : s.vars = [])
    (hfn : ∀ ds : List (DataW H), ds.length = fn.params.size → s.fn H ds = { results := [.lit (.bool true)], args := ds })
    (hrt : fn.resultTypes = #[tb]) (htb : P.underlying tb = some .bool) (hl : laidOutB P = true) (hread : ∀ t ∈ fn.params.toList, P.readableRec t = true ∧ t < P.types.size) (hS : Since W W') :
    s.post enc P fn apart fresh handsOn again W args (.bool true) W' := by
  have hlt := hW.lt
  obtain ⟨p, q, hA, hV, rfl, hz, hn⟩ := hW
  have hW0 : DataW.Whole enc P fn.params.toList s.vars apart W args.toList ds gs (p ++ q) := ⟨p, q, hA, hV, rfl, hz, hn⟩
  have hV' : DataW.TrodVars enc P W (fun _ => true) [] gs q := by rw [← hv]; exact hV
  obtain ⟨rfl, rfl⟩ := trodVars_none hV'
  have hds : (ds ++ []).length = fn.params.size := by rw [List.append_nil, (trodAll_length hA).1]; simp
  have hF := hfn (ds ++ []) hds
  have hb := hS.below
  have hsame : ∀ x ∈ p, W.sameAt W' x := fun x hx => hb.same (hlt x (by simp [hx]))
  have hargs : ∀ sp : Nat → Bool, (∀ x ∈ p, sp x.block = true) → DataW.TrodAll enc P W' 0 sp true fn.params.toList args.toList ds p := fun sp hsp => trodAll_stays hl hread hA hsame hsp
  have hres : ∀ (b : Nat) (sp : Nat → Bool) (hd : Bool), DataW.TrodAll enc P W' b sp hd fn.resultTypes.toList ((Value.bool true).resultList fn.resultTypes.size) [.lit (.bool true)] [] := by
    intro b sp hd
    rw [hrt]
    exact trodAll_mk1 (shut_bool htb true)
  refine ⟨ds, [], p ++ [], [], p, [], hW0, ?_, ?_, ?_, ?_, ?_⟩
  · rw [hF]; exact hres _ _ _
  · rw [hF]; simp only [List.append_nil]; exact hargs _ (fun x hx => by simpa using hlt x (by simp [hx]))
  · rw [hF, hv]; exact rfl
  · exact hb.frame _
  · intro _
    refine ⟨ok_one hrt rfl (okWide_bool_mk htb true), [.lit (.bool true)] ++ ds, [], [] ++ p ++ [], ⟨[] ++ p, [], trodAll_append (hargs _ fun _ _ => rfl) (hres _ _ _), ?_, rfl, ?_, ?_⟩, ?_⟩
    · rw [hv]; exact rfl
    · intro b off hp
      simp only [List.nil_append, List.append_nil] at hp
      have h1 := hlt (.cell b off) (by simp [hp])
      rw [hb.frozen (p := ⟨b, off, none⟩) h1]
      exact hz b off (by simpa using hp)
    · intro ha
      simpa using hn ha
    · intro x hx _
      simpa using hx
end

/-- A law of a program that runs in one step: the contract is what its function computes. -/
theorem law_lifted {C : Checked} {os : Os} {f : FuncId} {fn : Func} {s : ChangeSpec} {conds : List PathCond} {apart fresh handsOn again : Bool} {tb : TypeId} {H : Type} {enc : TypeId × Value → H}
    (own : ownKnob C.prog.godebug = none) (started : os.Started) (noInit : C.prog.inits.idxOf? f = none) (hfn : C.prog.funcs[f]? = some fn)
    (witness : ∃ (w : World) (tape : Tape) (i : Input), w.os = os ∧ (w.forCall tape i).Shaped C.prog ∧ i.vars = [] ∧ Input.okWide C.prog (w.forCall tape i) .any w.heap.size f i ∧
      s.pre6 enc C.prog fn conds apart (w.forCall tape i).memory i.args ∧ Assume.holds {} C.prog (lone (Frame.enter C.prog f i.args .normal) [] (w.forCall tape i)))
    (hv : s.vars = []) (hs : ∀ ds : List (DataW H), ds.length = fn.params.size → s.fn H ds = { results := [.lit (.bool true)], args := ds })
    (hrt : fn.resultTypes = #[tb]) (htb : C.prog.underlying tb = some .bool) (hl : laidOutB C.prog = true) (hread : ∀ t ∈ fn.params.toList, C.prog.readableRec t = true ∧ t < C.prog.types.size)
    (contract : ∀ (W : World) (base : Nat) (args : Array Value) (ds : List (DataW H)) (ps : List MemPlace),
      (∀ (j : Nat) t v, fn.params[j]? = some t → args[j]? = some v → Value.okWide C.prog W .any base t v) →
      DataW.TrodAll enc C.prog W 0 (fun _ => true) true fn.params.toList args.toList ds ps →
      Calls C.prog f args W fun e W' => e = .returned (.bool true) ∧ Since W W') :
    ReturnsInHanded {} C os f .any (s.pre6 enc C.prog fn conds apart) (s.post enc C.prog fn apart fresh handsOn again) := by
  refine returnsInHanded_of_change own started noInit hfn witness ?_
  intro W base args ds gs before hval hW _ _
  obtain ⟨p, q, hA, _⟩ := id hW
  exact (contract W base args ds p hval hA).mono fun e W' ⟨he, hS⟩ => ⟨_, he, law_post hW hv hs hrt htb hl hread hS⟩

/-! ### Arguments -/

section
variable {H : Type} {enc : TypeId × Value → H} {P : Program} {W : World}

/-- A slice of whole numbers. -/
theorem arg_ints {t e : TypeId} {k : IntKind} {base : Nat} {v : Value} {d : DataW H} {ps : List MemPlace} (ht : P.underlying t = some (.slice e)) (he : P.underlying e = some (.int k)) (hc : P.cellsOf e = 1)
    (hval : Value.okWide P W .any base t v) (h : DataW.Trod enc P W 0 (fun _ => true) true t v d ps) :
    ∃ (s : Sl) (zs : List Int), v = .slice s.b s.l s.c ∧ Rd W s 1 (fun n => [Value.int k n]) zs ∧ (∀ n ∈ zs, (Lit.int k n).wf = true) ∧ s.c ≤ maxLen := by
  obtain ⟨a1, len, cap, rfl⟩ := okWide_slice ht hval
  obtain ⟨fuel, hf⟩ := h
  rcases open_ints ht he hc hf with ⟨hcs, hx⟩ | ⟨a, len', cap', zs, hcs, _, hl, hm, hz, hx, hcell, hwz⟩
  · simp [Value.cells] at hcs
    obtain ⟨rfl, rfl, rfl⟩ := hcs
    exact ⟨⟨none, 0, 0⟩, [], rfl, Rd.nil _ _ _, by simp, by simp [maxLen]⟩
  · simp [Value.cells] at hcs
    obtain ⟨rfl, rfl, rfl⟩ := hcs
    have hz' : zs.length = cap := by simpa using hz
    refine ⟨⟨some a, len, cap⟩, zs.take len, rfl, ⟨by simp; omega, hl, fun i x hi => ⟨a, rfl, ?_⟩⟩, fun n hn => hwz n (List.mem_of_mem_take hn), hm⟩
    have hlt : i < (zs.take len).length := (List.getElem?_eq_some_iff.1 hi).1
    have hlt' : i < len ∧ i < zs.length := by simp at hlt; omega
    have hx : zs[i]? = some x := by rw [← hi, List.getElem?_take_of_lt hlt'.1]
    refine ⟨?_, trivial⟩
    rw [add_add, Nat.mul_one, Nat.add_zero, hcell i hlt'.2]
    simp [List.getD, hx]
/-- An array of three whole numbers. -/
theorem arg_three {t e : TypeId} {k : IntKind} {base : Nat} {v : Value} {d : DataW H} {ps : List MemPlace} (ht : P.underlying t = some (.array 3 e)) (he : P.underlying e = some (.int k)) (hc : P.cellsOf e = 1) (hct : P.cellsOf t = 3)
    (hval : Value.okWide P W .any base t v) (h : DataW.Trod enc P W 0 (fun _ => true) true t v d ps) :
    ∃ x y z : Int, v = .agg #[.int k x, .int k y, .int k z] ∧ (Lit.int k x).wf = true ∧ (Lit.int k y).wf = true ∧ (Lit.int k z).wf = true := by
  have hcs : ∃ cs, v = .agg cs ∧ cs.size = 3 := by
    simp only [Value.okWide, ht] at hval
    obtain ⟨cs, h1, h2, _⟩ := hval
    exact ⟨cs, h1, h2.trans hct⟩
  obtain ⟨cs, rfl, hs⟩ := hcs
  obtain ⟨c0, c1, c2, rfl⟩ : ∃ c0 c1 c2, cs = #[c0, c1, c2] := by
    obtain ⟨l⟩ := cs
    match l, hs with
    | [a, b, c], _ => exact ⟨a, b, c, rfl⟩
  obtain ⟨fuel, hf⟩ := h
  obtain ⟨y0, y1, y2, n, _, h0, h1, h2⟩ := trod_array3 ht hc hf
  obtain ⟨x, e0, _, w0⟩ := DataW.trod_int he h0
  obtain ⟨y, e1, _, w1⟩ := DataW.trod_int he h1
  obtain ⟨z, e2, _, w2⟩ := DataW.trod_int he h2
  simp at e0 e1 e2
  exact ⟨x, y, z, by rw [e0, e1, e2], w0, w1, w2⟩

end

/-! ### Bytes as a string -/

theorem toList_loop (b : ByteArray) : ∀ (n i : Nat) (r : List UInt8), b.size - i = n → i ≤ b.size → ByteArray.toList.loop b i r = r.reverse ++ b.data.toList.drop i := by
  intro n
  induction n with
  | zero =>
    intro i r h hi
    unfold ByteArray.toList.loop
    rw [if_neg (by omega), List.drop_of_length_le (by rw [Array.length_toList]; show b.size ≤ i; omega), List.append_nil]
  | succ n ih =>
    intro i r h hi
    unfold ByteArray.toList.loop
    have hlt : i < b.size := by omega
    rw [if_pos hlt, ih (i + 1) _ (by omega) (by omega)]
    have hlt' : i < b.data.toList.length := by rw [Array.length_toList]; exact hlt
    rw [List.drop_eq_getElem_cons hlt']
    have : b.get! i = b.data.toList[i] := by
      have h3 : i < b.data.size := hlt
      simp only [ByteArray.get!, Array.getElem_toList]
      exact getElem!_pos b.data i h3
    simp [this]
theorem toList_data (b : ByteArray) : b.toList = b.data.toList := by
  unfold ByteArray.toList
  rw [toList_loop b b.size 0 [] rfl (by omega)]; simp

end Go.Den
