/-
  Rules for maps: what a map's block holds, told as a function.
-/
import Derived.Test.YtadacfoiphklgaaMpMem
import Derived.MapKept
namespace Go.Den
open Go Go.MapKept

/-- Keys that can be found. -/
structure KeyOk {K : Type} (P : Program) (kt : TypeId) (ek : K → Value) : Prop where
  check : ∀ (e : Bool) (x : K) (w : World), (Instr.checkKey e 10000 kt (ek x)).run P w = .ok () w
  find : ∀ (x : K) (w : World) (l : List MapEntry) (ks : List K), l.map (·.key) = ks.map ek →
    (x ∉ ks ∧ (Instr.findKey kt (ek x) l).run P w = .ok none w) ∨ ∃ j e, ks[j]? = some x ∧ l[j]? = some e ∧ (Instr.findKey kt (ek x) l).run P w = .ok (some (j, e.val)) w
  stays : ∀ x : K, Instr.sameBits 10000 (ek x) (ek x) = true

theorem keyOk_int {P : Program} {kt : TypeId} {k : IntKind} (hd : P.underlying kt = some (.int k)) : KeyOk P kt (fun n : Int => .int k n) where
  check e x w := run_checkKey hd (by simp [IsKey]) e 9999
  find x w l ks h := by
    have hk : ∀ e ∈ l, IsKey (.int k) e.key := fun e he => by
      have : e.key ∈ ks.map (fun n : Int => Value.int k n) := h ▸ List.mem_map.2 ⟨e, he, rfl⟩
      obtain ⟨n, _, hn⟩ := List.mem_map.1 this
      rw [← hn]; simp [IsKey]
    rcases findNow_spec (d := .int k) (k := .int k x) (by simp [IsKey]) l 0 hk with ⟨h1, h2⟩ | ⟨j, e, h1, h2, h3⟩
    · refine .inl ⟨fun hx => ?_, run_findKey hd h1⟩
      have : (Value.int k x) ∈ l.map (·.key) := h ▸ List.mem_map.2 ⟨x, hx, rfl⟩
      obtain ⟨e, he, he2⟩ := List.mem_map.1 this
      exact h2 e he he2
    · rw [Nat.zero_add] at h1
      refine .inr ⟨j, e, ?_, h2, run_findKey hd h1⟩
      have : (l.map (·.key))[j]? = some (.int k x) := by rw [List.getElem?_map, h2]; simp [h3]
      rw [h, List.getElem?_map] at this
      cases hj : ks[j]? with
      | none => rw [hj] at this; cases this
      | some n => rw [hj] at this; simp at this; rw [this]
  stays x := by simp [Instr.sameBits]

theorem keyOk_two {P : Program} {kt e : TypeId} (hd : P.underlying kt = some (.array 2 e)) (he : P.underlying e = some (.int .i64)) (hs : (P.info? e).map (·.size) = some 1) : KeyOk P kt (fun p : Int × Int => .agg #[.int .i64 p.1, .int .i64 p.2]) := by
  have hsz : ∀ w, (sizeOf e).run P w = .ok 1 w := fun w => by
    cases hq : P.info? e with
    | none => rw [hq] at hs; cases hs
    | some i => rw [hq] at hs; simp at hs; rw [run_sizeOf' hq w, hs]
  have hag : ∀ w, (isAgg e).run P w = .ok false w := fun w => by simp [isAgg, run_underlying he]
  have hpart : ∀ (x y : Int) w, (part e #[.int .i64 x, .int .i64 y] 0).run P w = .ok (.int .i64 x) w ∧ (part e #[.int .i64 x, .int .i64 y] 1).run P w = .ok (.int .i64 y) w := fun x y w => by
    constructor <;> simp [part, hag]
  have heq : ∀ (p q : Int × Int) w, (Op.equal kt (.agg #[.int .i64 p.1, .int .i64 p.2]) (.agg #[.int .i64 q.1, .int .i64 q.2])).run P w = .ok (decide (p = q)) w := fun p q w => by
    obtain ⟨a, b⟩ := p
    obtain ⟨c, d⟩ := q
    have hi : ∀ (x y : Int) w, (Op.equalIn 9999 e (.int .i64 x) (.int .i64 y)).run P w = .ok (x == y) w := fun x y w => run_equalIn_int w 9998 e .i64 .i64 x y he
    have h1 := hpart a b
    have h2 := hpart c d
    unfold Op.equal Op.maxDepth Op.equalIn
    simp only [Sem.run_bind, run_underlying hd, hsz, Result.andThen_ok]
    by_cases hac : a = c
    · by_cases hbd : b = d
      · simp [hac, hbd, (hpart c d _).1, (hpart c d _).2, hi, List.range'_succ, Result.andThen]
      · simp [hac, hbd, (hpart c d _).1, (hpart c d _).2, (hpart c b _).1, (hpart c b _).2, hi, List.range'_succ, Result.andThen]
    · simp [hac, (hpart c d _).1, (hpart c d _).2, (hpart a b _).1, (hpart a b _).2, hi, List.range'_succ, Result.andThen]
  refine ⟨fun em x w => ?_, fun x w l ks h => ?_, fun x => ?_⟩
  · have hc : ∀ (n : Int) w, (Instr.checkKey em 9999 e (.int .i64 n)).run P w = .ok () w := fun n w => run_checkKey he (by simp [IsKey]) em 9998
    unfold Instr.checkKey
    simp [run_underlying hd, hsz, (hpart x.1 x.2 _).1, (hpart x.1 x.2 _).2, hc, List.range'_succ, Result.andThen]
  · have ask : ∀ (l : List MapEntry) (ks : List (Int × Int)) (i : Nat), l.map (·.key) = ks.map (fun p : Int × Int => Value.agg #[.int .i64 p.1, .int .i64 p.2]) →
        (x ∉ ks ∧ (Instr.findAsking kt (.agg #[.int .i64 x.1, .int .i64 x.2]) l i).run P w = .ok none w) ∨ ∃ j e, ks[j]? = some x ∧ l[j]? = some e ∧ (Instr.findAsking kt (.agg #[.int .i64 x.1, .int .i64 x.2]) l i).run P w = .ok (some (i + j, e.val)) w := by
      intro l
      induction l with
      | nil => intro ks i h; cases ks with
        | nil => exact .inl ⟨by simp, by simp [Instr.findAsking]⟩
        | cons => simp at h
      | cons en l ih =>
        intro ks i h
        cases ks with
        | nil => simp at h
        | cons q ks =>
          simp only [List.map_cons, List.cons.injEq] at h
          have h0 := heq x q w
          rw [← h.1] at h0
          by_cases hq : x = q
          · refine .inr ⟨0, en, by simp [hq], rfl, ?_⟩
            rw [hq] at h0
            simp [Instr.findAsking, h0, hq]
          · have hrun : (Instr.findAsking kt (.agg #[.int .i64 x.1, .int .i64 x.2]) (en :: l) i).run P w = (Instr.findAsking kt (.agg #[.int .i64 x.1, .int .i64 x.2]) l (i + 1)).run P w := by
              simp [Instr.findAsking, h0, hq]
            rcases ih ks (i + 1) h.2 with ⟨h1, h2⟩ | ⟨j, e', h1, h2, h3⟩
            · exact .inl ⟨by simp [hq, h1], by rw [hrun]; exact h2⟩
            · exact .inr ⟨j + 1, e', by simpa using h1, by simpa using h2, by rw [hrun, h3, show i + 1 + j = i + (j + 1) by omega]⟩
    have key : (Instr.findKey kt (.agg #[.int .i64 x.1, .int .i64 x.2]) l).run P w = (Instr.findAsking kt (.agg #[.int .i64 x.1, .int .i64 x.2]) l 0).run P w := by
      unfold Instr.findKey
      cases l with
      | nil => simp [run_underlying hd, Instr.findNow, Instr.findAsking]
      | cons en l =>
        have : Instr.findNow (.array 2 e) (.agg #[.int .i64 x.1, .int .i64 x.2]) (en :: l) 0 = none := by simp [Instr.findNow, Instr.sameNow]
        simp [run_underlying hd, this]
    rw [key]
    simpa using ask l ks 0 h
  · simp [Instr.sameBits]

/-! ### What a map holds -/

theorem encK_two (kn : Knd) (x : kn.T) (b : Bool) : encK [kn, .c .bool] (x, b, ()) = [kn.enc x, .bool b] := rfl
def mget {K V : Type} [DecidableEq K] : List (K × V) → K → Option V
  | [], _ => none
  | p :: r, x => if p.1 = x then some p.2 else mget r x
theorem mget_none {K V : Type} [DecidableEq K] : ∀ {l : List (K × V)} {x : K}, x ∉ l.map (·.1) → mget l x = none
  | [], _, _ => rfl
  | p :: r, x, h => by
    simp at h
    unfold mget
    rw [if_neg (fun e => h.1 e.symm), mget_none (by simpa using h.2)]
theorem mget_some {K V : Type} [DecidableEq K] : ∀ {l : List (K × V)} {x : K} {v : V} {j : Nat}, (l.map (·.1)).Nodup → l[j]? = some (x, v) → mget l x = some v
  | [], _, _, j, _, h => by simp at h
  | p :: r, x, v, 0, _, h => by simp at h; subst h; simp [mget]
  | p :: r, x, v, j + 1, hn, h => by
    simp at h hn
    unfold mget
    have : p.1 ≠ x := fun e => hn.1 v (by rw [e]; exact List.mem_of_getElem? h)
    rw [if_neg this]
    exact mget_some (by simpa using hn.2) h
theorem mget_mem {K V : Type} [DecidableEq K] : ∀ {l : List (K × V)} {x : K}, (mget l x).isSome = true ↔ x ∈ l.map (·.1)
  | [], _ => by simp [mget]
  | p :: r, x => by
    unfold mget
    by_cases h : p.1 = x
    · simp [h]
    · rw [if_neg h, mget_mem]; simp [Ne.symm h]

/-- Each entry has a stamp of its own. -/
def Born (es : Array MapEntry) (clock : Nat) : Prop := (∀ e ∈ es.toList, e.born < clock) ∧ (es.toList.map (·.born)).Nodup
/-- The map at a block, as a function. -/
def MapF {K : Type} [DecidableEq K] (w : World) (r : Nat) (ek : K → Value) (kn : Knd) (f : K → Option kn.T) (n : Nat) : Prop :=
  ∃ (es : Array MapEntry) (clock : Nat) (l : List (K × kn.T)), w.heap[r]? = some (.map es clock) ∧ es.toList.map (·.key) = l.map (fun p => ek p.1) ∧ es.toList.map (·.val) = l.map (fun p => kn.enc p.2) ∧ (l.map (·.1)).Nodup ∧ (∀ x, f x = mget l x) ∧ l.length = n ∧ Born es clock

section
variable {K : Type} [DecidableEq K] {P : Program} {w : World} {r : Nat} {ek : K → Value} {kn : Knd} {f : K → Option kn.T} {n : Nat}

theorem MapF.lt (h : MapF w r ek kn f n) : r < w.heap.size := by obtain ⟨es, c, l, h1, _⟩ := h; exact (Array.getElem?_eq_some_iff.1 h1).1
theorem MapF.mod {F : Nat → Prop} {w' : World} (h : MapF w r ek kn f n) (hm : Mod F w w') (hF : ¬ F r) : MapF w' r ek kn f n := by
  have hl := h.lt
  obtain ⟨es, c, l, h1, h2⟩ := h
  exact ⟨es, c, l, (hm.block r hl hF).trans h1, h2⟩
theorem MapF.congr {g : K → Option kn.T} {m : Nat} (h : MapF w r ek kn f n) (hg : ∀ x, g x = f x) (hm : m = n) : MapF w r ek kn g m := by
  obtain ⟨es, c, l, h1, h2, h3, h4, h5, h6, hB⟩ := h
  exact ⟨es, c, l, h1, h2, h3, h4, fun x => (hg x).trans (h5 x), h6.trans hm.symm, hB⟩
theorem MapF.keys (h : MapF w r ek kn f n) : ∃ ks : List K, ks.Nodup ∧ ks.length = n ∧ ∀ x, x ∈ ks ↔ (f x).isSome = true := by
  obtain ⟨es, c, l, h1, h2, h3, h4, h5, h6, hB⟩ := h
  exact ⟨l.map (·.1), h4, by simpa using h6, fun x => by rw [h5 x, mget_mem]⟩
theorem MapF.new (w : World) (ek : K → Value) (kn : Knd) : MapF (w.alloc (.map #[] 0)) w.heap.size ek kn (fun _ => none) 0 :=
  ⟨#[], 0, [], heap_alloc_new w _, rfl, rfl, List.nodup_nil, fun _ => rfl, rfl, by simp, List.nodup_nil⟩

theorem MapF.find {kt : TypeId} (hk : KeyOk P kt ek) (h : MapF w r ek kn f n) (x : K) (w' : World) : ∃ (es : Array MapEntry) (clock : Nat) (l : List (K × kn.T)), w.heap[r]? = some (.map es clock) ∧ es.toList.map (·.key) = l.map (fun p => ek p.1) ∧ es.toList.map (·.val) = l.map (fun p => kn.enc p.2) ∧ (l.map (·.1)).Nodup ∧ (∀ x, f x = mget l x) ∧ l.length = n ∧ Born es clock ∧
    ((x ∉ l.map (·.1) ∧ f x = none ∧ (Instr.findKey kt (ek x) es.toList).run P w' = .ok none w') ∨ ∃ j v, f x = some v ∧ l[j]? = some (x, v) ∧ j < es.size ∧ (es.toList[j]?).map (·.key) = some (ek x) ∧ (Instr.findKey kt (ek x) es.toList).run P w' = .ok (some (j, kn.enc v)) w') := by
  obtain ⟨es, c, l, h1, h2, h3, h4, h5, h6, hB⟩ := h
  refine ⟨es, c, l, h1, h2, h3, h4, h5, h6, hB, ?_⟩
  rcases hk.find x w' es.toList (l.map (·.1)) (by rw [h2, List.map_map]; rfl) with ⟨g1, g2⟩ | ⟨j, e, g1, g2, g3⟩
  · exact .inl ⟨g1, by rw [h5, mget_none g1], g2⟩
  · right
    rw [List.getElem?_map] at g1
    cases hj : l[j]? with
    | none => rw [hj] at g1; cases g1
    | some p =>
      rw [hj] at g1
      have hp : p.1 = x := by simpa using g1
      obtain ⟨y, v⟩ := p
      simp only at hp
      subst hp
      have hv : e.val = kn.enc v := by
        have : (es.toList.map (·.val))[j]? = some e.val := by rw [List.getElem?_map, g2]; rfl
        rw [h3, List.getElem?_map, hj] at this
        simpa using this.symm
      have hkey : (es.toList[j]?).map (·.key) = some (ek y) := by
        have : (es.toList.map (·.key))[j]? = some (ek y) := by rw [h2, List.getElem?_map, hj]; rfl
        rwa [List.getElem?_map] at this
      refine ⟨j, v, by rw [h5, mget_some h4 hj], hj, by simpa using (List.getElem?_eq_some_iff.1 g2).1, hkey, by rw [← hv]; exact g3⟩

theorem mapNew_i {Q : Nat → World → Prop} (hQ : MapF (w.alloc (.map #[] 0)) w.heap.size ek kn (fun _ => none) 0 → Keep w (w.alloc (.map #[] 0)) → Q w.heap.size (w.alloc (.map #[] 0))) : mapNewD w Q := hQ (MapF.new w ek kn) (Keep.alloc w _)

theorem lookup2_i {kt et : TypeId} {t : TypeId} (ht : P.underlying t = some (.map kt et)) (hk : KeyOk P kt ek) {z : kn.T} (hz : (P.info? et).map (·.zero) = some (some (kn.enc z))) (h : MapF w r ek kn f n) (x : K) {Q : kn.T → Bool → World → Prop}
    (hQ : Q ((f x).getD z) (f x).isSome w) : lookup2D P kn t (.map (some r)) (ek x) w Q := by
  obtain ⟨es, c, l, h1, h2, h3, h4, h5, h6, hB, hf⟩ := h.find hk x w
  have hzv : (zeroValue et).run P w = .ok (kn.enc z) w := by
    cases hq : P.info? et with
    | none => rw [hq] at hz; cases hz
    | some i => rw [hq] at hz; simp at hz; simp [zeroValue, typeInfo, hq, hz]
  rcases hf with ⟨_, g, hrun⟩ | ⟨j, v, g, _, _, _, hrun⟩
  · rw [g] at hQ
    exact ⟨(z, false, ()), w, by simp [Instr.lookup, run_underlying ht, MapKept.run_getObj_map h1, hk.check, hrun, hzv, encK_two], hQ⟩
  · rw [g] at hQ
    exact ⟨(v, true, ()), w, by simp [Instr.lookup, run_underlying ht, MapKept.run_getObj_map h1, hk.check, hrun, encK_two], hQ⟩
theorem lookup1_i {kt et : TypeId} {t : TypeId} (ht : P.underlying t = some (.map kt et)) (hk : KeyOk P kt ek) {z : kn.T} (hz : (P.info? et).map (·.zero) = some (some (kn.enc z))) (h : MapF w r ek kn f n) (x : K) {Q : kn.T → World → Prop}
    (hQ : Q ((f x).getD z) w) : lookup1D P kn t (.map (some r)) (ek x) w Q := by
  obtain ⟨es, c, l, h1, h2, h3, h4, h5, h6, hB, hf⟩ := h.find hk x w
  have hzv : (zeroValue et).run P w = .ok (kn.enc z) w := by
    cases hq : P.info? et with
    | none => rw [hq] at hz; cases hz
    | some i => rw [hq] at hz; simp at hz; simp [zeroValue, typeInfo, hq, hz]
  rcases hf with ⟨_, g, hrun⟩ | ⟨j, v, g, _, _, _, hrun⟩
  · rw [g] at hQ
    exact ⟨z, w, by simp [Instr.lookup, run_underlying ht, MapKept.run_getObj_map h1, hk.check, hrun, hzv], hQ⟩
  · rw [g] at hQ
    exact ⟨v, w, by simp [Instr.lookup, run_underlying ht, MapKept.run_getObj_map h1, hk.check, hrun], hQ⟩
theorem mapLen_i {kt et : TypeId} {t : TypeId} (ht : P.underlying t = some (.map kt et)) (h : MapF w r ek kn f n) {Q : Int → World → Prop} (hQ : Q (n : Int) w) : mapLenD P t (.map (some r)) w Q := by
  obtain ⟨es, c, l, h1, h2, h3, h4, h5, h6, hB⟩ := h
  have hs : es.size = n := by rw [← h6]; have := congrArg List.length h2; simpa using this
  exact ⟨(n : Int), w, by simp [Builtin.len_, run_underlying ht, MapKept.run_getObj_map h1, goInt, hs, Knd.enc, CK.enc], hQ⟩

theorem map_modify_key (es : Array MapEntry) (i : Nat) (k v : Value) (hk : (es.toList[i]?).map (·.key) = some k) : (es.modify i fun e => { e with key := k, val := v }).toList.map (·.key) = es.toList.map (·.key) := by
  apply List.ext_getElem?
  intro j
  simp only [List.getElem?_map, Array.toList_modify, List.getElem?_modify]
  by_cases hj : i = j
  · subst hj
    cases he : es.toList[i]? with
    | none => rfl
    | some e => rw [he] at hk; simp at hk; simp [hk]
  · simp [hj]
theorem map_modify_val (es : Array MapEntry) (i : Nat) (k v : Value) : (es.modify i fun e => { e with key := k, val := v }).toList.map (·.val) = (es.toList.map (·.val)).set i v := by
  apply List.ext_getElem?
  intro j
  simp only [List.getElem?_map, Array.toList_modify, List.getElem?_modify, List.getElem?_set]
  by_cases hj : i = j
  · subst hj
    by_cases hlt : i < es.toList.length
    · have h2 : i < es.size := by simpa using hlt
      simp [h2]
    · rw [List.getElem?_eq_none (by omega)]; simp at hlt; simp; omega
  · simp [hj]
theorem mget_set {V : Type} : ∀ {l : List (K × V)} {j : Nat} {x : K} {v : V}, (l.map (·.1)).Nodup → (l[j]?).map (·.1) = some x → ∀ y, mget (l.set j (x, v)) y = if y = x then some v else mget l y
  | [], j, x, v, _, h, _ => by simp at h
  | p :: r, 0, x, v, hn, h, y => by
    simp at h
    simp only [List.set_cons_zero, mget]
    by_cases hy : y = x
    · simp [hy]
    · rw [if_neg (fun e => hy e.symm), if_neg hy, h, if_neg (fun e => hy e.symm)]
  | p :: r, j + 1, x, v, hn, h, y => by
    simp only [List.getElem?_cons_succ] at h
    simp only [List.map_cons, List.nodup_cons] at hn
    simp only [List.set_cons_succ, mget]
    have hx : x ∈ r.map (·.1) := by
      cases hj : r[j]? with
      | none => rw [hj] at h; cases h
      | some q => rw [hj] at h; simp at h; rw [← h]; exact List.mem_map.2 ⟨q, List.mem_of_getElem? hj, rfl⟩
    have hpx : p.1 ≠ x := fun e => hn.1 (e ▸ hx)
    rw [mget_set hn.2 h y]
    by_cases hy : y = x
    · subst hy; simp [hpx]
    · simp [hy]
theorem mget_append {V : Type} : ∀ {l : List (K × V)} {x : K} {v : V}, x ∉ l.map (·.1) → ∀ y, mget (l ++ [(x, v)]) y = if y = x then some v else mget l y
  | [], x, v, _, y => by
    simp only [List.nil_append, mget]
    by_cases h : y = x
    · simp [h]
    · rw [if_neg (fun e => h e.symm), if_neg h]
  | p :: r, x, v, hn, y => by
    simp only [List.map_cons, List.mem_cons, not_or] at hn
    simp only [List.cons_append, mget]
    rw [mget_append hn.2 y]
    by_cases hy : y = x
    · subst hy; rw [if_neg (fun e => hn.1 e.symm)]; simp
    · simp [hy]

theorem Born.push {es : Array MapEntry} {c : Nat} (h : Born es c) (k v : Value) : Born (es.push { key := k, val := v, born := c }) (c + 1) := by
  obtain ⟨h1, h2⟩ := h
  refine ⟨fun e he => ?_, ?_⟩
  · simp only [Array.toList_push, List.mem_append, List.mem_singleton] at he
    rcases he with he | rfl
    · have := h1 e he; omega
    · exact Nat.lt_succ_self _
  · simp only [Array.toList_push, List.map_append, List.map_cons, List.map_nil]
    rw [List.nodup_append]
    refine ⟨h2, by simp, fun a ha b hb => ?_⟩
    simp at hb; subst hb
    obtain ⟨e, he, rfl⟩ := List.mem_map.1 ha
    have := h1 e he; omega
theorem born_modify (es : Array MapEntry) (i : Nat) (F : MapEntry → MapEntry) (hF : ∀ e, (F e).born = e.born) : (es.modify i F).toList.map (·.born) = es.toList.map (·.born) := by
  apply List.ext_getElem?
  intro j
  simp only [List.getElem?_map, Array.toList_modify, List.getElem?_modify]
  by_cases hj : i = j
  · subst hj; cases es.toList[i]? with
    | none => rfl
    | some e => simp [hF]
  · simp [hj]
theorem Born.modify {es : Array MapEntry} {c : Nat} (h : Born es c) (i : Nat) (F : MapEntry → MapEntry) (hF : ∀ e, (F e).born = e.born) : Born (es.modify i F) c := by
  have hb := born_modify es i F hF
  refine ⟨fun e he => ?_, by rw [hb]; exact h.2⟩
  have : e.born ∈ es.toList.map (·.born) := hb ▸ List.mem_map.2 ⟨e, he, rfl⟩
  obtain ⟨e', he', e1⟩ := List.mem_map.1 this
  rw [← e1]; exact h.1 e' he'
theorem Born.erase {es : Array MapEntry} {c : Nat} (h : Born es c) (i : Nat) : Born (es.eraseIdxIfInBounds i) c := by
  have hs : (es.eraseIdxIfInBounds i).toList.Sublist es.toList := by
    unfold Array.eraseIdxIfInBounds
    split
    · simp only [Array.toList_eraseIdx]; exact List.eraseIdx_sublist _ _
    · exact List.Sublist.refl _
  exact ⟨fun e he => h.1 e (hs.subset he), h.2.sublist (hs.map _)⟩
/-- A stamp's entry. -/
theorem Born.find {es : Array MapEntry} {c : Nat} (h : Born es c) {i : Nat} {e : MapEntry} (he : es.toList[i]? = some e) : es.findIdx? (fun x => (x.born : Int) == (e.born : Int)) = some i := by
  obtain ⟨l⟩ := es
  rw [List.findIdx?_toArray, List.findIdx?_eq_some_iff_getElem]
  have hi := (List.getElem?_eq_some_iff.1 he).1
  have hg : l[i] = e := (List.getElem?_eq_some_iff.1 he).2
  refine ⟨hi, by rw [hg]; simp, fun j hj => ?_⟩
  have hn := h.2
  simp only at hn
  have hi' : i < l.length := hi
  have hj' : j < l.length := by omega
  have hne : l[j].born ≠ l[i].born := fun e' => by
    have := List.pairwise_iff_getElem.1 hn j i (by simp; omega) (by simpa using hi) hj
    simp at this
    exact this e'
  rw [hg] at hne
  simp; omega
theorem setObj_mod (w : World) (r : Nat) (o : Obj) : Mod (fun k => k = r) w { w with heap := w.heap.setIfInBounds r o } :=
  ⟨rfl, rfl, rfl, by simp, fun k _ hk => by simp [Ne.symm hk]⟩
theorem update_i {kt et : TypeId} {t : TypeId} (ht : P.underlying t = some (.map kt et)) (hk : KeyOk P kt ek) (h : MapF w r ek kn f n) (x : K) (v : kn.T) {Q : World → Prop}
    (hQ : ∀ w', MapF w' r ek kn (fun y => if y = x then some v else f y) (if (f x).isSome then n else n + 1) → Mod (fun k => k = r) w w' → w'.heap.size = w.heap.size → Q w') : mapUpdateD P t (.map (some r)) (ek x) (kn.enc v) w Q := by
  obtain ⟨es, c, l, h1, h2, h3, h4, h5, h6, hB, hf⟩ := h.find hk x w
  rcases hf with ⟨hx, g, hrun⟩ | ⟨j, u, g, hj, hjs, hkey, hrun⟩
  · refine ⟨{ w with heap := w.heap.setIfInBounds r (.map (es.push { key := ek x, val := kn.enc v, born := c }) (c + 1)) }, by simp [Instr.mapUpdate, run_underlying ht, MapKept.run_getObj_map h1, hk.check, hrun, run_setObj_map _ h1], hQ _ ?_ (setObj_mod w r _) (by simp)⟩
    refine ⟨_, _, l ++ [(x, v)], (heap_set h1).1, by simp [h2], by simp [h3], ?_, fun y => ?_, by rw [g]; simp [h6], hB.push _ _⟩
    · rw [List.map_append, List.nodup_append]
      exact ⟨h4, by simp, fun a ha b hb => by simp at hb; subst hb; exact fun e => hx (e ▸ ha)⟩
    · show (if y = x then some v else f y) = _
      rw [mget_append hx y, h5]
  · obtain ⟨e, he⟩ : ∃ e, es.toList[j]? = some e := ⟨_, List.getElem?_eq_getElem (by simpa using hjs)⟩
    have hek : e.key = ek x := by rw [he] at hkey; simpa using hkey
    have hea : es[j]? = some e := by simpa using he
    refine ⟨{ w with heap := w.heap.setIfInBounds r (.map (es.modify j fun e => { e with key := ek x, val := kn.enc v }) c) }, by simp [Instr.mapUpdate, run_underlying ht, MapKept.run_getObj_map h1, hk.check, hrun, run_setObj_map _ h1, Instr.keyThatStays, hea, hek, hk.stays], hQ _ ?_ (setObj_mod w r _) (by simp)⟩
    refine ⟨_, _, l.set j (x, v), (heap_set h1).1, ?_, ?_, ?_, fun y => ?_, by rw [g]; simp [h6], hB.modify j (fun e => { e with key := ek x, val := kn.enc v }) fun _ => rfl⟩
    · rw [map_modify_key es j _ _ hkey, h2]
      apply List.ext_getElem?
      intro i
      simp only [List.getElem?_map, List.getElem?_set]
      by_cases hi : j = i
      · subst hi
        have hlt := (List.getElem?_eq_some_iff.1 hj).1
        rw [hj]; simp [hlt]
      · simp [hi]
    · rw [map_modify_val, h3, List.map_set]
    · have : (l.set j (x, v)).map (·.1) = l.map (·.1) := by
        apply List.ext_getElem?
        intro i
        simp only [List.getElem?_map, List.getElem?_set]
        by_cases hi : j = i
        · subst hi
          have hlt := (List.getElem?_eq_some_iff.1 hj).1
          rw [hj]; simp [hlt]
        · simp [hi]
      rw [this]; exact h4
    · show (if y = x then some v else f y) = _
      rw [mget_set h4 (by rw [hj]; rfl) y, h5]

theorem map_val_key (es : Array MapEntry) (i : Nat) (v : Value) : (es.modify i fun e => { e with val := v }).toList.map (·.key) = es.toList.map (·.key) := by
  apply List.ext_getElem?
  intro j
  simp only [List.getElem?_map, Array.toList_modify, List.getElem?_modify]
  by_cases hj : i = j
  · subst hj; cases es.toList[i]? <;> simp
  · simp [hj]
theorem map_val_val (es : Array MapEntry) (i : Nat) (v : Value) : (es.modify i fun e => { e with val := v }).toList.map (·.val) = (es.toList.map (·.val)).set i v := by
  apply List.ext_getElem?
  intro j
  simp only [List.getElem?_map, Array.toList_modify, List.getElem?_modify, List.getElem?_set]
  by_cases hj : i = j
  · subst hj
    by_cases hlt : i < es.toList.length
    · have h2 : i < es.size := by simpa using hlt
      simp [h2]
    · rw [List.getElem?_eq_none (by omega)]; simp at hlt; simp; omega
  · simp [hj]
theorem map_key_val (es : Array MapEntry) (i : Nat) (k : Value) : (es.modify i fun e => { e with key := k }).toList.map (·.val) = es.toList.map (·.val) := by
  apply List.ext_getElem?
  intro j
  simp only [List.getElem?_map, Array.toList_modify, List.getElem?_modify]
  by_cases hj : i = j
  · subst hj; cases es.toList[i]? <;> simp
  · simp [hj]
theorem map_key_key (es : Array MapEntry) (i : Nat) (k : Value) (hk : (es.toList[i]?).map (·.key) = some k) : (es.modify i fun e => { e with key := k }).toList.map (·.key) = es.toList.map (·.key) := by
  apply List.ext_getElem?
  intro j
  simp only [List.getElem?_map, Array.toList_modify, List.getElem?_modify]
  by_cases hj : i = j
  · subst hj
    cases he : es.toList[i]? with
    | none => rfl
    | some e => rw [he] at hk; simp at hk; simp [hk]
  · simp [hj]
omit [DecidableEq K] in
theorem map_fst_set {V : Type} {l : List (K × V)} {j : Nat} {x : K} {u : V} (v : V) (hj : l[j]? = some (x, u)) : (l.set j (x, v)).map (·.1) = l.map (·.1) := by
  apply List.ext_getElem?
  intro i
  simp only [List.getElem?_map, List.getElem?_set]
  by_cases hi : j = i
  · subst hi
    have hlt := (List.getElem?_eq_some_iff.1 hj).1
    rw [hj]; simp [hlt]
  · simp [hi]
/-- A value is laid at a stamp's entry. -/
theorem entryStore_i {t : TypeId} {es : Array MapEntry} {c : Nat} {l : List (K × kn.T)} (h1 : w.heap[r]? = some (.map es c)) (h2 : es.toList.map (·.key) = l.map (fun p => ek p.1)) (h3 : es.toList.map (·.val) = l.map (fun p => kn.enc p.2)) (h4 : (l.map (·.1)).Nodup) (hB : Born es c)
    {j : Nat} {x : K} {u : kn.T} {e : MapEntry} (hj : l[j]? = some (x, u)) (he : es.toList[j]? = some e) (v : kn.T) {Q : World → Prop}
    (hQ : ∀ w', MapF w' r ek kn (fun y => if y = x then some v else mget l y) l.length → Mod (fun k => k = r) w w' → w'.heap.size = w.heap.size → Q w') : entryStoreD P t (.map (some r)) (.int .i64 (e.born : Int)) (kn.enc v) w Q := by
  have hfi := hB.find he
  refine ⟨{ w with heap := w.heap.setIfInBounds r (.map (es.modify j fun e => { e with val := kn.enc v }) c) }, by simp [Instr.entryStore, MapKept.run_getObj_map h1, asInt, asIntOf, hfi, run_setObj_map _ h1], hQ _ ?_ (setObj_mod w r _) (by simp)⟩
  exact ⟨_, _, l.set j (x, v), (heap_set h1).1, by have e1 := congrArg (List.map ek) (map_fst_set v hj); rw [List.map_map, List.map_map] at e1; rw [map_val_key, h2]; exact e1.symm, by rw [map_val_val, h3, List.map_set], by rw [map_fst_set v hj]; exact h4,
    fun y => by rw [mget_set h4 (by rw [hj]; rfl) y], by simp, hB.modify j (fun e => { e with val := kn.enc v }) fun _ => rfl⟩
/-- 'm[k] op= v', or one of many that are set. -/
theorem entry_i {kt et : TypeId} {t : TypeId} (ht : P.underlying t = some (.map kt et)) (hk : KeyOk P kt ek) {z : kn.T} (hz : (P.info? et).map (·.zero) = some (some (kn.enc z))) (h : MapF w r ek kn f n) (x : K) (v : kn.T) {Q : World → Prop}
    (hQ : ∀ w', MapF w' r ek kn (fun y => if y = x then some v else f y) (if (f x).isSome then n else n + 1) → Mod (fun k => k = r) w w' → w'.heap.size = w.heap.size → Q w') :
    mapEntryD P kn t (.map (some r)) (ek x) w fun _ sl w3 => entryStoreD P t (.map (some r)) (.int .i64 sl) (kn.enc v) w3 Q := by
  obtain ⟨es, c, l, h1, h2, h3, h4, h5, h6, hB, hf⟩ := h.find hk x w
  have hzv : (zeroValue et).run P w = .ok (kn.enc z) w := by
    cases hq : P.info? et with
    | none => rw [hq] at hz; cases hz
    | some i => rw [hq] at hz; simp at hz; simp [zeroValue, typeInfo, hq, hz]
  have two : ∀ (x : kn.T) (b : Int), encK [kn, .c (.int .i64)] (x, b, ()) = [kn.enc x, .int .i64 b] := fun _ _ => rfl
  have hsz : es.size = l.length := by have := congrArg List.length h2; simpa using this
  rcases hf with ⟨hx, g, hrun⟩ | ⟨j, u, g, hj, hjs, hkey, hrun⟩
  · have hset := (heap_set (o' := .map (es.push { key := ek x, val := kn.enc z, born := c }) (c + 1)) h1).1
    refine ⟨(z, (c : Int), ()), { w with heap := w.heap.setIfInBounds r (.map (es.push { key := ek x, val := kn.enc z, born := c }) (c + 1)) }, by simp [Instr.mapEntry, run_underlying ht, MapKept.run_getObj_map h1, hk.check, hrun, hzv, run_setObj_map _ h1, two, goInt], ?_⟩
    refine entryStore_i (ek := ek) (e := { key := ek x, val := kn.enc z, born := c }) (l := l ++ [(x, z)]) (j := l.length) (x := x) (u := z) hset (by simp [h2]) (by simp [h3]) ?_ (hB.push _ _) (by simp) (by simp [hsz]) v fun w' hm' hmod hs => ?_
    · rw [List.map_append, List.nodup_append]
      exact ⟨h4, by simp, fun a ha b hb => by simp at hb; subst hb; exact fun e => hx (e ▸ ha)⟩
    · refine hQ w' (hm'.congr (fun y => ?_) (by rw [g]; simp [h6])) ((setObj_mod w r _).tr hmod) (hs.trans (by simp))
      show (if y = x then some v else f y) = if y = x then some v else mget (l ++ [(x, z)]) y
      rw [mget_append hx y, h5]
      by_cases hy : y = x <;> simp [hy]
  · obtain ⟨e, he⟩ : ∃ e, es.toList[j]? = some e := ⟨_, List.getElem?_eq_getElem (by simpa using hjs)⟩
    have hek : e.key = ek x := by rw [he] at hkey; simpa using hkey
    have hea : es[j]? = some e := by simpa using he
    have hset := (heap_set (o' := .map (es.modify j fun e => { e with key := ek x }) c) h1).1
    refine ⟨(u, (e.born : Int), ()), { w with heap := w.heap.setIfInBounds r (.map (es.modify j fun e => { e with key := ek x }) c) }, by simp [Instr.mapEntry, run_underlying ht, MapKept.run_getObj_map h1, hk.check, hrun, run_setObj_map _ h1, Instr.keyThatStays, hea, hek, hk.stays, two, goInt], ?_⟩
    refine entryStore_i (ek := ek) (es := es.modify j fun e => { e with key := ek x }) (e := { e with key := ek x }) (l := l) (j := j) (x := x) (u := u) hset (by rw [map_key_key es j _ hkey, h2]) (by rw [map_key_val, h3]) h4 (hB.modify j (fun e => { e with key := ek x }) fun _ => rfl) hj ?_ v fun w' hm' hmod hs => ?_
    · simp [List.getElem?_modify, hea]
    · refine hQ w' (hm'.congr (fun y => ?_) (by rw [g]; simp [h6])) ((setObj_mod w r _).tr hmod) (hs.trans (by simp))
      show (if y = x then some v else f y) = if y = x then some v else mget l y
      rw [h5]
theorem mget_erase {V : Type} : ∀ {l : List (K × V)} {j : Nat} {x : K}, (l.map (·.1)).Nodup → (l[j]?).map (·.1) = some x → ∀ y, mget (l.eraseIdx j) y = if y = x then none else mget l y
  | [], j, x, _, h, _ => by simp at h
  | p :: r, 0, x, hn, h, y => by
    simp at h
    simp only [List.map_cons, List.nodup_cons] at hn
    simp only [List.eraseIdx_cons_zero, mget]
    by_cases hy : y = x
    · subst hy; rw [if_pos rfl]; exact mget_none (h ▸ hn.1)
    · rw [if_neg hy, h, if_neg (fun e => hy e.symm)]
  | p :: r, j + 1, x, hn, h, y => by
    simp only [List.getElem?_cons_succ] at h
    simp only [List.map_cons, List.nodup_cons] at hn
    simp only [List.eraseIdx_cons_succ, mget]
    have hx : x ∈ r.map (·.1) := by
      cases hj : r[j]? with
      | none => rw [hj] at h; cases h
      | some q => rw [hj] at h; simp at h; rw [← h]; exact List.mem_map.2 ⟨q, List.mem_of_getElem? hj, rfl⟩
    have hpx : p.1 ≠ x := fun e => hn.1 (e ▸ hx)
    rw [mget_erase hn.2 h y]
    by_cases hy : y = x
    · subst hy; simp [hpx]
    · simp [hy]
theorem delete_i {kt et u : TypeId} {t : TypeId} (ht : P.underlying t = some (.map kt et)) (hk : KeyOk P kt ek) (h : MapF w r ek kn f n) (x : K) {Q : World → Prop}
    (hQ : ∀ w', MapF w' r ek kn (fun y => if y = x then none else f y) (if (f x).isSome then n - 1 else n) → Mod (fun k => k = r) w w' → w'.heap.size = w.heap.size → Q w') : deleteD P t u (.map (some r)) (ek x) w Q := by
  obtain ⟨es, c, l, h1, h2, h3, h4, h5, h6, hB, hf⟩ := h.find hk x w
  rcases hf with ⟨hx, g, hrun⟩ | ⟨j, v, g, hj, hjs, hkey, hrun⟩
  · refine ⟨(), { w with heap := w.heap.setIfInBounds r (.map es c) }, by simp [Builtin.delete_, run_underlying ht, MapKept.run_getObj_map h1, hk.check, hrun, run_setObj_map _ h1, encK], hQ _ ?_ (setObj_mod w r _) (by simp)⟩
    refine ⟨_, _, l, (heap_set h1).1, h2, h3, h4, fun y => ?_, by rw [g]; simp [h6], hB⟩
    show (if y = x then none else f y) = _
    by_cases hy : y = x
    · subst hy; rw [if_pos rfl, mget_none hx]
    · rw [if_neg hy, h5]
  · refine ⟨(), { w with heap := w.heap.setIfInBounds r (.map (es.eraseIdxIfInBounds j) c) }, by simp [Builtin.delete_, run_underlying ht, MapKept.run_getObj_map h1, hk.check, hrun, run_setObj_map _ h1, encK], hQ _ ?_ (setObj_mod w r _) (by simp)⟩
    have er : (es.eraseIdxIfInBounds j).toList = es.toList.eraseIdx j := by
      unfold Array.eraseIdxIfInBounds
      rw [dif_pos hjs]; simp
    have em : ∀ {A B : Type} (F : A → B) (l : List A) (i : Nat), (l.eraseIdx i).map F = (l.map F).eraseIdx i := by
      intro A B F l
      induction l with
      | nil => intro i; simp
      | cons a l ih => intro i; cases i with
        | zero => simp
        | succ i => simp [ih]
    have hlt := (List.getElem?_eq_some_iff.1 hj).1
    refine ⟨_, _, l.eraseIdx j, (heap_set h1).1, by rw [er, em, em, h2], by rw [er, em, em, h3], ?_, fun y => ?_, by rw [g]; simp [List.length_eraseIdx, hlt, h6]; omega, hB.erase j⟩
    · rw [em]; exact h4.sublist (List.eraseIdx_sublist _ _)
    · show (if y = x then none else f y) = _
      rw [mget_erase h4 (by rw [hj]; rfl) y, h5]
end
/-- A nil map has nothing. -/
theorem lookup2_nil {K : Type} {P : Program} {w : World} {ek : K → Value} {kn : Knd} {kt et : TypeId} {t : TypeId} (ht : P.underlying t = some (.map kt et)) (hk : KeyOk P kt ek) {z : kn.T} (hz : (P.info? et).map (·.zero) = some (some (kn.enc z))) (x : K) {Q : kn.T → Bool → World → Prop}
    (hQ : Q z false w) : lookup2D P kn t (.map none) (ek x) w Q := by
  have hzv : (zeroValue et).run P w = .ok (kn.enc z) w := by
    cases hq : P.info? et with
    | none => rw [hq] at hz; cases hz
    | some i => rw [hq] at hz; simp at hz; simp [zeroValue, typeInfo, hq, hz]
  have hrun : (Instr.findKey kt (ek x) []).run P w = .ok none w := by
    rcases hk.find x w [] [] rfl with ⟨_, g⟩ | ⟨j, e, g, _⟩
    · exact g
    · simp at g
  exact ⟨(z, false, ()), w, by simp [Instr.lookup, run_underlying ht, hk.check, hrun, hzv, encK_two], hQ⟩
end Go.Den
