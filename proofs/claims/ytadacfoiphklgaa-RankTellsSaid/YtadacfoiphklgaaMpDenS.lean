/-
  The denotation is sound.
-/
import Derived.Test.YtadacfoiphklgaaMpDenD
namespace Go.Den
open Go

theorem look_append (x y : Ent) (t : Nat) : look (x ++ y) t = match look x t with
    | some v => some v
    | none => look y t := by
  induction x with
  | nil => rfl
  | cons p x ih =>
    obtain ⟨i, v⟩ := p
    simp only [List.cons_append, look]
    cases Nat.beq i t with
    | true => rfl
    | false => exact ih
theorem look_dropE (l : List Nat) (t : Nat) : ∀ (x : Ent), look (dropE x l) t = cond (mem l t) none (look x t)
  | [] => by cases mem l t <;> rfl
  | (i, v) :: r => by
    have ih := look_dropE l t r
    simp only [dropE, look]
    cases hb : Nat.beq i t with
    | true =>
      have : i = t := Nat.eq_of_beq_eq_true hb
      subst this
      cases hm : mem l i with
      | true => rw [hm] at ih; exact ih
      | false => simp only [cond_false, look, hb, cond_true]
    | false =>
      cases hm : mem l i with
      | true => simp only [cond_true]; rw [ih]; rfl
      | false => simp only [cond_false, look, hb]; rw [ih]
theorem look_keepE (l : List Nat) (t : Nat) : ∀ (x : Ent) (v : Value), look (keepE x l) t = some v → mem l t = true ∧ look x t = some v
  | [], v, h => by cases h
  | (i, u) :: r, v, h => by
    simp only [keepE] at h
    cases hm : mem l i with
    | true =>
      rw [hm] at h
      simp only [cond_true, look] at h
      cases hb : Nat.beq i t with
      | true =>
        rw [hb] at h
        have : i = t := Nat.eq_of_beq_eq_true hb
        subst this
        exact ⟨hm, by simp only [look, hb]; exact h⟩
      | false =>
        rw [hb] at h
        obtain ⟨h1, h2⟩ := look_keepE l t r v h
        exact ⟨h1, by simp only [look, hb]; exact h2⟩
    | false =>
      rw [hm] at h
      obtain ⟨h1, h2⟩ := look_keepE l t r v h
      refine ⟨h1, ?_⟩
      have : Nat.beq i t = false := by
        cases hb : Nat.beq i t with
        | false => rfl
        | true =>
          have : i = t := Nat.eq_of_beq_eq_true hb
          subst this
          rw [h1] at hm
          cases hm
      simp only [look, this]
      exact h2

theorem View.outer {n : Nat} {cur o : Ent} {a : Act} (h : View n cur o a) (l : List Nat) : ∀ t v, look (dropE cur l ++ o) t = some v → a.tmps.getD t undef = v := by
  intro t v hv
  rw [look_append, look_dropE] at hv
  cases hm : mem l t with
  | true => rw [hm] at hv; exact h.o t v hv
  | false =>
    rw [hm] at hv
    cases hl : look cur t with
    | some u => rw [hl] at hv; simp at hv; subst hv; exact h.cur t _ hl
    | none => rw [hl] at hv; exact h.o t v hv
theorem View.back {n : Nat} {cur cur' o : Ent} {l : List Nat} {a : Act} (h : View n cur' (dropE cur l ++ o) a) (ho : ∀ t v, look o t = some v → look (dropE cur l ++ o) t = some v) : View n (cur' ++ dropE cur l) o a := by
  refine ⟨h.size, ?_, fun t v hv => h.o t v (ho t v hv), h.dfr⟩
  intro t v hv
  rw [look_append] at hv
  cases hl : look cur' t with
  | some u => rw [hl] at hv; simp at hv; subst hv; exact h.cur t _ hl
  | none =>
    rw [hl] at hv
    exact h.o t v (by rw [look_append]; simp only at hv; rw [hv])

theorem rdT_view {n : Nat} {cur o : Ent} {a : Act} (h : View n cur o a) {t : Nat} {v : Value} (hx : rdT cur o t = some v) : a.tmps.getD t undef = v :=
  h.rd (x := .tmp t) hx

/-- what the outer slots say stays said when more is said ahead of it, of other slots -/
def Agree (cur o : Ent) (l : List Nat) : Prop := ∀ t v, look o t = some v → look (dropE cur l ++ o) t = some v

theorem decL_spec {n : Nat} {a : Act} : ∀ {l : List (Nat × Knd)} {cur o : Ent} {K : KTs (kindsOf l) → Prop}, View n cur o a → decL l cur o K →
    ∃ t, K t ∧ ∀ i v, look (encL l t) i = some v → a.tmps.getD i undef = v
  | [], _, _, _, _, h => ⟨(), h, fun i v hv => by cases hv⟩
  | (i, k) :: r, cur, o, K, hv, h => by
    obtain ⟨v, hr, h1⟩ := onV_spec h
    obtain ⟨x, rfl, h2⟩ := Knd.dec_spec h1
    obtain ⟨t, hK, ht⟩ := decL_spec (K := fun t => K (x, t)) hv h2
    refine ⟨(x, t), hK, fun j u hu => ?_⟩
    simp only [encL, look] at hu
    cases hb : Nat.beq i j with
    | true =>
      rw [hb] at hu
      have : i = j := Nat.eq_of_beq_eq_true hb
      subst this
      cases hu
      exact rdT_view hv hr
    | false => rw [hb] at hu; exact ht j u hu

theorem guardD_spec {n : Nat} {cur o : Ent} {a : Act} (hv : View n cur o a) {ops : Array Oper} {op : Oper} {yes no : Ent → Prop} (h : guardD ops op.guard cur o yes no) :
    (∃ cur', View n cur' o a ∧ Region.wanted op (yielded ops a.tmps) = true ∧ yes cur') ∨ (∃ cur', View n cur' o a ∧ Region.wanted op (yielded ops a.tmps) = false ∧ no cur') := by
  unfold guardD at h
  cases hg : op.guard with
  | none => rw [hg] at h; exact .inl ⟨cur, hv, by simp [Region.wanted, hg], h⟩
  | some jw =>
    obtain ⟨j, want⟩ := jw
    rw [hg] at h
    obtain ⟨s, hs, h1⟩ := onV_spec h
    obtain ⟨v, hr, h2⟩ := onV_spec h1
    cases v <;> try (exact h2.elim)
    case tuple vs =>
      have ht := rdT_view hv hr
      have hy : yielded ops a.tmps j = none := by
        unfold slotOf at hs
        cases hq : a.tmps[s]? with
        | none => simp [yielded, hs, hq]
        | some u => simp [hq] at ht; simp [yielded, hs, hq, ht]
      exact .inr ⟨cur, hv, by simp [Region.wanted, hg, hy], h2⟩
    rename_i t
    have ht := rdT_view hv hr
    have hy : yielded ops a.tmps j = some t := by
      unfold slotOf at hs
      have hsome : a.tmps[s]? = some (.bool t) := by
        cases hq : a.tmps[s]? with
        | none => simp [hq, undef] at ht
        | some u => simp [hq] at ht; rw [ht]
      simp [yielded, hs, hsome]
    cases hlo : look o s with
    | some u => simp only [hlo] at h2
    | none =>
    simp only [hlo] at h2
    have hview : View n ((s, .bool t) :: cur) o a := by
      refine ⟨hv.size, ?_, hv.o, hv.dfr⟩
      intro i u hu
      simp only [look] at hu
      cases hb : Nat.beq s i with
      | true =>
        rw [hb] at hu
        have : s = i := Nat.eq_of_beq_eq_true hb
        subst this
        cases hu
        exact ht
      | false => rw [hb] at hu; exact hv.cur i u hu
    cases t <;> cases want
    · exact .inl ⟨_, hview, by simp [Region.wanted, hg, hy], h2⟩
    · exact .inr ⟨_, hview, by simp [Region.wanted, hg, hy], h2⟩
    · exact .inr ⟨_, hview, by simp [Region.wanted, hg, hy], h2⟩
    · exact .inl ⟨_, hview, by simp [Region.wanted, hg, hy], h2⟩

theorem op_sound {P : Program} {env : Env} (henv : EnvOk P env) {n : Nat} {cur o : Ent} {a : Act} (hv : View n cur o a) (op : Oper) {w : World} {K : Value → World → Prop} {next : Act → World → Prop} {Q : Exit → Act → World → Prop}
    (h : opD P env cur o op.op op.type w K) (hn : ∀ v w', K v w' → next (a.put op.dst v) w') : op.wp P a w next Q := by
  unfold opD at h
  cases hp : isPure P op.op with
  | true =>
    rw [hp] at h
    obtain ⟨v, hK, hr⟩ := pure_sound hv op h
    exact upon_value (hr w) (hn _ _ hK)
  | false => rw [hp] at h; exact eff_sound henv hv op h hn

theorem regD_sound {C : Ctx} (henv : EnvOk C.P C.env) {ops : Array Oper} {o : Ent} {K : Ent → World → Prop} {Q : Exit → Act → World → Prop} (hQ : ∀ cur a w, View C.n cur o a → K cur w → Q .normal a w) :
    ∀ (l : List Oper) (cur : Ent) (a : Act) (w : World), View C.n cur o a → regD C ops o K l cur w → wpList C.P ops Q l a w
  | [], cur, a, w, hv, h => hQ cur a w hv h
  | op :: r, cur, a, w, hv, h => by
    simp only [regD] at h
    unfold wpList
    rcases guardD_spec hv h with ⟨cur', hv', hw, h1⟩ | ⟨cur', hv', hw, h1⟩
    · rw [if_pos hw]
      refine .inl (op_sound henv hv' op h1 fun v w' h2 => ?_)
      obtain ⟨cur'', h3, h4⟩ := putD_spec h2
      exact regD_sound henv hQ r cur'' _ w' (h4 a hv') h3
    · rw [if_neg (by rw [hw]; simp)]
      obtain ⟨cur'', h3, h4⟩ := putD_spec h1
      exact regD_sound henv hQ r cur'' _ w (h4 a hv') h3

/-- Every order, with what the operations that were taken ahead must find. -/
def Wd (P : Program) (ops : Array Oper) (Q : Exit → Act → World → Prop) : Nat → Array Bool → Pend → Act → World → Prop
  | 0, done, _, a, w => Region.ready .any ops done = [] ∧ Q .normal a w
  | f + 1, done, pd, a, w => (Region.ready .any ops done = [] → Q .normal a w) ∧ ∀ j ∈ Region.ready .any ops done, ∀ oj, ops[j]? = some oj →
      wpOp P ops Q j (fun a' w' => (∀ p ∈ pendMain oj pd, p.2 w') ∧ Wd P ops Q f (done.setIfInBounds j true) (pendMain oj pd) a' w') a w

theorem Wd_any {P : Program} {ops : Array Oper} {Q : Exit → Act → World → Prop} : ∀ (f : Nat) (done : Array Bool) (pd : Pend) (a : Act) (w : World), Wd P ops Q f done pd a w → wpAny P .any ops Q f done a w
  | 0, _, _, _, _, h => h
  | f + 1, done, pd, a, w, h => ⟨h.1, fun j hj => by
    obtain ⟨_, o, ho, _⟩ := mem_ready.1 hj
    exact wpOp_mono (fun a' w' h' => Wd_any f _ _ a' w' h'.2) (h.2 j hj o ho)⟩

theorem pendMain_mem {op : Oper} : ∀ {pd : Pend} {p : List Nat × (World → Prop)}, p ∈ pendMain op pd ↔ p ∈ pd ∧ waitsFor op p.1 = false
  | [], p => by simp [pendMain]
  | (l, C) :: r, p => by
    simp only [pendMain]
    cases hw : waitsFor op l with
    | true =>
      simp only [cond_true, List.mem_cons, pendMain_mem (pd := r)]
      constructor
      · rintro ⟨h1, h2⟩; exact ⟨.inr h1, h2⟩
      · rintro ⟨h1 | h1, h2⟩
        · subst h1; rw [hw] at h2; cases h2
        · exact ⟨h1, h2⟩
    | false =>
      simp only [cond_false, List.mem_cons, pendMain_mem (pd := r)]
      constructor
      · rintro (h1 | ⟨h1, h2⟩)
        · subst h1; exact ⟨.inl rfl, hw⟩
        · exact ⟨.inr h1, h2⟩
      · rintro ⟨h1 | h1, h2⟩
        · exact .inl h1
        · exact .inr ⟨h1, h2⟩

theorem Wd_sub {P : Program} {ops : Array Oper} {Q : Exit → Act → World → Prop} : ∀ (f : Nat) (done : Array Bool) (pd pd' : Pend) (a : Act) (w : World), (∀ p ∈ pd', p ∈ pd) → Wd P ops Q f done pd a w → Wd P ops Q f done pd' a w
  | 0, _, _, _, _, _, _, h => h
  | f + 1, done, pd, pd', a, w, hs, h => ⟨h.1, fun j hj oj hoj => wpOp_mono (fun a' w' h' => by
      have hsub : ∀ p ∈ pendMain oj pd', p ∈ pendMain oj pd := fun p hp => pendMain_mem.2 ⟨hs p (pendMain_mem.1 hp).1, (pendMain_mem.1 hp).2⟩
      exact ⟨fun p hp => h'.1 p (hsub p hp), Wd_sub f _ _ _ a' w' hsub h'.2⟩) (h.2 j hj oj hoj)⟩

/-- What an operation yields in every world of a class. -/
def YieldsC (P : Program) (ops : Array Oper) (Cl : World → Prop) (o : Oper) (v : Value) (a : Act) : Prop :=
  (Region.wanted o (yielded ops a.tmps) = true ∧ ∀ w, Cl w → (execOp a.eval o).run P w = .ok (.value v) w) ∨
  (Region.wanted o (yielded ops a.tmps) = false ∧ v = undef)

theorem YieldsC.wpOp {P : Program} {ops : Array Oper} {Cl : World → Prop} {Q : Exit → Act → World → Prop} {i : Nat} {o : Oper} {v : Value} {a : Act} (hi : ops[i]? = some o) (hy : YieldsC P ops Cl o v a)
    {K : Act → World → Prop} {w : World} (hw : Cl w) (h : K (a.put o.dst v) w) : wpOp P ops Q i K a w := by
  unfold Go.wpOp
  simp only [hi]
  rcases hy with ⟨h1, hv⟩ | ⟨h1, rfl⟩
  · simp only [h1, if_true, Oper.wp, hv w hw, Oper.upon]; exact .inl h
  · simp only [h1, Bool.false_eq_true, if_false]; exact h

theorem wpOp_putC {P : Program} {ops : Array Oper} {Cl : World → Prop} {Q : Exit → Act → World → Prop} {j : Nat} {oi oj : Oper} {v : Value} (hj : ops[j]? = some oj) (hap : oi.apart ops oj = true)
    (hsi : ∀ cs b, oi.op ≠ .select cs b) (hsj : ∀ cs b, oj.op ≠ .select cs b)
    (hQ : ∀ c a w, Q (.panic c) (a.put oi.dst v) w → Q (.panic c) a w) {K : Act → World → Prop} {a : Act} {w : World}
    (hy : YieldsC P ops Cl oi v a) (h : Go.wpOp P ops Q j K (a.put oi.dst v) w) :
    Go.wpOp P ops Q j (fun a' w' => YieldsC P ops Cl oi v a' ∧ K (a'.put oi.dst v) w') a w := by
  obtain ⟨h1, h2, h3⟩ := Oper.apart_spec hap
  have of_same : ∀ {a a' : Act}, YieldsC P ops Cl oi v a → execOp a'.eval oi = execOp a.eval oi → Region.wanted oi (yielded ops a'.tmps) = Region.wanted oi (yielded ops a.tmps) → YieldsC P ops Cl oi v a' := fun hy he hw => by
    unfold YieldsC at *
    rw [he, hw]
    exact hy
  have keep : ∀ (a : Act), YieldsC P ops Cl oi v a → ∀ u, YieldsC P ops Cl oi v (a.put oj.dst u) := fun a hy u =>
    of_same hy (execOp_put oi hsi a oj.dst u h3) (wanted_put oi a oj.dst u h3)
  have keepD : ∀ d, YieldsC P ops Cl oi v { a with defers := d :: a.defers } := fun d => of_same hy rfl rfl
  unfold Go.wpOp at *
  simp only [hj] at *
  rw [wanted_put oj a oi.dst v h1] at h
  split
  · rename_i hw
    simp only [hw, if_true] at h
    rcases h with h | ⟨hasks, hlets⟩
    case inr => exact .inr ⟨by unfold Oper.asks at *; rw [execOp_put oj hsj a oi.dst v h1] at hasks; exact hasks, hlets⟩
    refine .inl ?_
    unfold Oper.wp at *
    rw [execOp_put oj hsj a oi.dst v h1] at h
    generalize (execOp a.eval oj).run P w = r at *
    cases r with
    | ok n w' =>
      cases n <;> simp only [Oper.upon] at h ⊢
      case value u => exact ⟨keep a hy u, by rw [← Act.put_comm a v u h2]; exact h⟩
      case skip => exact ⟨keep a hy _, by rw [← Act.put_comm a v undef h2]; exact h⟩
      case defer d =>
        refine ⟨keep _ (keepD d) _, ?_⟩
        rw [← Act.put_comm _ v undef h2, ← Act.put_defers]
        exact h
      case enter f args =>
        refine Calls.mono h fun e w'' he => ?_
        cases e with
        | returned u => exact ⟨keep a hy u, by rw [← Act.put_comm a v u h2]; exact he⟩
        | panicked c => exact hQ _ _ _ he
        | outgrown => exact he
      case row row args => exact Rows.mono h fun u w'' he => ⟨keep a hy u, by rw [← Act.put_comm a v u h2]; exact he⟩
    | halt x w' =>
      cases x <;> simp only [Oper.upon] at h ⊢
      case panic u => exact hQ _ _ _ h
  · rename_i hw
    simp only [hw] at h
    exact ⟨keep a hy _, by rw [← Act.put_comm a v undef h2]; exact h⟩

theorem pendFloat_mem {i : Nat} {op : Oper} : ∀ {pd : Pend} {l : List Nat} {Cl : World → Prop}, (l, Cl) ∈ pd → (l, Cl) ∈ pendFloat i op pd ∨ (waitsFor op l = true ∧ (i :: l, Cl) ∈ pendFloat i op pd)
  | [], _, _, h => by cases h
  | (l', C') :: r, l, Cl, h => by
    simp only [pendFloat]
    rcases List.mem_cons.1 h with h | h
    · obtain ⟨rfl, rfl⟩ := Prod.mk.inj h
      cases hw : waitsFor op l with
      | true => exact .inr ⟨rfl, by simp⟩
      | false => exact .inl (by simp)
    · rcases pendFloat_mem (i := i) (op := op) h with h | ⟨h1, h2⟩
      · left; cases waitsFor op l' <;> exact List.mem_cons_of_mem _ h
      · right; refine ⟨h1, ?_⟩; cases waitsFor op l' <;> exact List.mem_cons_of_mem _ h2
theorem pendFloat_cls {i : Nat} {op : Oper} : ∀ {pd : Pend} {p : List Nat × (World → Prop)}, p ∈ pendFloat i op pd → ∃ l, (l, p.2) ∈ pd ∧ ((p.1 = l ∧ waitsFor op l = false) ∨ (p.1 = i :: l ∧ waitsFor op l = true))
  | [], p, h => by cases h
  | (l', C') :: r, p, h => by
    simp only [pendFloat] at h
    cases hw : waitsFor op l' with
    | true =>
      rw [hw] at h
      rcases List.mem_cons.1 h with h | h
      · subst h; exact ⟨l', by simp, .inr ⟨rfl, hw⟩⟩
      · obtain ⟨l, h1, h2⟩ := pendFloat_cls h
        exact ⟨l, List.mem_cons_of_mem _ h1, h2⟩
    | false =>
      rw [hw] at h
      rcases List.mem_cons.1 h with h | h
      · subst h; exact ⟨l', by simp, .inl ⟨rfl, hw⟩⟩
      · obtain ⟨l, h1, h2⟩ := pendFloat_cls h
        exact ⟨l, List.mem_cons_of_mem _ h1, h2⟩

theorem waitsFor_cons {op : Oper} {i : Nat} {l : List Nat} (h : ∀ e ∈ op.after, Region.binds .any e = true → e.on ≠ i) : waitsFor op (i :: l) = waitsFor op l := by
  unfold waitsFor
  rw [Bool.eq_iff_iff, List.any_eq_true, List.any_eq_true]
  constructor
  · rintro ⟨e, he, hb⟩
    simp only [Bool.and_eq_true] at hb
    refine ⟨e, he, ?_⟩
    simp only [Bool.and_eq_true]
    refine ⟨hb.1, ?_⟩
    have hne := h e (by simpa using he) hb.1
    have h2 := hb.2
    simp only [mem] at h2
    have : Nat.beq i e.on = false := by
      cases hq : Nat.beq i e.on with
      | false => rfl
      | true => exact absurd (Nat.eq_of_beq_eq_true hq).symm hne
    rw [this] at h2
    exact h2
  · rintro ⟨e, he, hb⟩
    simp only [Bool.and_eq_true] at hb
    refine ⟨e, he, ?_⟩
    simp only [Bool.and_eq_true]
    refine ⟨hb.1, ?_⟩
    simp only [mem]
    cases Nat.beq i e.on with
    | true => rfl
    | false => exact hb.2
theorem waitsFor_one {op : Oper} {i : Nat} (h : ∀ e ∈ op.after, Region.binds .any e = true → e.on ≠ i) : waitsFor op [i] = false := by
  rw [waitsFor_cons h]
  unfold waitsFor
  rw [List.any_eq_false]
  intro e he
  simp [mem]

/-- taking the float 'j''s turn ahead or behind makes no odds to what is pending -/
theorem pend_swap {i : Nat} {oi oj : Oper} (hno : ∀ e ∈ oj.after, Region.binds .any e = true → e.on ≠ i) : ∀ (pd : Pend), pendMain oj (pendFloat i oi pd) = pendFloat i oi (pendMain oj pd)
  | [] => rfl
  | (l, C) :: r => by
    have ih := pend_swap (i := i) (oi := oi) hno r
    simp only [pendFloat, pendMain]
    cases h1 : waitsFor oi l with
    | true =>
      simp only [cond_true, pendMain, waitsFor_cons hno]
      cases h2 : waitsFor oj l with
      | true => simpa using ih
      | false => simp [pendFloat, h1, ih]
    | false =>
      simp only [cond_false, pendMain]
      cases h2 : waitsFor oj l with
      | true => simpa using ih
      | false => simp [pendFloat, h1, ih]

theorem Wd_first {P : Program} {ops : Array Oper} {Cl : World → Prop} {Q : Exit → Act → World → Prop} {i : Nat} {oi : Oper} {v : Value} (hi : ops[i]? = some oi) (hsel : ∀ (j : Nat) (o : Oper) cs b, ops[j]? = some o → o.op ≠ .select cs b)
    (hQ : ∀ c a w, Q (.panic c) (a.put oi.dst v) w → Q (.panic c) a w) :
    ∀ (f : Nat) (done : Array Bool) (pd : Pend) (a : Act) (w : World),
      (∀ j oj, ops[j]? = some oj → j ≠ i → done.getD j true = false → (∀ e ∈ oj.after, Region.binds .any e = true → e.on ≠ i) → oi.apart ops oj = true) →
      i ∈ Region.ready .any ops done → YieldsC P ops Cl oi v a → Cl w → (∀ p ∈ pd, p.2 w) →
      Wd P ops Q f (done.setIfInBounds i true) (([i], Cl) :: pendFloat i oi pd) (a.put oi.dst v) w → Wd P ops Q (f + 1) done pd a w := by
  intro f
  induction f with
  | zero =>
    intro done pd a w _ hr hy hC hp H
    refine ⟨fun h => (by rw [h] at hr; cases hr), fun j hj oj hoj => ?_⟩
    by_cases hji : j = i
    · subst hji
      rw [hi] at hoj; cases hoj
      exact hy.wpOp hi hC ⟨fun p hpm => hp p (pendMain_mem.1 hpm).1, H.1, H.2⟩
    · have := ready_mono hj hji
      rw [H.1] at this
      cases this
  | succ f ih =>
    intro done pd a w hfree hr hy hC hp H
    refine ⟨fun h => (by rw [h] at hr; cases hr), fun j hj oj hoj => ?_⟩
    by_cases hji : j = i
    · subst hji
      rw [hi] at hoj; cases hoj
      refine hy.wpOp hi hC ⟨fun p hpm => hp p (pendMain_mem.1 hpm).1, Wd_sub _ _ _ _ _ _ ?_ H⟩
      intro p hpm
      obtain ⟨h1, h2⟩ := pendMain_mem.1 hpm
      obtain ⟨l, Cl'⟩ := p
      rcases pendFloat_mem (i := j) (op := oi) h1 with h3 | ⟨h3, _⟩
      · exact List.mem_cons_of_mem _ h3
      · rw [h2] at h3; cases h3
    · obtain ⟨hjun, oj', hoj', hall⟩ := mem_ready.1 hj
      rw [hoj] at hoj'; cases hoj'
      have h1 := H.2 j (ready_mono hj hji) oj hoj
      have hnot : ∀ e ∈ oj.after, Region.binds .any e = true → e.on ≠ i := fun e he hb heq => by
        have h1 := hall e he hb
        have h0 := (mem_ready.1 hr).1
        rw [heq] at h1
        rcases Nat.lt_or_ge i done.size with h' | h'
        · simp [h'] at h0 h1; rw [h0] at h1; cases h1
        · simp [Array.getElem?_eq_none h'] at h1
      have h2 := wpOp_putC hoj (hfree j oj hoj hji hjun hnot) (fun cs b => hsel i oi cs b hi) (fun cs b => hsel j oj cs b hoj) hQ hy h1
      have hfree' : ∀ k ok, ops[k]? = some ok → k ≠ i → (done.setIfInBounds j true).getD k true = false →
          (∀ e ∈ ok.after, Region.binds .any e = true → e.on ≠ i) → oi.apart ops ok = true := fun k ok hk hki hun hno => by
        refine hfree k ok hk hki ?_ hno
        by_cases hjk : j = k
        · subst hjk; exact hjun
        · rw [getD_set_ne true hjk] at hun; exact hun
      have hpm : pendMain oj (([i], Cl) :: pendFloat i oi pd) = ([i], Cl) :: pendFloat i oi (pendMain oj pd) := by
        simp only [pendMain, waitsFor_one hnot, cond_false]
        rw [pend_swap hnot]
      rw [hpm] at h2
      refine wpOp_mono (fun a' w' h3 => ?_) h2
      obtain ⟨hy', hcl, hW⟩ := h3
      have hCw : Cl w' := hcl ([i], Cl) (by simp)
      have hpd : ∀ p ∈ pendMain oj pd, p.2 w' := fun p hpp => by
        obtain ⟨l, Cl'⟩ := p
        rcases pendFloat_mem (i := i) (op := oi) hpp with h4 | ⟨_, h4⟩
        · exact hcl _ (List.mem_cons_of_mem _ h4)
        · exact hcl (i :: l, Cl') (List.mem_cons_of_mem _ h4)
      refine ⟨hpd, ih (done.setIfInBounds j true) (pendMain oj pd) a' w' hfree' (ready_mono hr (Ne.symm hji)) hy' hCw hpd ?_⟩
      rw [Array.setIfInBounds_comm _ _ hji]
      exact hW
theorem keeps_spec : ∀ {pd : Pend} {w : World} {G : Prop}, keeps pd w G → (∀ p ∈ pd, p.2 w) ∧ G
  | [], _, _, h => ⟨(fun p hp => by cases hp), h⟩
  | (l, C) :: r, w, G, h => by
    obtain ⟨h1, h2⟩ := h
    obtain ⟨h3, h4⟩ := keeps_spec h2
    exact ⟨fun p hp => by
      rcases List.mem_cons.1 hp with hp | hp
      · subst hp; exact h1
      · exact h3 p hp, h4⟩

theorem floatD_spec {P : Program} {n : Nat} {cur o : Ent} {a : Act} (hv : View n cur o a) (op : Oper) {w : World} {K : Value → Option (World → Prop) → Prop} (h : floatD P cur o op.op w K) :
    ∃ v Cv, K v Cv ∧ match Cv with
      | some C => C w ∧ ∀ w', C w' → (execOp a.eval op).run P w' = .ok (.value v) w'
      | none => ∀ w', (execOp a.eval op).run P w' = .ok (.value v) w' := by
  have other : pureD P cur o op.op (fun v => K v none) → ∃ v Cv, K v Cv ∧ match Cv with
      | some C => C w ∧ ∀ w', C w' → (execOp a.eval op).run P w' = .ok (.value v) w'
      | none => ∀ w', (execOp a.eval op).run P w' = .ok (.value v) w' := fun hp => by
    obtain ⟨v, hK, hr⟩ := pure_sound hv op hp
    exact ⟨v, none, hK, hr⟩
  obtain ⟨dst, op, ty, pos, after, guard⟩ := op
  cases op
  case load t x =>
    obtain ⟨v, hx, h1⟩ := onV_spec h
    cases v <;> try (exact h1.elim)
    obtain ⟨ad, rfl, h2⟩ := onSome_spec h1
    obtain ⟨v, C, hK, hC, hr⟩ := loadD_spec h2
    exact ⟨v, some C, hK, hC, fun w' hw' => by simp [execOp, hv.rd hx, Instr.loadAt, Instr.sureAddr, hr w' hw']⟩
  all_goals exact other h

theorem allLt_spec {f : Nat → Bool} : ∀ {n : Nat}, allLt f n = true → ∀ i, i < n → f i = true
  | 0, _, i, hi => absurd hi (Nat.not_lt_zero _)
  | n + 1, h, i, hi => by
    simp only [allLt, Bool.and_eq_true] at h
    rcases Nat.lt_or_ge i n with h1 | h1
    · exact allLt_spec h.2 i h1
    · have : i = n := by omega
      subst this
      exact h.1

def arrOf (n m : Nat) : Array Bool := (Array.range n).map fun i => Nat.testBit m i
theorem arrOf_getD {n m j : Nat} {d : Bool} : (arrOf n m).getD j d = if j < n then Nat.testBit m j else d := by
  unfold arrOf
  by_cases h : j < n
  · simp [h]
  · simp [h]
theorem arrOf_zero (n : Nat) : Array.replicate n false = arrOf n 0 := by
  apply Array.ext
  · simp [arrOf]
  · intro i h1 h2
    simp [arrOf]
theorem testBit_lor_shift (m i j : Nat) : Nat.testBit (Nat.lor m (Nat.shiftLeft 1 i)) j = (Nat.testBit m j || decide (i = j)) := by
  show Nat.testBit (m ||| 1 <<< i) j = _
  rw [Nat.testBit_or, Nat.testBit_shiftLeft]
  congr 1
  by_cases hij : i = j
  · subst hij; simp
  · by_cases hle : i ≤ j
    · obtain ⟨k, hk⟩ : ∃ k, j - i = k + 1 := ⟨j - i - 1, by omega⟩
      rw [hk]
      simp [hij, Nat.testBit_succ]
    · simp [hij, hle]
theorem arrOf_set (n m i : Nat) : (arrOf n m).setIfInBounds i true = arrOf n (Nat.lor m (Nat.shiftLeft 1 i)) := by
  apply Array.ext_getElem?
  intro j
  rw [Array.getElem?_setIfInBounds]
  by_cases hij : i = j
  · subst hij
    by_cases hn : i < n
    · have := testBit_lor_shift m i i
      simp only [arrOf, Array.size_map, Array.size_range, hn, if_true, Array.getElem?_map, Array.getElem?_range, Option.map_some, this]
      simp
    · simp [arrOf, hn]
  · by_cases hn : j < n
    · have := testBit_lor_shift m i j
      simp only [arrOf, Array.getElem?_map, Array.getElem?_range, hn, if_true, Option.map_some, this, hij, if_false]
      simp
    · simp [arrOf, hn, hij]

theorem readyB_mem {ops : Array Oper} {m j : Nat} : j ∈ Region.ready .any ops (arrOf ops.size m) ↔ readyB ops m j = true := by
  rw [mem_ready]
  unfold readyB depsMet
  cases ho : ops[j]? with
  | none =>
    simp
  | some o =>
    have hlt : j < ops.size := (Array.getElem?_eq_some_iff.1 ho).1
    simp only [arrOf_getD, hlt, if_true, Option.some.injEq, exists_eq_left', Bool.and_eq_true, Bool.not_eq_true', List.all_eq_true, Bool.or_eq_true]
    constructor
    · rintro ⟨h1, h2⟩
      refine ⟨h1, fun e he => ?_⟩
      cases hb : Region.binds .any e
      · exact .inl rfl
      · right
        have := h2 e (by simpa using he) hb
        split at this
        · rename_i hl; exact ⟨by simpa using hl, this⟩
        · cases this
    · rintro ⟨h1, h2⟩
      refine ⟨h1, fun e he hb => ?_⟩
      rcases h2 e (by simpa using he) with h | ⟨h, h'⟩
      · rw [hb] at h; cases h
      · rw [if_pos (by simpa using h)]; exact h'

theorem freeB_spec {ops : Array Oper} {m i : Nat} {oi : Oper} (h : freeB ops m i oi = true) (j : Nat) (oj : Oper)
    (hj : ops[j]? = some oj) (hne : j ≠ i) (hun : (arrOf ops.size m).getD j true = false) (hno : ∀ e ∈ oj.after, Region.binds .any e = true → e.on ≠ i) :
    oi.apart ops oj = true := by
  have hlt : j < ops.size := (Array.getElem?_eq_some_iff.1 hj).1
  have h1 := allLt_spec h j hlt
  rw [arrOf_getD, if_pos hlt] at hun
  simp only [hj, Bool.or_eq_true, hun, Bool.false_eq_true, or_false] at h1
  rcases h1 with h1 | h1 | h1
  · exact absurd (Nat.eq_of_beq_eq_true h1) hne
  · rw [List.any_eq_true] at h1
    obtain ⟨e, he, hb⟩ := h1
    simp only [Bool.and_eq_true] at hb
    exact absurd (Nat.eq_of_beq_eq_true hb.2) (hno e (by simpa using he) hb.1)
  · exact h1

/-- What a chain of next ones says of each. -/
def mainStep (C : Ctx) (ops : Array Oper) (o : Ent) (K : Ent → World → Prop) (i : Nat) (p : Plan) (m : Nat) (pd : Pend) (cur : Ent) (w : World) : Prop :=
  onV ops[i]? fun op => guardD ops op.guard cur o
    (fun cur' => effD C.P C.env cur' o op.op op.type w fun v w' => keeps (pendMain op pd) w' (putD C.n op.dst v o cur' fun cur'' => drawP C ops o K p true (Nat.lor m (Nat.shiftLeft 1 i)) (pendMain op pd) cur'' w'))
    (fun cur' => keeps (pendMain op pd) w (putD C.n op.dst undef o cur' fun cur'' => drawP C ops o K p true (Nat.lor m (Nat.shiftLeft 1 i)) (pendMain op pd) cur'' w))

theorem Wd_true {P : Program} {ops : Array Oper} {Q : Exit → Act → World → Prop} {f : Nat} {done : Array Bool} {l : List Nat} {pd : Pend} {a : Act} {w : World}
    (h : Wd P ops Q f done pd a w) : Wd P ops Q f done ((l, fun _ => True) :: pd) a w := by
  suffices H : ∀ (f : Nat) (done : Array Bool) (pd pd' : Pend) (a : Act) (w : World), (∀ p ∈ pd', p ∈ pd ∨ ∀ w, p.2 w) → Wd P ops Q f done pd a w → Wd P ops Q f done pd' a w by
    refine H f done pd _ a w (fun p hp => ?_) h
    rcases List.mem_cons.1 hp with rfl | hp
    · exact .inr fun _ => trivial
    · exact .inl hp
  clear h
  intro f
  induction f with
  | zero => exact fun done pd pd' a w _ h => h
  | succ f ih =>
    intro done pd pd' a w hs h
    refine ⟨h.1, fun j hj oj hoj => wpOp_mono (fun a' w' h' => ?_) (h.2 j hj oj hoj)⟩
    have hsub : ∀ p ∈ pendMain oj pd', p ∈ pendMain oj pd ∨ ∀ w, p.2 w := fun p hp => by
      obtain ⟨h1, h2⟩ := pendMain_mem.1 hp
      rcases hs p h1 with h3 | h3
      · exact .inl (pendMain_mem.2 ⟨h3, h2⟩)
      · exact .inr h3
    exact ⟨fun p hp => (hsub p hp).elim (h'.1 p) (fun h => h w'), ih _ _ _ a' w' hsub h'.2⟩

theorem drawP_mn {C : Ctx} {ops : Array Oper} {o : Ent} {K : Ent → World → Prop} {i : Nat} {p r : Plan} {head : Bool} {m : Nat} {pd : Pend} {cur : Ent} {w : World} (h : drawP C ops o K (.mn i p r) head m pd cur w) :
    (!head || (readyB ops m i && covered ops m (.mn i p r))) = true ∧ mainStep C ops o K i p m pd cur w ∧ (r ≠ .no → drawP C ops o K r false m pd cur w) := by
  have hc : (!head || (readyB ops m i && covered ops m (.mn i p r))) = true := by
    cases hc : (!head || (readyB ops m i && covered ops m (.mn i p r))) with
    | true => rfl
    | false => cases r <;> simp only [drawP, hc] at h <;> exact h.elim
  refine ⟨hc, ?_⟩
  cases r <;> simp only [drawP, hc, cond_true] at h
  case no => exact ⟨h, fun h' => absurd rfl h'⟩
  all_goals exact ⟨h.1, fun _ => by simpa only [drawP] using h.2⟩

theorem drawP_sound {C : Ctx} (henv : EnvOk C.P C.env) {ops : Array Oper} (hns : Region.noSelect ops = true) {o : Ent} {K : Ent → World → Prop} {Q : Exit → Act → World → Prop} (hQ : ∀ cur a w, View C.n cur o a → K cur w → Q .normal a w)
    (hQp : ∀ c a w, ¬ Q (.panic c) a w) :
    ∀ (p : Plan) (head : Bool) (m : Nat) (pd : Pend) (cur : Ent) (a : Act) (w : World) (f : Nat), p.depth ≤ f → View C.n cur o a → (∀ q ∈ pd, q.2 w) → drawP C ops o K p head m pd cur w →
      (head = true → Wd C.P ops Q f (arrOf ops.size m) pd a w) ∧
      (∀ j, inChain p j = true → ∀ f', f = f' + 1 → ∀ oj, ops[j]? = some oj → wpOp C.P ops Q j (fun a' w' => (∀ q ∈ pendMain oj pd, q.2 w') ∧ Wd C.P ops Q f' (arrOf ops.size (Nat.lor m (Nat.shiftLeft 1 j))) (pendMain oj pd) a' w') a w) := by
  intro p
  induction p with
  | fin =>
    intro head m pd cur a w f hd hv hp h
    refine ⟨fun _ => ?_, fun j hj => by cases hj⟩
    simp only [drawP] at h
    cases hc : covered ops m .no with
    | false => rw [hc] at h; exact h.elim
    | true =>
      rw [hc] at h
      have h0 : Region.ready .any ops (arrOf ops.size m) = [] := by
        cases hr : Region.ready .any ops (arrOf ops.size m) with
        | nil => rfl
        | cons j r =>
          have hj : j ∈ Region.ready .any ops (arrOf ops.size m) := by rw [hr]; simp
          have hrd := readyB_mem.1 hj
          have hlt : j < ops.size := by
            unfold readyB at hrd
            cases ho : ops[j]? with
            | none => rw [ho] at hrd; cases hrd
            | some _ => exact (Array.getElem?_eq_some_iff.1 ho).1
          have := allLt_spec hc j hlt
          simp [inChain, hrd] at this
      cases f with
      | zero => exact ⟨h0, hQ cur a w hv h⟩
      | succ f => exact ⟨fun _ => hQ cur a w hv h, fun j hj => by rw [h0] at hj; cases hj⟩
  | no => intro head m pd cur a w f hd hv hp h; exact ⟨fun hh => by subst hh; exact h.elim, fun j hj => by cases hj⟩
  | fl i p ih =>
    intro head m pd cur a w f hd hv hp h
    refine ⟨fun _ => ?_, fun j hj => by cases hj⟩
    simp only [Plan.depth] at hd
    obtain ⟨f, rfl⟩ : ∃ g, f = g + 1 := ⟨f - 1, by omega⟩
    simp only [drawP] at h
    obtain ⟨op, hio, h⟩ := onV_spec h
    cases hc : (readyB ops m i && freeB ops m i op) with
    | false => rw [hc] at h; exact h.elim
    | true =>
      rw [hc] at h
      simp only [cond_true] at h
      simp only [Bool.and_eq_true] at hc
      have hir := readyB_mem.2 hc.1
      have hfr := freeB_spec hc.2
      have goOn : ∀ (pd' : Pend) (cur'' : Ent) (a' : Act), View C.n cur'' o a' → (∀ q ∈ pd', q.2 w) → drawP C ops o K p true (Nat.lor m (Nat.shiftLeft 1 i)) pd' cur'' w →
          Wd C.P ops Q f ((arrOf ops.size m).setIfInBounds i true) pd' a' w := fun pd' cur'' a' hv' hp' h' => by
        rw [arrOf_set]
        exact (ih true _ pd' cur'' a' w f (by omega) hv' hp' h').1 rfl
      · rcases guardD_spec hv h with ⟨cur', hv', hw, h1⟩ | ⟨cur', hv', hw, h1⟩
        · obtain ⟨v, Cv, h2, hr⟩ := floatD_spec hv' op h1
          obtain ⟨cur'', h3, h4⟩ := putD_spec h2
          cases Cv with
          | some Cl =>
            obtain ⟨hC, hr⟩ := hr
            refine Wd_first (Cl := Cl) hio (Region.noSelect_spec hns) (fun c a w hq => absurd hq (hQp _ _ _)) f _ pd a w hfr hir (.inl ⟨hw, hr⟩) hC hp ?_
            refine goOn _ cur'' _ (h4 a hv') ?_ h3
            intro p hpm
            rcases List.mem_cons.1 hpm with rfl | hpm
            · exact hC
            · obtain ⟨l, h5, _⟩ := pendFloat_cls hpm
              exact hp (l, p.2) h5
          | none =>
            refine Wd_first (Cl := fun _ => True) hio (Region.noSelect_spec hns) (fun c a w hq => absurd hq (hQp _ _ _)) f _ pd a w hfr hir (.inl ⟨hw, fun w' _ => hr w'⟩) trivial hp ?_
            exact Wd_true (goOn _ cur'' _ (h4 a hv') (fun p hpm => by
              obtain ⟨l, h5, _⟩ := pendFloat_cls hpm
              exact hp (l, p.2) h5) h3)
        · obtain ⟨cur'', h3, h4⟩ := putD_spec h1
          refine Wd_first (Cl := fun _ => True) (v := undef) hio (Region.noSelect_spec hns) (fun c a w hq => absurd hq (hQp _ _ _)) f _ pd a w hfr hir (.inr ⟨hw, rfl⟩) trivial hp ?_
          exact Wd_true (goOn _ cur'' _ (h4 a hv') (fun p hpm => by
            obtain ⟨l, h5, _⟩ := pendFloat_cls hpm
            exact hp (l, p.2) h5) h3)
  | mn i p r ihp ihr =>
    intro head m pd cur a w f hd hv hp h
    have hd1 : p.depth + 1 ≤ f ∧ r.depth ≤ f := by
      simp only [Plan.depth] at hd
      cases hb : Nat.ble (p.depth + 1) r.depth with
      | true => rw [hb] at hd; have := Nat.le_of_ble_eq_true hb; simp only [cond_true] at hd; omega
      | false =>
        rw [hb] at hd
        have : ¬ (p.depth + 1 ≤ r.depth) := fun h => by rw [Nat.ble_eq_true_of_le h] at hb; cases hb
        simp only [cond_false] at hd
        omega
    obtain ⟨hc, two⟩ := drawP_mn h
    · skip
      have second : ∀ j, inChain (.mn i p r) j = true → ∀ f', f = f' + 1 → ∀ oj, ops[j]? = some oj → wpOp C.P ops Q j (fun a' w' => (∀ q ∈ pendMain oj pd, q.2 w') ∧ Wd C.P ops Q f' (arrOf ops.size (Nat.lor m (Nat.shiftLeft 1 j))) (pendMain oj pd) a' w') a w := by
        intro j hj f' hf oj hoj
        simp only [inChain, Bool.or_eq_true] at hj
        by_cases hji : i = j
        · subst hji
          obtain ⟨op, hop, h2⟩ := onV_spec two.1
          rw [hoj] at hop; cases hop
          unfold wpOp
          simp only [hoj]
          have goOn : ∀ (cur'' : Ent) (a' : Act) (w' : World), View C.n cur'' o a' → (∀ q ∈ pendMain oj pd, q.2 w') → drawP C ops o K p true (Nat.lor m (Nat.shiftLeft 1 i)) (pendMain oj pd) cur'' w' →
              Wd C.P ops Q f' (arrOf ops.size (Nat.lor m (Nat.shiftLeft 1 i))) (pendMain oj pd) a' w' := fun cur'' a' w' hv' hp' h' =>
            (ihp true _ _ cur'' a' w' f' (by omega) hv' hp' h').1 rfl
          rcases guardD_spec hv h2 with ⟨cur', hv', hw, h3⟩ | ⟨cur', hv', hw, h3⟩
          · rw [if_pos hw]
            refine .inl (eff_sound henv hv' oj h3 fun v w' h4 => ?_)
            obtain ⟨h5, h6⟩ := keeps_spec h4
            obtain ⟨cur'', h7, h8⟩ := putD_spec h6
            exact ⟨h5, goOn cur'' _ w' (h8 a hv') h5 h7⟩
          · rw [if_neg (by rw [hw]; simp)]
            obtain ⟨h5, h6⟩ := keeps_spec h3
            obtain ⟨cur'', h7, h8⟩ := putD_spec h6
            exact ⟨h5, goOn cur'' _ w (h8 a hv') h5 h7⟩
        · have hjr : inChain r j = true := hj.resolve_left fun h => hji (Nat.eq_of_beq_eq_true h)
          have hrn : r ≠ .no := by rintro rfl; cases hjr
          exact (ihr false m pd cur a w f hd1.2 hv hp (two.2 hrn)).2 j hjr f' hf oj hoj
      refine ⟨fun hh => ?_, second⟩
      subst hh
      simp only [Bool.not_true, Bool.false_or, Bool.and_eq_true] at hc
      obtain ⟨f, rfl⟩ : ∃ g, f = g + 1 := ⟨f - 1, by omega⟩
      refine ⟨fun h0 => ?_, fun j hj oj hoj => ?_⟩
      · have := readyB_mem.2 hc.1
        rw [h0] at this
        cases this
      · have hrd := readyB_mem.1 hj
        have hlt : j < ops.size := (Array.getElem?_eq_some_iff.1 hoj).1
        have := allLt_spec hc.2 j hlt
        simp only [hrd, Bool.not_true, Bool.or_false] at this
        rw [arrOf_set]
        exact second j this f rfl oj hoj

/-! ### Every order -/

theorem freshO_spec {n : Nat} {o : Ent} {l : List Oper} (h : freshO n o l = true) : ∀ op ∈ l, ∀ d, op.dst = some d → d < n ∧ look o d = none := by
  induction l with
  | nil => intro op hm; cases hm
  | cons op r ih =>
    intro op' hm d hd
    simp only [freshO, Bool.and_eq_true] at h
    rcases List.mem_cons.1 hm with he | hm
    · subst he
      have h1 := h.1
      rw [hd] at h1
      simp only [Bool.and_eq_true] at h1
      refine ⟨by simpa using h1.1, ?_⟩
      cases hl : look o d with
      | none => rfl
      | some v => rw [hl] at h1; simp at h1
    · exact ih h.2 op' hm d hd

theorem View.putE {n : Nat} {cur o : Ent} {a : Act} (h : View n cur o a) {dst : Option Nat} (hd : ∀ d, dst = some d → d < n ∧ look o d = none) (v : Value) : View n (Den.putE dst v cur) o (a.put dst v) := by
  cases dst with
  | none => exact h
  | some d =>
    obtain ⟨h1, h2⟩ := hd d rfl
    have hp : putD n (some d) v o cur fun c => c = (d, v) :: cur := by
      simp only [putD]
      rw [show Nat.blt d n = true by simpa using h1, h2]; trivial
    obtain ⟨c, rfl, hc⟩ := putD_spec hp
    exact hc a h

theorem View.outerOf {n : Nat} {o : Ent} {a : Act} (hs : a.tmps.size = n) (hdf : a.defers = []) (h : ∀ t v, look o t = some v → a.tmps.getD t undef = v) : View n [] o a := ⟨hs, fun _ _ h => (by cases h), h, hdf⟩

def undone (m : Nat) : Nat → Nat
  | 0 => 0
  | n + 1 => undone m n + cond (Nat.testBit m n) 0 1
theorem undone_same {m m' : Nat} : ∀ {n}, (∀ j, j < n → Nat.testBit m' j = Nat.testBit m j) → undone m' n = undone m n
  | 0, _ => rfl
  | n + 1, h => by simp only [undone]; rw [undone_same fun j hj => h j (by omega), h n (by omega)]
theorem undone_set {m i : Nat} (hi : Nat.testBit m i = false) : ∀ {n}, i < n → undone (Nat.lor m (Nat.shiftLeft 1 i)) n + 1 = undone m n
  | n + 1, h => by
    simp only [undone]
    by_cases he : i = n
    · subst he
      rw [undone_same (m := m) fun j hj => by rw [testBit_lor_shift]; simp; omega, testBit_lor_shift, hi]
      simp
    · have := undone_set hi (n := n) (by omega)
      rw [testBit_lor_shift]
      simp only [he, decide_false, Bool.or_false]
      omega
theorem undone_zero {m : Nat} : ∀ {n}, undone m n = 0 → ∀ j, j < n → Nat.testBit m j = true
  | n + 1, h, j, hj => by
    simp only [undone] at h
    cases ht : Nat.testBit m n with
    | false => rw [ht] at h; simp at h
    | true =>
      by_cases he : j = n
      · subst he; exact ht
      · rw [ht] at h
        exact undone_zero (n := n) (by simpa using h) j (by omega)
theorem undone_full : ∀ n, undone 0 n = n
  | 0 => rfl
  | n + 1 => by simp [undone, undone_full n]

theorem ready_some {ops : Array Oper} (hd : depsLtB ops = true) {m : Nat} : ∀ j, j < ops.size → Nat.testBit m j = false → ∃ i, readyB ops m i = true := by
  intro j
  induction j using Nat.strongRecOn with
  | ind j ih =>
    intro hj ht
    have hdj := allLt_spec hd j hj
    obtain ⟨op, hop⟩ : ∃ op, ops[j]? = some op := ⟨ops[j], Array.getElem?_eq_getElem hj⟩
    rw [hop] at hdj
    cases hr : readyB ops m j with
    | true => exact ⟨j, hr⟩
    | false =>
      unfold readyB at hr
      rw [hop] at hr
      simp only [ht, Bool.not_false, Bool.true_and, depsMet] at hr
      rw [List.all_eq_false] at hr
      obtain ⟨e, he, hr⟩ := hr
      have hlt := List.all_eq_true.1 hdj e he
      simp only [Bool.or_eq_true, Bool.and_eq_true, not_or, not_and, Bool.not_eq_true] at hr
      have hb : (!Region.binds .any e) = false := by
        cases hb : (!Region.binds .any e) with
        | false => rfl
        | true => rw [hb] at hr; simp at hr
      rw [hb] at hr hlt
      have hlt' : e.on < j := by simpa using hlt
      have : Nat.testBit m e.on = false := by
        cases htb : Nat.testBit m e.on with
        | false => rfl
        | true =>
          have : Nat.blt e.on ops.size = true := by simp; omega
          rw [this, htb] at hr; simp at hr
      exact ih e.on hlt' (by omega) this

theorem orderD_sound {C : Ctx} (henv : EnvOk C.P C.env) {ops : Array Oper} {i0 o : Ent} {K : Ent → World → Prop} {Q : Exit → Act → World → Prop} (hQ : ∀ cur a w, View C.n cur o a → K cur w → Q .normal a w)
    (hf : freshO C.n o ops.toList = true) (hf' : freshO C.n i0 ops.toList = true) (hd : depsLtB ops = true) :
    ∀ (k m : Nat) (cur : Ent) (a : Act) (w : World), undone m ops.size = k → View C.n cur i0 a → (∀ t v, look o t = some v → a.tmps.getD t undef = v) → orderD C ops i0 K k m cur w → wpAny C.P .any ops Q k (arrOf ops.size m) a w
  | 0, m, cur, a, w, hu, hv, ho, h => by
    refine ⟨?_, hQ cur a w ⟨hv.size, hv.cur, ho, hv.dfr⟩ h⟩
    rw [List.eq_nil_iff_forall_not_mem]
    intro j hj
    have hr := readyB_mem.1 hj
    unfold readyB at hr
    cases hop : ops[j]? with
    | none => rw [hop] at hr; cases hr
    | some op =>
      have hlt : j < ops.size := (Array.getElem?_eq_some_iff.1 hop).1
      rw [hop] at hr
      rw [undone_zero hu j hlt] at hr
      simp at hr
  | k + 1, m, cur, a, w, hu, hv, ho, h => by
    refine ⟨fun h0 => ?_, fun i hi => ?_⟩
    · exfalso
      have : ∃ j, j < ops.size ∧ Nat.testBit m j = false := by
        apply Classical.byContradiction
        intro hn
        have hall : ∀ j, j < ops.size → Nat.testBit m j = true := fun j hj => by
          cases ht : Nat.testBit m j with
          | true => rfl
          | false => exact absurd ⟨j, hj, ht⟩ hn
        have : undone m ops.size = 0 := by
          clear hu h hv h0 hn
          generalize ops.size = n at hall
          induction n with
          | zero => rfl
          | succ n ih => simp only [undone]; rw [ih fun j hj => hall j (by omega), hall n (by omega)]; rfl
        omega
      obtain ⟨j, hj, ht⟩ := this
      obtain ⟨i, hi⟩ := ready_some hd j hj ht
      have := readyB_mem.2 hi
      rw [h0] at this
      cases this
    · have hr := readyB_mem.1 hi
      have hrr := hr
      unfold readyB at hrr
      cases hop : ops[i]? with
      | none => rw [hop] at hrr; cases hrr
      | some op =>
        rw [hop] at hrr
        have hlt : i < ops.size := (Array.getElem?_eq_some_iff.1 hop).1
        have ht : Nat.testBit m i = false := by
          simp only [Bool.and_eq_true] at hrr
          simpa using hrr.1
        have hu' : undone (Nat.lor m (Nat.shiftLeft 1 i)) ops.size = k := by have := undone_set ht hlt; omega
        have hmem : op ∈ ops.toList := by
          have := Array.mem_of_getElem? hop
          simpa using this
        have hd1 := freshO_spec hf op hmem
        have hd2 := freshO_spec hf' op hmem
        unfold wpOp
        rw [hop, arrOf_set]
        have next : ∀ (cur' : Ent) (v : Value) (w' : World), View C.n cur' i0 a → orderD C ops i0 K k (Nat.lor m (Nat.shiftLeft 1 i)) (putE op.dst v cur') w' →
            wpAny C.P .any ops Q k (arrOf ops.size (Nat.lor m (Nat.shiftLeft 1 i))) (a.put op.dst v) w' := fun cur' v w' hv' h' =>
          orderD_sound henv hQ hf hf' hd k _ _ _ w' hu' (hv'.putE hd2 v) (((View.outerOf hv.size hv.dfr ho).putE hd1 v).o) h'
        rcases guardD_spec hv (h i op hop hr) with ⟨cur', hv', hw, h1⟩ | ⟨cur', hv', hw, h1⟩
        · simp only [hw, if_true]
          exact .inl (op_sound henv hv' op h1 fun v w' h2 => next cur' v w' hv' h2)
        · simp only [hw]
          exact next cur' undef w hv' h1

/-- The regions of a piece of code hold no select. -/
def noSel : Code → Bool
  | .region _ ops _ => Region.noSelect ops
  | .seq x y => noSel x && noSel y
  | .cond _ x y => noSel x && noSel y
  | .block _ c => noSel c
  | .loop c => noSel c
  | _ => true

theorem D_sound {C : Ctx} (hm : C.P.follows .mixedOrders = true) (henv : EnvOk C.P C.env) : ∀ (c : Code) (ann : Ann) (o : Ent) (Q : Exit → Ent → World → Prop) (cur : Ent) (w : World) (a : Act) (Q' : Exit → Act → World → Prop),
    noSel c = true → D C c ann o Q cur w → View C.n cur o a → (∀ e cur' a' w', View C.n cur' o a' → Q e cur' w' → Q' e a' w') → (∀ ch a w, ¬ Q' (.panic ch) a w) → c.wp C.P Q' a w := by
  intro c
  induction c with
  | skip => intro ann o Q cur w a Q' _ h hv hQ _; exact wp_skip (hQ _ _ _ _ hv h)
  | region id ops draw =>
    intro ann o Q cur w a Q' hs h hv hQ hp
    simp only [D] at h
    cases draw with
    | false => exact wp_region_list (regD_sound henv (fun cur a w hv h => hQ _ _ _ _ hv h) _ _ _ _ hv h)
    | true =>
      cases ann <;> try (exact h.elim)
      case o ins =>
        simp only [cond_true] at h
        cases hb : (freshO C.n o ops.toList && freshO C.n (pickE ins cur o) ops.toList && depsLtB ops) with
        | false => rw [hb] at h; exact h.elim
        | true =>
          rw [hb] at h
          simp only [Bool.and_eq_true] at hb
          have hpick : ∀ (l : List Nat) t v, look (pickE l cur o) t = some v → a.tmps.getD t undef = v := by
            intro l
            induction l with
            | nil => intro t v ht; cases ht
            | cons s r ih =>
              intro t v ht
              simp only [pickE] at ht
              cases hr : rdT cur o s with
              | none => rw [hr] at ht; exact ih t v ht
              | some u =>
                rw [hr] at ht
                simp only [look] at ht
                cases hbq : Nat.beq s t with
                | false => rw [hbq] at ht; exact ih t v ht
                | true =>
                  rw [hbq] at ht
                  have : s = t := Nat.eq_of_beq_eq_true hbq
                  subst this
                  cases ht
                  exact rdT_view hv hr
          refine wp_region_any hm ?_
          rw [arrOf_zero]
          exact orderD_sound henv (fun cur a w hv h => hQ _ _ _ _ hv h) hb.1.1 hb.1.2 hb.2 ops.size 0 [] _ _ (undone_full _) ⟨hv.size, fun _ _ h => (by cases h), hpick ins, hv.dfr⟩ hv.o h.out
      rename_i p
      simp only [cond_true] at h
      cases hb : Nat.ble p.depth ops.size with
      | false => rw [hb] at h; exact h.elim
      | true =>
        rw [hb] at h
        refine wp_region_any hm ?_
        rw [arrOf_zero]
        exact Wd_any _ _ [] _ _ ((drawP_sound henv hs (fun cur a w hv h => hQ _ _ _ _ hv h) hp p true 0 [] cur a _ _ (Nat.le_of_ble_eq_true hb) hv (fun p hp => by cases hp) h).1 rfl)
  | seq x y ihx ihy =>
    intro ann o Q cur w a Q' hs h hv hQ hp
    simp only [noSel, Bool.and_eq_true] at hs
    have plain : ∀ ax ay, D C x ax o (thenD (D C y ay o Q) Q) cur w → (Code.seq x y).wp C.P Q' a w := fun ax ay h => by
      refine wp_seq (ihx ax o _ cur w a _ hs.1 h hv ?_ ?_)
      · intro e cur' a' w' hv' h'
        cases e with
        | normal => exact ihy ay o Q cur' w' a' Q' hs.2 h' hv' hQ hp
        | exit i => exact hQ _ _ _ _ hv' h'
        | goto l => exact hQ _ _ _ _ hv' h'
        | ret => exact hQ _ _ _ _ hv' h'
        | panic ch => exact hQ _ _ _ _ hv' h'
        | outgrown => exact hQ _ _ _ _ hv' h'
      · exact fun ch a w h => hp ch a w h
    cases ann with
    | n => exact plain _ _ h
    | s ax ay => exact plain _ _ h
    | j live drop ax ay =>
      simp only [D] at h
      have hag : ∀ t v, look o t = some v → View C.n cur o a → True := fun _ _ _ _ => trivial
      have h1 := h (fun t w => ∀ a, View C.n (encL live t ++ dropE cur drop) o a → y.wp C.P Q' a w) (fun t w ht a' hv' => ihy ay o Q _ w a' Q' hs.2 ht hv' hQ hp)
      have hvx : View C.n (keepE cur drop) (dropE cur drop ++ o) a := ⟨hv.size, fun t v ht => hv.cur t v (look_keepE drop t cur v ht).2, hv.outer drop, hv.dfr⟩
      have back : ∀ cur' a', View C.n cur' (dropE cur drop ++ o) a' → View C.n (cur' ++ dropE cur drop) o a' := fun cur' a' hv' => by
        refine ⟨hv'.size, ?_, ?_, hv'.dfr⟩
        · intro t v ht
          rw [look_append] at ht
          cases hl : look cur' t with
          | some u => rw [hl] at ht; simp at ht; subst ht; exact hv'.cur t _ hl
          | none => rw [hl] at ht; simp only at ht; exact hv'.o t v (by rw [look_append, ht])
        · intro t v ht
          cases hl : look (dropE cur drop) t with
          | none => exact hv'.o t v (by rw [look_append, hl]; exact ht)
          | some u =>
            have h2 := hv'.o t u (by rw [look_append, hl])
            rw [look_dropE] at hl
            cases hmm : mem drop t with
            | true => rw [hmm] at hl; cases hl
            | false =>
              rw [hmm] at hl
              have e1 := hv.cur t u hl
              have e2 := hv.o t v ht
              rw [h2, ← e1, e2]
      refine wp_seq (ihx ax _ _ (keepE cur drop) w a _ hs.1 h1 hvx ?_ ?_)
      · intro e cur' a' w' hv' h'
        cases e with
        | normal =>
          obtain ⟨t, hK, ht⟩ := decL_spec hv' h'
          refine hK a' ⟨hv'.size, ?_, (back cur' a' hv').o, hv'.dfr⟩
          intro i v hi
          rw [look_append] at hi
          cases hl : look (encL live t) i with
          | some u => rw [hl] at hi; simp at hi; subst hi; exact ht i _ hl
          | none => rw [hl] at hi; simp only at hi; exact hv'.o i v (by rw [look_append, hi])
        | exit i => exact hQ _ _ _ _ (back _ _ hv') h'
        | goto l => exact hQ _ _ _ _ (back _ _ hv') h'
        | ret => exact hQ _ _ _ _ (back _ _ hv') h'
        | panic ch => exact hQ _ _ _ _ (back _ _ hv') h'
        | outgrown => exact hQ _ _ _ _ (back _ _ hv') h'
      · exact fun ch a w h => hp ch a w h
    | c _ _ => exact h.elim
    | b _ => exact h.elim
    | l _ _ _ => exact h.elim
    | r _ => exact h.elim
    | o _ => exact h.elim
  | cond c x y ihx ihy =>
    intro ann o Q cur w a Q' hs h hv hQ hp
    simp only [noSel, Bool.and_eq_true] at hs
    have plain : ∀ ax ay, onV (rd cur o c) (fun v => condD v (D C x ax o Q cur w) (D C y ay o Q cur w)) → (Code.cond c x y).wp C.P Q' a w := fun ax ay h => by
      obtain ⟨v, hx, h1⟩ := onV_spec h
      cases v <;> try (exact h1.elim)
      rename_i t
      refine wp_cond (t := t) (hv.rd hx) ?_
      cases t with
      | true => exact ihx ax o Q cur w a Q' hs.1 h1 hv hQ hp
      | false => exact ihy ay o Q cur w a Q' hs.2 h1 hv hQ hp
    cases ann with
    | n => exact plain _ _ h
    | c ax ay => exact plain _ _ h
    | s _ _ => exact h.elim
    | b _ => exact h.elim
    | l _ _ _ => exact h.elim
    | j _ _ _ _ => exact h.elim
    | r _ => exact h.elim
    | o _ => exact h.elim
  | block id c ih =>
    intro ann o Q cur w a Q' hs h hv hQ hp
    have plain : ∀ ax, D C c ax o (blockD id Q) cur w → (Code.block id c).wp C.P Q' a w := fun ax h => by
      refine wp_block (ih ax o _ cur w a _ hs h hv ?_ ?_)
      · intro e cur' a' w' hv' h'
        cases e with
        | exit i =>
          simp only [blockD] at h'
          simp only [Exit.inBlock]
          cases hb : Nat.beq i id with
          | true => rw [hb] at h'; rw [if_pos (Nat.eq_of_beq_eq_true hb)]; exact hQ _ _ _ _ hv' h'
          | false => rw [hb] at h'; rw [if_neg (Nat.ne_of_beq_eq_false hb)]; exact hQ _ _ _ _ hv' h'
        | normal => exact hQ _ _ _ _ hv' h'
        | goto l => exact hQ _ _ _ _ hv' h'
        | ret => exact hQ _ _ _ _ hv' h'
        | panic ch => exact hQ _ _ _ _ hv' h'
        | outgrown => exact hQ _ _ _ _ hv' h'
      · exact fun ch a w h => hp ch a w h
    cases ann with
    | n => exact plain _ h
    | b ax => exact plain _ h
    | s _ _ => exact h.elim
    | c _ _ => exact h.elim
    | l _ _ _ => exact h.elim
    | j _ _ _ _ => exact h.elim
    | r _ => exact h.elim
    | o _ => exact h.elim
  | loop c ih =>
    intro ann o Q cur w a Q' hs h hv hQ hp
    cases ann with
    | l live drop ax =>
      simp only [D] at h
      have hbase : ∀ a', View C.n [] (dropE cur drop ++ o) a' → ∀ t v, look o t = some v → a'.tmps.getD t undef = v := fun a' hv' t v ht => by
        cases hl : look (dropE cur drop) t with
        | none => exact hv'.o t v (by rw [look_append, hl]; exact ht)
        | some u =>
          have h2 := hv'.o t u (by rw [look_append, hl])
          rw [look_dropE] at hl
          cases hmm : mem drop t with
          | true => rw [hmm] at hl; cases hl
          | false =>
            rw [hmm] at hl
            have e1 := hv.cur t u hl
            have e2 := hv.o t v ht
            rw [h2, ← e1, e2]
      have back : ∀ cur' a', View C.n cur' (dropE cur drop ++ o) a' → View C.n (cur' ++ dropE cur drop) o a' := fun cur' a' hv' => by
        refine ⟨hv'.size, ?_, hbase a' ⟨hv'.size, (fun t v ht => by cases ht), hv'.o, hv'.dfr⟩, hv'.dfr⟩
        intro t v ht
        rw [look_append] at ht
        cases hl : look cur' t with
        | some u => rw [hl] at ht; simp at ht; subst ht; exact hv'.cur t _ hl
        | none => rw [hl] at ht; simp only at ht; exact hv'.o t v (by rw [look_append, ht])
      -- the least such statement: from there the loop runs
      let X : KTs (kindsOf live) → World → Prop := fun t w => ∀ a, View C.n (encL live t) (dropE cur drop ++ o) a →
        ∀ (b : Frame) (k : List Item) (cs : List Frame), ∃ e a' w', Q' e a' w' ∧ Arrives C.P (lone (b.at a (.code c :: .inLoop c :: k)) cs w) b k cs e a' w'
      have key := h X (fun t w ht a₀ hv₀ b k cs => by
        have hwp := ih ax _ _ (encL live t) w a₀ (Exit.then (fun a' w' => ∃ t' , View C.n (encL live t') (dropE cur drop ++ o) a' ∧ X t' w') Q') hs ht hv₀ (by
          intro e cur' a' w' hv' h'
          cases e with
          | normal =>
            obtain ⟨t', hK, ht'⟩ := decL_spec hv' h'
            exact ⟨t', ⟨hv'.size, ht', hv'.o, hv'.dfr⟩, hK⟩
          | exit i => exact hQ _ _ _ _ (back _ _ hv') h'
          | goto l => exact hQ _ _ _ _ (back _ _ hv') h'
          | ret => exact hQ _ _ _ _ (back _ _ hv') h'
          | panic ch => exact hQ _ _ _ _ (back _ _ hv') h'
          | outgrown => exact hQ _ _ _ _ (back _ _ hv') h') (fun ch a w h => hp ch a w h)
        obtain ⟨e, a₁, w₁, hq, harr⟩ := hwp b (.inLoop c :: k) cs
        cases e with
        | normal =>
          obtain ⟨t', hv₁, hX⟩ := hq
          obtain ⟨e₂, a₂, w₂, hq₂, harr₂⟩ := hX a₁ hv₁ b k cs
          exact ⟨e₂, a₂, w₂, hq₂, .of_steps (Steps.trans harr (.one step_inLoop)) harr₂⟩
        | exit id => exact ⟨_, a₁, w₁, hq, .pass (x := .inLoop c) rfl (fun _ _ => .inl (by simp)) harr⟩
        | goto l => exact ⟨_, a₁, w₁, hq, .pass (x := .inLoop c) rfl (fun _ _ => .inl (by simp)) harr⟩
        | ret => exact ⟨_, a₁, w₁, hq, .pass (x := .inLoop c) rfl (fun _ _ => .inl (by simp)) harr⟩
        | panic ch => exact ⟨_, a₁, w₁, hq, .pass (x := .inLoop c) rfl (fun _ _ => .inl (by simp)) harr⟩
        | outgrown => exact ⟨_, a₁, w₁, hq, .pass (x := .inLoop c) rfl (fun _ _ => .inl (by simp)) harr⟩)
      obtain ⟨t, hX, ht⟩ := decL_spec hv key
      intro b k cs
      obtain ⟨e, a', w', hq, harr⟩ := hX a ⟨hv.size, ht, hv.outer drop, hv.dfr⟩ b k cs
      exact ⟨e, a', w', hq, .of_steps (.one step_loop) harr⟩
    | n => exact h.elim
    | s _ _ => exact h.elim
    | c _ _ => exact h.elim
    | b _ => exact h.elim
    | j _ _ _ _ => exact h.elim
    | r _ => exact h.elim
    | o _ => exact h.elim
  | exit id => intro ann o Q cur w a Q' _ h hv hQ _; exact wp_exit (hQ _ _ _ _ hv h)
  | ret => intro ann o Q cur w a Q' _ h hv hQ _; exact wp_ret (hQ _ _ _ _ hv h)
  | rangeFunc _ _ _ _ => intro ann o Q cur w a Q' _ h; exact h.elim
  | scope _ => intro ann o Q cur w a Q' _ h; exact h.elim
  | label _ => intro ann o Q cur w a Q' _ h; exact h.elim
  | goto _ => intro ann o Q cur w a Q' _ h; exact h.elim
  | refuse _ => intro ann o Q cur w a Q' _ h; exact h.elim

def resOne (tmps : Array Value) : ResultVar → Sem Value
  | .tmp t => pure (tmps.getD t undef)
  | .cell a t => do loadVar t (← asAddr (tmps.getD a undef))
theorem results_eq (fn : Func) (tmps : Array Value) : results fn tmps = (do
  let vs ← fn.results.mapM (resOne tmps)
  pure (if h : vs.size = 1 then vs[0] else .tuple vs)) := rfl
theorem resD_spec {P : Program} {n : Nat} {cur : Ent} {a : Act} (hv : View n cur [] a) : ∀ {rs : List ResultVar} {w : World} {K : List Value → Prop}, resD P cur rs w K →
    ∃ vs, K vs ∧ (rs.mapM (resOne a.tmps)).run P w = .ok vs w
  | [], w, K, h => ⟨[], h, by simp⟩
  | .tmp t :: r, w, K, h => by
    obtain ⟨v, hr, h1⟩ := onV_spec h
    obtain ⟨vs, hK, hvs⟩ := resD_spec hv (K := fun vs => K (v :: vs)) h1
    exact ⟨v :: vs, hK, by simp only [List.mapM_cons, resOne, Sem.run_bind, Sem.run_pure, Result.andThen_ok, rdT_view hv hr, hvs]⟩
  | .cell c t :: r, w, K, h => by
    obtain ⟨v, hr, h1⟩ := onV_spec h
    cases v <;> try (exact h1.elim)
    obtain ⟨ad, rfl, h2⟩ := onSome_spec h1
    obtain ⟨v, Cl, h3, hC, hl⟩ := loadD_spec h2
    obtain ⟨vs, hK, hvs⟩ := resD_spec hv (K := fun vs => K (v :: vs)) h3
    have ha : ∀ w, (asAddr (a.tmps.getD c undef)).run P w = .ok ad w := fun w => by rw [rdT_view hv hr]; rfl
    exact ⟨v :: vs, hK, by simp only [List.mapM_cons, resOne, Sem.run_bind, Sem.run_pure, Result.andThen_ok, ha, hl w hC, hvs]⟩

theorem results_of {P : Program} {n : Nat} {cur : Ent} {a : Act} {fn : Func} (hv : View n cur [] a) {w : World} {K : List Value → Prop} (h : resD P cur fn.results.toList w K) :
    ∃ vs, K vs ∧ (results fn a.tmps).run P w = .ok (oneOr vs) w := by
  obtain ⟨vs, hK, hr⟩ := resD_spec hv h
  refine ⟨vs, hK, ?_⟩
  rw [results_eq, Sem.run_bind]
  have e : fn.results.mapM (resOne a.tmps) = List.toArray <$> fn.results.toList.mapM (resOne a.tmps) := by
    rw [← List.mapM_toArray]
  rw [e]
  simp only [Sem.run_map, hr, Result.andThen_ok, Sem.run_pure]
  match vs with
  | [] => simp [oneOr]
  | [v] => simp [oneOr]
  | v :: u :: r => simp [oneOr]

def initE : Nat → List Value → Ent
  | _, [] => []
  | i, v :: r => (i, v) :: initE (i + 1) r
theorem look_initE : ∀ (vs : List Value) (i t : Nat) (v : Value), look (initE i vs) t = some v → i ≤ t ∧ vs[t - i]? = some v
  | [], _, _, _, h => by cases h
  | u :: r, i, t, v, h => by
    simp only [initE, look] at h
    cases hb : Nat.beq i t with
    | true =>
      rw [hb] at h
      have : i = t := Nat.eq_of_beq_eq_true hb
      subst this
      cases h
      simp
    | false =>
      rw [hb] at h
      obtain ⟨h1, h2⟩ := look_initE r (i + 1) t v h
      have e : t - i = (t - (i + 1)) + 1 := by omega
      refine ⟨by omega, ?_⟩
      rw [e]
      simpa using h2

theorem CK.dec_intro {k : CK} {x : k.T} {K : k.T → Prop} (h : K x) : k.dec (k.enc x) K := by
  cases k
  case int k => cases k <;> exact h
  all_goals first
    | exact h
    | (simp only [CK.enc]; cases x <;> exact h)
theorem decs_intro : ∀ {l : List CK} {t : CTs l} {K : CTs l → Prop}, K t → decs l (encs l t) K
  | [], _, _, h => h
  | _ :: r, t, K, h => CK.dec_intro (x := t.1) (K := fun x => decs r (encs r t.2) fun t => K (x, t)) (decs_intro (l := r) (t := t.2) h)
theorem Knd.dec_intro {k : Knd} {x : k.T} {K : k.T → Prop} (h : K x) : k.dec (k.enc x) K := by
  cases k with
  | c k => exact CK.dec_intro (k := k) h
  | agg l => exact decs_intro (l := l) h
theorem decK_intro : ∀ {ks : List Knd} {t : KTs ks} {K : KTs ks → Prop}, K t → decK ks (encK ks t) K
  | [], _, _, h => h
  | _ :: r, t, K, h => Knd.dec_intro (x := t.1) (K := fun x => decK r (encK r t.2) fun t => K (x, t)) (decK_intro (ks := r) (t := t.2) h)
/-- What is handed back, read by its kinds. -/
def retK (ks : List Knd) (v : Value) (C : KTs ks → Prop) : Prop := match ks, C with
  | [k], C => k.dec v fun r => C (r, ())
  | ks, C => match v with
    | .tuple vs => decK ks vs.toList C
    | _ => False

/-- A function's body by its denotation: the statement that its calls are sound. -/
theorem sound_of {P : Program} {g : FuncId} {fn : Func} (hf : P.funcs[g]? = some fn) (hb' : fn.body.isSome = true) (hm : P.follows .mixedOrders = true) (hs : noSel (fn.body.getD .skip) = true) (ann : Ann) (env : Env) (henv : EnvOk P env) (ks : List Knd)
    (hk : Nat.ble ks.length fn.ntmps = true) (F : KTs ks → World → (Value → World → Prop) → Prop)
    (hF : ∀ t w K, F t w K = D ⟨P, fn.ntmps, env⟩ (fn.body.getD .skip) ann [] (postD P fn.results.toList K) (initE 0 (encK ks t)) w) :
    Sound P g fun args w K => decK ks args fun t => F t w K := by
  intro args w K h
  obtain ⟨c, hb⟩ := Option.isSome_iff_exists.1 hb'
  have hc : fn.body.getD .skip = c := by rw [hb]; rfl
  obtain ⟨t, rfl, h1⟩ := decK_spec h
  rw [hF, hc] at h1
  rw [hc] at hs
  have hlen : ∀ (ks : List Knd) (t : KTs ks), (encK ks t).length = ks.length := by
    intro ks
    induction ks with
    | nil => intro t; rfl
    | cons k r ih => intro t; simp [encK, ih]
  have hle : ks.length ≤ fn.ntmps := Nat.le_of_ble_eq_true hk
  refine calls_of_wp hf hb ?_
  refine D_sound (C := ⟨P, fn.ntmps, env⟩) hm henv c ann [] _ _ w _ _ hs h1 ?_ ?_ ?_
  · refine ⟨?_, ?_, (fun t v ht => by cases ht), rfl⟩
    · simp [hlen]; omega
    · intro i v hi
      obtain ⟨_, h2⟩ := look_initE _ _ _ _ hi
      simp only [Nat.sub_zero] at h2
      have hi' : i < (encK ks t).length := (List.getElem?_eq_some_iff.1 h2).1
      simp only [Array.getD_eq_getD_getElem?]
      rw [Array.getElem?_append_left (by simpa using hi')]
      simp [h2]
  · intro e cur' a' w' hv' hq
    cases e with
    | normal =>
      obtain ⟨vs, hK, hr⟩ := results_of hv' hq
      exact ⟨hv'.dfr, _, hr, _, rfl, hK⟩
    | ret =>
      obtain ⟨vs, hK, hr⟩ := results_of hv' hq
      exact ⟨hv'.dfr, _, hr, _, rfl, hK⟩
    | exit i => exact hq.elim
    | goto l => exact hq.elim
    | panic ch => exact hq.elim
    | outgrown => exact hq.elim
  · rintro ch a w ⟨_, v, hv, _⟩
    cases hv
end Go.Den
