/-
  The pure operations of the denotation are sound: all of them.
-/
import Derived.Test.YtadacfoiphklgaaMpDenP
namespace Go.Den
open Go

theorem fieldOf_spec {P : Program} {t : TypeId} {f : Nat} {fd : Field} (h : fieldOf P t f = some fd) : ∃ fs, P.underlying t = some (.struct fs) ∧ fs[f]? = some fd := by
  unfold fieldOf at h
  cases hu : P.underlying t with
  | none => rw [hu] at h; cases h
  | some d =>
    rw [hu] at h
    cases d <;> try (cases h; done)
    exact ⟨_, rfl, h⟩

theorem onSome_spec {p : Option Addr} {K : Addr → Prop} (h : onSome p K) : ∃ a, p = some a ∧ K a := by
  cases p with
  | none => exact h.elim
  | some a => exact ⟨a, rfl, h⟩

theorem pure_slice {P : Program} {t : TypeId} {u : Value} {vl vh : Option Value} {K : Value → Prop}
    (h : match P.underlying t, u with
      | some (.slice e), .slice b l c => boundD c vh l fun h => boundD h vl 0 fun l' => sizeD P e fun n => K (.slice (sliceAddr b c l' n) (h - l') (c - l'))
      | _, _ => False) : ∃ v, K v ∧ ∀ w, (Instr.sliceAt t u vl vh none).run P w = .ok v w := by
  cases hu : P.underlying t with
  | none => simp [hu] at h
  | some d =>
    cases d <;> try (simp [hu] at h; done)
    rename_i e
    cases u <;> try (simp [hu] at h; done)
    rename_i b l c
    simp only [hu] at h
    obtain ⟨hh, h1, hb1⟩ := boundD_spec (P := P) h
    obtain ⟨ll, h2, hb2⟩ := boundD_spec (P := P) h1
    obtain ⟨n, hK, hn⟩ := sizeD_spec h2
    refine ⟨_, hK, fun w => ?_⟩
    have hb : ∀ w, (Instr.sliceBounds true l c vl vh none).run P w = .ok (ll, hh, c) w := fun w => by
      rcases hb1 with ⟨rfl, rfl⟩ | ⟨uh, rfl, _, hr1⟩ <;> rcases hb2 with ⟨rfl, rfl⟩ | ⟨ul, rfl, _, hr2⟩ <;> simp [Instr.sliceBounds, *]
    simp [Instr.sliceAt, Instr.slice, run_underlying hu, hb, hn, sliceAddr]

theorem pure_slice3 {P : Program} {t : TypeId} {u : Value} {vl : Option Value} {vh vm : Value} {K : Value → Prop}
    (h : match P.underlying t, u with
      | some (.slice e), .slice b _ c => boundD c (some vm) 0 fun m => boundD m (some vh) 0 fun h => boundD h vl 0 fun l' => sizeD P e fun n => K (.slice (sliceAddr b m l' n) (h - l') (m - l'))
      | _, _ => False) : ∃ v, K v ∧ ∀ w, (Instr.sliceAt t u vl (some vh) (some vm)).run P w = .ok v w := by
  cases hu : P.underlying t with
  | none => simp [hu] at h
  | some d =>
    cases d <;> try (simp [hu] at h; done)
    rename_i e
    cases u <;> try (simp [hu] at h; done)
    rename_i b l c
    simp only [hu] at h
    obtain ⟨mm, h0, hb0⟩ := boundD_spec (P := P) h
    obtain ⟨hh, h1, hb1⟩ := boundD_spec (P := P) h0
    obtain ⟨ll, h2, hb2⟩ := boundD_spec (P := P) h1
    obtain ⟨n, hK, hn⟩ := sizeD_spec h2
    refine ⟨_, hK, fun w => ?_⟩
    have hb : ∀ w, (Instr.sliceBounds true l c vl (some vh) (some vm)).run P w = .ok (ll, hh, mm) w := fun w => by
      rcases hb0 with ⟨h3, _⟩ | ⟨u0, h3, _, hr0⟩
      · cases h3
      · cases h3
        rcases hb1 with ⟨h4, _⟩ | ⟨u1, h4, _, hr1⟩
        · cases h4
        · cases h4
          rcases hb2 with ⟨rfl, rfl⟩ | ⟨ul, rfl, _, hr2⟩ <;> simp [Instr.sliceBounds, *]
    simp [Instr.sliceAt, Instr.slice, run_underlying hu, hb, hn, sliceAddr]

theorem call_builtin_run {P : Program} {ρ : Operand → Value} {b : Builtin} {args : Array Operand} {argTypes : Array TypeId} {ty : TypeId} {dst pos after guard} (w : World) {v : Value} {w' : World}
    (hb : (builtin b argTypes ty (args.map fun | .const _ => true | _ => false) (args.map ρ)).run P w = .ok (.value v) w') :
    (execOp ρ { dst, op := .call { callee := .builtin b, args, argTypes }, type := ty, pos, after, guard }).run P w = .ok (.value v) w' := by
  unfold execOp
  simp only [resolve, invoke, Sem.run_bind, Sem.run_pure, Result.andThen_ok]
  exact hb

theorem map_zip_eq {α β γ : Type} (f : β → γ) : ∀ (l : List (α × β)) (vs : List γ), l.map (fun p => f p.2) = vs → (l.map fun p => (p.1, f p.2)) = (l.map (·.1)).zip vs
  | [], vs, h => by simp at h; subst h; rfl
  | p :: l, vs, h => by
    subst h
    simp [map_zip_eq f l _ rfl]

theorem pure_sound {P : Program} {n : Nat} {cur o : Ent} {a : Act} (hv : View n cur o a) (op : Oper) {K : Value → Prop} (h : pureD P cur o op.op K) :
    ∃ v, K v ∧ ∀ w, (execOp a.eval op).run P w = .ok (.value v) w := by
  obtain ⟨dst, op, ty, pos, after, guard⟩ := op
  cases op <;> simp only [pureD] at h <;> try (exact h.elim)
  case move x =>
    obtain ⟨v, hx, hK⟩ := onV_spec h
    exact ⟨v, hK, fun w => by simp [execOp, hv.rd hx]⟩
  case assign x =>
    obtain ⟨v, hx, hK⟩ := onV_spec h
    exact ⟨v, hK, fun w => by simp [execOp, hv.rd hx]⟩
  case pick c x y =>
    obtain ⟨vc, hc, h⟩ := onV_spec h
    cases vc <;> try (exact h.elim)
    rename_i t
    cases t with
    | true =>
      obtain ⟨v, hx, hK⟩ := onV_spec h
      exact ⟨v, hK, fun w => by simp [execOp, hv.rd hx, hv.rd hc, asBool]⟩
    | false =>
      obtain ⟨v, hx, hK⟩ := onV_spec h
      exact ⟨v, hK, fun w => by simp [execOp, hv.rd hx, hv.rd hc, asBool]⟩
  case nilCheck x =>
    obtain ⟨vx, hx, h⟩ := onV_spec h
    cases vx <;> try (exact h.elim)
    case pointer p =>
      obtain ⟨ad, rfl, hK⟩ := onSome_spec h
      exact ⟨_, hK, fun w => by simp [execOp, hv.rd hx]⟩
    case func f a b =>
      cases f <;> try (exact h.elim)
      exact ⟨_, h, fun w => by simp [execOp, hv.rd hx]⟩
  case binOp bop t x y yt =>
    obtain ⟨vx, hx, h⟩ := onV_spec h
    obtain ⟨vy, hy, h⟩ := onV_spec h
    obtain ⟨v, hK, hr⟩ := binD_spec h
    refine ⟨v, hK, fun w => ?_⟩
    have := hr w x y
    unfold execOp
    simp only [hv.rd hx, hv.rd hy]
    simp only [Sem.run_bind] at this ⊢
    rw [this]
    rfl
  case unOp uop t x =>
    obtain ⟨vx, hx, h⟩ := onV_spec h
    obtain ⟨v, hK, hr⟩ := unD_spec (P := P) h
    exact ⟨v, hK, fun w => by simp [execOp, hv.rd hx, hr]⟩
  case convert src d x =>
    obtain ⟨vx, hx, h⟩ := onV_spec h
    cases hs : P.underlying src with
    | none => simp [hs] at h
    | some ds =>
      cases hd : P.underlying d with
      | none => simp [hs, hd] at h
      | some dd =>
        cases dd <;> try (simp [hs, hd] at h; done)
        cases vx <;> try (simp [hs, hd] at h; done)
        simp only [hs, hd] at h
        exact ⟨_, h, fun w => by simp [execOp, hv.rd hx, convert, run_underlying hs, run_underlying hd, Conv.intToInt]⟩
  case fieldAddr s x f =>
    obtain ⟨vx, hx, h⟩ := onV_spec h
    cases vx <;> try (exact h.elim)
    rename_i p
    obtain ⟨ad, rfl, h⟩ := onSome_spec h
    obtain ⟨fd, hf, h⟩ := onV_spec h
    obtain ⟨fs, hu, hfd⟩ := fieldOf_spec hf
    obtain ⟨m, h, hm⟩ := sizeD_spec h
    cases hz : Nat.beq m 0 with
    | true => rw [hz] at h; exact h.elim
    | false =>
      rw [hz] at h
      have hm0 : m ≠ 0 := Nat.ne_of_beq_eq_false hz
      exact ⟨_, h, fun w => by simp [execOp, hv.rd hx, Instr.fieldAt, run_underlying hu, hfd, Instr.sureAddr, fieldPlace, hm, hm0]⟩
  case field t x f =>
    obtain ⟨vx, hx, h⟩ := onV_spec h
    cases vx <;> try (exact h.elim)
    rename_i cs
    obtain ⟨fd, hf, h⟩ := onV_spec h
    obtain ⟨fs, hu, hfd⟩ := fieldOf_spec hf
    obtain ⟨v, hK, hp⟩ := partD_spec h
    exact ⟨v, hK, fun w => by simp [execOp, hv.rd hx, Instr.field, run_underlying hu, hfd, asAgg, hp]⟩
  case indexAddr t x ix =>
    obtain ⟨vx, hx, h1⟩ := onV_spec h
    obtain ⟨vi, hi, h2⟩ := onV_spec h1
    clear h h1
    have h := h2
    clear h2
    cases vi <;> try (exact h.elim)
    rename_i k i
    cases hu : P.underlying t with
    | none => simp [hu] at h
    | some d =>
      cases d <;> try (simp [hu] at h; done)
      case slice e =>
        cases vx <;> try (simp [hu] at h; done)
        rename_i b l c
        simp only [hu] at h
        obtain ⟨hb, h3⟩ := h
        obtain ⟨ad, rfl, h4⟩ := onSome_spec h3
        obtain ⟨m, h5, hm⟩ := sizeD_spec h4
        exact ⟨_, h5, fun w => by simp [execOp, hv.rd hx, hv.rd hi, Instr.indexAt, asIntOf, run_underlying hu, hb, hm]⟩
      case array len e =>
        cases vx <;> try (simp [hu] at h; done)
        rename_i p
        simp only [hu] at h
        obtain ⟨hb, h3⟩ := h
        obtain ⟨ad, rfl, h4⟩ := onSome_spec h3
        obtain ⟨m, h5, hm⟩ := sizeD_spec h4
        exact ⟨_, h5, fun w => by simp [execOp, hv.rd hx, hv.rd hi, Instr.indexAt, asIntOf, run_underlying hu, Instr.sureAddr, hb, hm]⟩
  case index t x ix =>
    obtain ⟨vx, hx, h⟩ := onV_spec h
    obtain ⟨vi, hi, h⟩ := onV_spec h
    cases vi <;> try (exact h.elim)
    rename_i k i
    obtain ⟨v, hK, hr⟩ := indexD_spec (k := k) h
    exact ⟨v, hK, fun w => by simp [execOp, hv.rd hx, hv.rd hi, hr]⟩
  case extract x i =>
    obtain ⟨vx, hx, h⟩ := onV_spec h
    cases vx <;> try (exact h.elim)
    rename_i vs
    obtain ⟨v, hi, hK⟩ := onV_spec h
    have hi' : vs[i]? = some v := by simpa using hi
    exact ⟨v, hK, fun w => by simp [execOp, hv.rd hx, Instr.extract, hi']⟩
  case slice t x lo hi mx =>
    cases mx with
    | some m =>
      cases hi with
      | none => exact h.elim
      | some hi =>
        simp only at h
        obtain ⟨vx, hx, h⟩ := onV_spec h
        have h := onO_spec hv h
        obtain ⟨vh, hh, h⟩ := onV_spec h
        obtain ⟨vm, hm, h⟩ := onV_spec h
        obtain ⟨v, hK, hr⟩ := pure_slice3 h
        exact ⟨v, hK, fun w => by simp [execOp, hv.rd hx, hv.rd hh, hv.rd hm, hr]⟩
    | none =>
      simp only at h
      obtain ⟨vx, hx, h⟩ := onV_spec h
      have h := onO_spec hv (onO_spec hv h)
      obtain ⟨v, hK, hr⟩ := pure_slice h
      exact ⟨v, hK, fun w => by simp [execOp, hv.rd hx, hr]⟩
  case build t parts =>
    obtain ⟨vs, hvs, h⟩ := onV_spec h
    obtain ⟨cells, hc, hK⟩ := onV_spec h
    refine ⟨_, hK, fun w => ?_⟩
    have he : (parts.map fun (i, x) => (i, a.eval x)).toList = (parts.toList.map (·.1)).zip vs := by
      rw [Array.toList_map]
      exact map_zip_eq a.eval parts.toList vs (by rw [← hv.rds hvs]; simp)
    have := run_build (P := P) w t (parts.map fun (i, x) => (i, a.eval x)) cells (by rw [he]; exact hc)
    unfold execOp
    simp only [Sem.run_bind, this]
    rfl
  case makeFunc fn first captured =>
    obtain ⟨fs, hf, h⟩ := onV_spec h
    obtain ⟨cs, hc, hK⟩ := onV_spec h
    refine ⟨_, hK, fun w => ?_⟩
    have e1 : first.map a.eval = fs.toArray := by
      apply Array.toList_inj.1
      simpa using hv.rds hf
    have e2 : captured.map a.eval = cs.toArray := by
      apply Array.toList_inj.1
      simpa using hv.rds hc
    simp [execOp, Instr.makeFunc, e1, e2]
  case call c =>
    obtain ⟨callee, args, argTypes⟩ := c
    cases callee <;> try (exact h.elim)
    rename_i b
    obtain ⟨args⟩ := args
    obtain ⟨argTypes⟩ := argTypes
    cases b <;> try (exact h.elim)
    case len =>
      match args, argTypes, h with
      | [x], [t], h =>
        obtain ⟨vx, hx, h⟩ := onV_spec h
        unfold lenD at h
        cases hu : P.underlying t with
        | none => simp [hu] at h
        | some d =>
          cases d <;> try (simp [hu] at h; done)
          case string =>
            cases vx <;> try (simp [hu] at h; done)
            simp only [hu] at h
            exact ⟨_, h, fun w => call_builtin_run w (by simp [builtin, Builtin.len_, run_underlying hu, hv.rd hx, goInt])⟩
          case slice =>
            cases vx <;> try (simp [hu] at h; done)
            simp only [hu] at h
            exact ⟨_, h, fun w => call_builtin_run w (by simp [builtin, Builtin.len_, run_underlying hu, hv.rd hx, goInt])⟩
          case array =>
            simp only [hu] at h
            exact ⟨_, h, fun w => call_builtin_run w (by simp [builtin, Builtin.len_, run_underlying hu, goInt])⟩
    case cap =>
      match args, argTypes, h with
      | [x], [t], h =>
        obtain ⟨vx, hx, h⟩ := onV_spec h
        cases hu : P.underlying t with
        | none => simp [hu] at h
        | some d =>
          cases d <;> try (simp [hu] at h; done)
          cases vx <;> try (simp [hu] at h; done)
          simp only [hu] at h
          exact ⟨_, h, fun w => call_builtin_run w (by simp [builtin, Builtin.cap_, run_underlying hu, hv.rd hx, goInt])⟩
    case min =>
      obtain ⟨vs, hvs, h⟩ := onV_spec h
      cases vs with
      | nil => exact h.elim
      | cons v r =>
        obtain ⟨u, hK, hr⟩ := minD_spec (P := P) false h
        have e := hv.rds hvs
        refine ⟨u, hK, fun w => call_builtin_run w ?_⟩
        have := hr w
        simp only [Bool.false_eq_true, if_false] at this
        simp only [List.map_toArray] at e ⊢
        simp [builtin, Builtin.min_, e, this]
    case max =>
      obtain ⟨vs, hvs, h⟩ := onV_spec h
      cases vs with
      | nil => exact h.elim
      | cons v r =>
        obtain ⟨u, hK, hr⟩ := minD_spec (P := P) true h
        have e := hv.rds hvs
        refine ⟨u, hK, fun w => call_builtin_run w ?_⟩
        have := hr w
        simp only [if_true] at this
        simp only [List.map_toArray] at e ⊢
        simp [builtin, Builtin.max_, e, this]
end Go.Den
