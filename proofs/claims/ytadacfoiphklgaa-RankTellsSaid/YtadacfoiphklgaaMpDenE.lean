/-
  The operations that read or write the world, and the denotation of code.
-/
import Derived.Test.YtadacfoiphklgaaMpDenQ
namespace Go.Den
open Go

/-- A function, as a statement: arguments, the world, what is asked of what it hands back. -/
abbrev Tr := List Value → World → (Value → World → Prop) → Prop
def Sound (P : Program) (g : FuncId) (T : Tr) : Prop :=
  ∀ args w K, T args w K → Calls P g args.toArray w fun e w' => ∃ v, e = .returned v ∧ K v w'
def enters (P : Program) (g : FuncId) : Bool := match P.funcs[g]? with
  | some fn => fn.body.isSome && !(fn.name == "runtime.NumGoroutine")
  | none => false
abbrev Env := List (FuncId × Tr)
def findE : Env → FuncId → Option Tr
  | [], _ => none
  | (g, T) :: r, f => cond (Nat.beq g f) (some T) (findE r f)
def EnvOk (P : Program) : Env → Prop
  | [] => True
  | (g, T) :: r => (enters P g = true ∧ Sound P g T) ∧ EnvOk P r
/-- A call of a function value. -/
def callV (P : Program) (fv : Value) (args : List Value) (w : World) (K : Value → World → Prop) : Prop :=
  ∃ g first cap, fv = .func (.func g) first cap ∧ enters P g = true ∧ Calls P g (first ++ args.toArray ++ cap) w fun e w' => ∃ v, e = .returned v ∧ K v w'

def runK (P : Program) (k : Knd) (s : Sem Value) (w : World) (K : k.T → World → Prop) : Prop := ∃ x w', s.run P w = .ok (k.enc x) w' ∧ K x w'
def runU (P : Program) (s : Sem Unit) (w : World) (K : World → Prop) : Prop := ∃ w', s.run P w = .ok () w' ∧ K w'
def runT (P : Program) (ks : List Knd) (s : Sem Value) (w : World) (K : KTs ks → World → Prop) : Prop := ∃ x w', s.run P w = .ok (.tuple (encK ks x).toArray) w' ∧ K x w'

def allocD (w : World) (cells : Array Value) (t : TypeId) (K : Addr → World → Prop) : Prop := K ⟨w.heap.size, 0, none⟩ (w.alloc (.cells cells t))
def mapNewD (w : World) (K : Nat → World → Prop) : Prop := K w.heap.size (w.alloc (.map #[] 0))

def HoldsAt (w : World) (a : Addr) : Nat → List Value → Prop
  | _, [] => True
  | i, v :: r => w.cell? (a.add i) = some v ∧ HoldsAt w a (i + 1) r
def ld1 (k : CK) (w : World) (a : Addr) (K : k.T → Prop) : Prop := ∃ x : k.T, w.cell? a = some (k.enc x) ∧ K x
def ldN (l : List CK) (w : World) (a : Addr) (K : CTs l → Prop) : Prop := ∃ x : CTs l, HoldsAt w a 0 (encs l x) ∧ K x

/-- A load; 'K' is told, too, what must stay as it is for the load to yield the same. -/
def loadD (P : Program) (t : TypeId) (w : World) (a : Addr) (K : Value → (World → Prop) → Prop) : Prop :=
  match P.info? t with
  | some i => match i.zero with
    | some z => match P.underlying t with
      | some (.struct _) => match z with
        | .agg zs => cond (Nat.beq zs.size i.size) (ldN (zs.toList.map CK.of) w a fun x => K (.agg (encs (zs.toList.map CK.of) x).toArray) fun w' => HoldsAt w' a 0 (encs (zs.toList.map CK.of) x)) False
        | _ => False
      | some (.array _ _) => match z with
        | .agg zs => cond (Nat.beq zs.size i.size) (ldN (zs.toList.map CK.of) w a fun x => K (.agg (encs (zs.toList.map CK.of) x).toArray) fun w' => HoldsAt w' a 0 (encs (zs.toList.map CK.of) x)) False
        | _ => False
      | some _ => ld1 (CK.of z) w a fun x => K ((CK.of z).enc x) fun w' => w'.cell? a = some ((CK.of z).enc x)
      | none => False
    | none => False
  | none => False

def storeD (P : Program) (t : TypeId) (a : Addr) (v : Value) (w : World) (K : World → Prop) : Prop := runU P (storeVar t a v) w K
def appendD (P : Program) (t u : TypeId) (s : Sl) (x : Value) (w : World) (K : Sl → World → Prop) : Prop := runK P (.c .slice) (Builtin.append_ #[t, u] 0 #[.slice s.b s.l s.c, x]) w K
def copyD (P : Program) (t u : TypeId) (s : Sl) (x : Value) (w : World) (K : Int → World → Prop) : Prop := runK P (.c (.int .i64)) (Builtin.copy_ #[t, u] 0 #[.slice s.b s.l s.c, x]) w K
def clearD (P : Program) (t : TypeId) (x : Value) (w : World) (K : World → Prop) : Prop := runT P [] (Builtin.clear_ #[t] 0 #[x]) w fun _ w' => K w'
def deleteD (P : Program) (t u : TypeId) (m k : Value) (w : World) (K : World → Prop) : Prop := runT P [] (Builtin.delete_ #[t, u] 0 #[m, k]) w fun _ w' => K w'
def mapLenD (P : Program) (t : TypeId) (m : Value) (w : World) (K : Int → World → Prop) : Prop := runK P (.c (.int .i64)) (Builtin.len_ #[t] 0 #[m]) w K
def lookup1D (P : Program) (kn : Knd) (t : TypeId) (m k : Value) (w : World) (K : kn.T → World → Prop) : Prop := runK P kn (Instr.lookup t m k false) w K
def lookup2D (P : Program) (kn : Knd) (t : TypeId) (m k : Value) (w : World) (K : kn.T → Bool → World → Prop) : Prop := runT P [kn, .c .bool] (Instr.lookup t m k true) w fun x w' => K x.1 x.2.1 w'
def mapUpdateD (P : Program) (t : TypeId) (m k v : Value) (w : World) (K : World → Prop) : Prop := runU P (Instr.mapUpdate t m k v) w K
def mapEntryD (P : Program) (kn : Knd) (t : TypeId) (m k : Value) (w : World) (K : kn.T → Int → World → Prop) : Prop := runT P [kn, .c (.int .i64)] (Instr.mapEntry t m k) w fun x w' => K x.1 x.2.1 w'
def entryStoreD (P : Program) (t : TypeId) (m s v : Value) (w : World) (K : World → Prop) : Prop := runU P (Instr.entryStore t m s v) w K
def makeSliceD (P : Program) (t : TypeId) (l c : Value) (w : World) (K : Sl → World → Prop) : Prop := runK P (.c .slice) (Instr.makeSlice t l c) w K
def convD (P : Program) (kn : Knd) (src dst : TypeId) (x : Value) (w : World) (K : kn.T → World → Prop) : Prop := runK P kn (convert src dst x) w K
def extD (P : Program) (kn : Knd) (f : FuncId) (args : List Value) (w : World) (K : kn.T → World → Prop) : Prop := ∃ x w', (callFunc f args.toArray).run P w = .ok (.value (kn.enc x)) w' ∧ K x w'

def tupleKinds (P : Program) : List TypeId → Option (List Knd)
  | [] => some []
  | t :: r => match P.info? t with
    | some i => match i.zero with
      | some z => match tupleKinds P r with
        | some ks => some (Knd.of z :: ks)
        | none => none
      | none => none
    | none => none

/-- What a call of a function value handed back, by its type. -/
def retD (P : Program) (ty : TypeId) (v : Value) (K : Value → Prop) : Prop := match P.underlying ty with
  | some (.tuple ts) => onV (tupleKinds P ts.toList) fun ks => ∃ x : KTs ks, v = .tuple (encK ks x).toArray ∧ K (.tuple (encK ks x).toArray)
  | _ => zeroD P ty fun z => ∃ x : (Knd.of z).T, v = (Knd.of z).enc x ∧ K ((Knd.of z).enc x)

def builtSlice (P : Program) (t : TypeId) (len : Nat) (parts : List (Nat × Value)) : Option (TypeId × Array Value) := match P.underlying t with
  | some (.slice e) => match P.info? e with
    | some i => match i.zero with
      | some z => cond (Nat.ble (len * i.size) 16777216) (match Instr.fill (fun j => some (j * i.size, i.size)) (madeCells z.cells (len * i.size)) parts with
        | some cells => some (e, cells)
        | none => none) none
      | none => none
    | none => none
  | _ => none

/-- A call of a function by its number. -/
def callD (P : Program) (env : Env) (ty : TypeId) (f : FuncId) (args : List Value) (w : World) (K : Value → World → Prop) : Prop := match findE env f with
  | some T => T args w K
  | none => zeroD P ty fun z => extD P (Knd.of z) f args w fun x w' => K ((Knd.of z).enc x) w'

def effD (P : Program) (env : Env) (cur o : Ent) (op : Op) (ty : TypeId) (w : World) (K : Value → World → Prop) : Prop :=
  match op with
  | .load t x => onV (rd cur o x) fun v => match v with
    | .pointer p => onSome p fun a => loadD P t w a fun v _ => K v w
    | _ => False
  | .alloc e => zeroD P e fun z => allocD w z.cells e fun a w' => K (.pointer (some a)) w'
  | .box e x => onV (rd cur o x) fun v => allocD w v.cells e fun a w' => K (.pointer (some a)) w'
  | .buildSlice t len parts => onV (rds cur o (parts.toList.map (·.2))) fun vs => onV (builtSlice P t len ((parts.toList.map (·.1)).zip vs)) fun p => allocD w p.2 p.1 fun a w' => K (.slice (some a) len len) w'
  | .store t x y => onV (rd cur o x) fun u => onV (rd cur o y) fun v => match u with
    | .pointer p => onSome p fun a => storeD P t a v w fun w' => K undef w'
    | _ => False
  | .makeMap _ none => mapNewD w fun r w' => K (.map (some r)) w'
  | .makeSlice t l c => onV (rd cur o l) fun u => onV (rd cur o c) fun v => makeSliceD P t u v w fun s w' => K (.slice s.b s.l s.c) w'
  | .lookup t m k ok => onV (rd cur o m) fun u => onV (rd cur o k) fun v => match P.underlying t with
    | some (.map _ e) => zeroD P e fun z => cond ok (lookup2D P (Knd.of z) t u v w fun x b w' => K (.tuple #[(Knd.of z).enc x, .bool b]) w') (lookup1D P (Knd.of z) t u v w fun x w' => K ((Knd.of z).enc x) w')
    | _ => False
  | .mapUpdate t m k x => onV (rd cur o m) fun u => onV (rd cur o k) fun v => onV (rd cur o x) fun y => mapUpdateD P t u v y w fun w' => K undef w'
  | .insert t m k x => onV (rd cur o m) fun u => onV (rd cur o k) fun v => onV (rd cur o x) fun y => mapUpdateD P t u v y w fun w' => K undef w'
  | .mapEntry t m k => onV (rd cur o m) fun u => onV (rd cur o k) fun v => match P.underlying t with
    | some (.map _ e) => zeroD P e fun z => mapEntryD P (Knd.of z) t u v w fun x n w' => K (.tuple #[(Knd.of z).enc x, .int .i64 n]) w'
    | _ => False
  | .entryStore t m s x => onV (rd cur o m) fun u => onV (rd cur o s) fun v => onV (rd cur o x) fun y => entryStoreD P t u v y w fun w' => K undef w'
  | .convert src dst x => onV (rd cur o x) fun u => zeroD P dst fun z => convD P (Knd.of z) src dst u w fun x w' => K ((Knd.of z).enc x) w'
  | .call { callee := .builtin .append, args, argTypes } => match args.toList, argTypes.toList with
    | [s, x], [t, u] => onV (rd cur o s) fun vs => onV (rd cur o x) fun vx => match vs with
      | .slice b l c => appendD P t u ⟨b, l, c⟩ vx w fun r w' => K (.slice r.b r.l r.c) w'
      | _ => False
    | _, _ => False
  | .call { callee := .builtin .copy, args, argTypes } => match args.toList, argTypes.toList with
    | [s, x], [t, u] => onV (rd cur o s) fun vs => onV (rd cur o x) fun vx => match vs with
      | .slice b l c => copyD P t u ⟨b, l, c⟩ vx w fun n w' => K (.int .i64 n) w'
      | _ => False
    | _, _ => False
  | .call { callee := .builtin .clear, args, argTypes } => match args.toList, argTypes.toList with
    | [x], [t] => onV (rd cur o x) fun vx => clearD P t vx w fun w' => K (.tuple #[]) w'
    | _, _ => False
  | .call { callee := .builtin .delete, args, argTypes } => match args.toList, argTypes.toList with
    | [m, k], [t, u] => onV (rd cur o m) fun vm => onV (rd cur o k) fun vk => deleteD P t u vm vk w fun w' => K (.tuple #[]) w'
    | _, _ => False
  | .call { callee := .builtin .len, args, argTypes } => match args.toList, argTypes.toList with
    | [m], [t] => onV (rd cur o m) fun vm => mapLenD P t vm w fun n w' => K (.int .i64 n) w'
    | _, _ => False
  | .call { callee := .value (.func f), args, .. } => onV (rds cur o args.toList) fun vs => callD P env ty f vs w K
  | .call { callee := .value x, args, .. } => onV (rd cur o x) fun fv => onV (rds cur o args.toList) fun vs => callV P fv vs w fun v w' => retD P ty v fun v' => K v' w'
  | _ => False

/-- One operation, in the order of the text. -/
def opD (P : Program) (env : Env) (cur o : Ent) (op : Op) (ty : TypeId) (w : World) (K : Value → World → Prop) : Prop :=
  cond (isPure P op) (pureD P cur o op fun v => K v w) (effD P env cur o op ty w K)

theorem zeroD_spec {P : Program} {t : TypeId} {K : Value → Prop} (h : zeroD P t K) : ∃ i z, P.info? t = some i ∧ i.zero = some z ∧ K z := by
  unfold zeroD at h
  cases hi : P.info? t with
  | none => rw [hi] at h; exact h.elim
  | some i =>
    rw [hi] at h
    cases hz : i.zero with
    | none => simp [hz] at h
    | some z => simp only [hz] at h; exact ⟨i, z, rfl, hz, h⟩

theorem run_loadCells {P : Program} {a : Addr} (w : World) : ∀ (vs : List Value) (i : Nat) (acc : Array Value), HoldsAt w a i vs → (loadCellsFrom a i vs.length acc).run P w = .ok (acc ++ vs.toArray) w
  | [], i, acc, _ => by simp [loadCellsFrom]
  | v :: r, i, acc, h => by
    have := run_loadCells (P := P) w r (i + 1) (acc.push v) h.2
    simp [loadCellsFrom, h.1, this]

theorem encs_length : ∀ (l : List CK) (t : CTs l), (encs l t).length = l.length
  | [], _ => rfl
  | _ :: r, t => by simp [encs, encs_length r]

theorem loadD_spec {P : Program} {t : TypeId} {w : World} {a : Addr} {K : Value → (World → Prop) → Prop} (h : loadD P t w a K) :
    ∃ v C, K v C ∧ C w ∧ ∀ w', C w' → (loadVar t a).run P w' = .ok v w' := by
  unfold loadD at h
  cases hi : P.info? t with
  | none => simp [hi] at h
  | some i =>
    cases hz : i.zero with
    | none => simp [hi, hz] at h
    | some z =>
      cases hu : P.underlying t with
      | none => simp [hi, hz, hu] at h
      | some d =>
        by_cases hs : (∃ fs, d = .struct fs) ∨ (∃ n e, d = .array n e)
        · have hag : ∀ w, (isAgg t).run P w = .ok true w := fun w => by
            rcases hs with ⟨fs, rfl⟩ | ⟨n, e, rfl⟩ <;> simp [isAgg, run_underlying hu]
          cases z <;> try (rcases hs with ⟨fs, rfl⟩ | ⟨n, e, rfl⟩ <;> simp [hi, hz, hu] at h; done)
          rename_i zs
          have h' : cond (Nat.beq zs.size i.size) (ldN (zs.toList.map CK.of) w a fun x => K (.agg (encs (zs.toList.map CK.of) x).toArray) fun w' => HoldsAt w' a 0 (encs (zs.toList.map CK.of) x)) False := by
            rcases hs with ⟨fs, rfl⟩ | ⟨n, e, rfl⟩ <;> simpa only [hi, hz, hu] using h
          cases hb : Nat.beq zs.size i.size with
          | false => rw [hb] at h'; exact h'.elim
          | true =>
            rw [hb] at h'
            obtain ⟨x, hx, hK⟩ := h'
            refine ⟨_, _, hK, hx, fun w' hw' => ?_⟩
            have hlen : (encs (zs.toList.map CK.of) x).length = i.size := by
              rw [encs_length]; simpa using Nat.eq_of_beq_eq_true hb
            have hr := run_loadCells (P := P) w' _ 0 #[] hw'
            rw [hlen] at hr
            simp [loadVar, hag, run_sizeOf' hi, loadCells, hr]
        · have hag : ∀ w, (isAgg t).run P w = .ok false w := fun w => by
            cases d <;> simp [isAgg, run_underlying hu] <;> simp_all
          have h' : ld1 (CK.of z) w a fun x => K ((CK.of z).enc x) fun w' => w'.cell? a = some ((CK.of z).enc x) := by
            cases d <;> first | simpa only [hi, hz, hu] using h | simp_all
          obtain ⟨x, hx, hK⟩ := h'
          exact ⟨_, _, hK, hx, fun w' hw' => by simp [loadVar, hag, hw']⟩

theorem findE_spec {P : Program} : ∀ {env : Env} {f : FuncId} {T : Tr}, EnvOk P env → findE env f = some T → enters P f = true ∧ Sound P f T
  | [], _, _, _, h => by cases h
  | (g, T') :: r, f, T, hok, h => by
    simp only [findE] at h
    cases hb : Nat.beq g f with
    | true =>
      rw [hb] at h
      have : g = f := Nat.eq_of_beq_eq_true hb
      subst this
      cases h
      exact hok.1
    | false => rw [hb] at h; exact findE_spec hok.2 h

theorem enters_run {P : Program} {g : FuncId} (h : enters P g = true) (args : Array Value) (w : World) : (callFunc g args).run P w = .ok (.enter g args) w := by
  unfold enters at h
  cases hf : P.funcs[g]? with
  | none => simp [hf] at h
  | some fn =>
    simp [hf] at h
    obtain ⟨h1, h2⟩ := h
    obtain ⟨c, hc⟩ := Option.isSome_iff_exists.1 h1
    simp [callFunc, hf, hc, h2]

/-- What an operation asks of the rest, where it yields a value. -/
theorem upon_value {P : Program} {o : Oper} {a : Act} {w w' : World} {next : Act → World → Prop} {Q : Exit → Act → World → Prop} {v : Value}
    (h : (execOp a.eval o).run P w = .ok (.value v) w') (hn : next (a.put o.dst v) w') : o.wp P a w next Q := by
  unfold Oper.wp
  rw [h]
  exact hn
theorem upon_skip {P : Program} {o : Oper} {a : Act} {w w' : World} {next : Act → World → Prop} {Q : Exit → Act → World → Prop}
    (h : (execOp a.eval o).run P w = .ok .skip w') (hn : next (a.put o.dst undef) w') : o.wp P a w next Q := by
  unfold Oper.wp
  rw [h]
  exact hn
theorem upon_enter {P : Program} {o : Oper} {a : Act} {w w' : World} {next : Act → World → Prop} {Q : Exit → Act → World → Prop} {f : FuncId} {args : Array Value}
    (h : (execOp a.eval o).run P w = .ok (.enter f args) w') (hn : Calls P f args w' fun e w'' => ∃ v, e = .returned v ∧ next (a.put o.dst v) w'') : o.wp P a w next Q := by
  unfold Oper.wp
  rw [h]
  exact hn.mono fun e w'' ⟨v, he, hv⟩ => by subst he; exact hv

theorem run_buildSlice {P : Program} (w : World) (t : TypeId) (len : Nat) (ps : Array (Nat × Value)) (e : TypeId) (cells : Array Value) (hp : builtSlice P t len ps.toList = some (e, cells)) :
    (Instr.buildSlice t len ps).run P w = .ok (.slice (some ⟨w.heap.size, 0, none⟩) len len) (w.alloc (.cells cells e)) := by
  unfold builtSlice at hp
  cases hu : P.underlying t with
  | none => simp [hu] at hp
  | some d =>
    cases d <;> try (simp [hu] at hp; done)
    rename_i e'
    cases hi : P.info? e' with
    | none => simp [hu, hi] at hp
    | some i =>
      cases hz : i.zero with
      | none => simp [hu, hi, hz] at hp
      | some z =>
        simp only [hu, hi, hz] at hp
        cases hb : Nat.ble (len * i.size) 16777216 with
        | false => rw [hb] at hp; cases hp
        | true =>
          rw [hb] at hp
          have hle : len * i.size ≤ 16777216 := Nat.le_of_ble_eq_true hb
          cases hfl : Instr.fill (fun j => some (j * i.size, i.size)) (madeCells z.cells (len * i.size)) ps.toList with
          | none => simp [hfl] at hp
          | some cs =>
            simp [hfl] at hp
            obtain ⟨rfl, rfl⟩ := hp
            have hno : ¬ (2 ^ 24 < len * i.size) := by omega
            unfold Instr.buildSlice
            simp only [Sem.run_bind, run_underlying hu, Result.andThen_ok, run_sizeOf' hi, gt_iff_lt, hno, if_false]
            by_cases h0 : len * i.size = 0
            · have hf' := hfl
              rw [h0] at hf'
              simp only [madeCells, Array.range_zero', Array.map_empty] at hf'
              simp only [h0, if_true, Sem.run_pure, Result.andThen_ok, Array.range_zero', Array.map_empty, hf', newRow, Sem.run_bind, run_newObj]
              rfl
            · simp only [madeCells] at hfl
              simp only [h0, if_false, zeroValue, typeInfo, Sem.run_bind, run_program, hi, hz, Sem.run_pure, Result.andThen_ok, hfl, newRow, run_newObj]
              rfl
theorem append_ty (A : Array TypeId) (ty : TypeId) (x : Array Value) : Builtin.append_ A ty x = Builtin.append_ A 0 x := rfl
theorem copy_ty (A : Array TypeId) (ty : TypeId) (x : Array Value) : Builtin.copy_ A ty x = Builtin.copy_ A 0 x := rfl
theorem clear_ty (A : Array TypeId) (ty : TypeId) (x : Array Value) : Builtin.clear_ A ty x = Builtin.clear_ A 0 x := rfl
theorem delete_ty (A : Array TypeId) (ty : TypeId) (x : Array Value) : Builtin.delete_ A ty x = Builtin.delete_ A 0 x := rfl
theorem len_ty (A : Array TypeId) (ty : TypeId) (x : Array Value) : Builtin.len_ A ty x = Builtin.len_ A 0 x := rfl
theorem eff_sound {P : Program} {env : Env} (henv : EnvOk P env) {n : Nat} {cur o : Ent} {a : Act} (hv : View n cur o a) (op : Oper) {w : World} {K : Value → World → Prop} {next : Act → World → Prop} {Q : Exit → Act → World → Prop}
    (h : effD P env cur o op.op op.type w K) (hn : ∀ v w', K v w' → next (a.put op.dst v) w') : op.wp P a w next Q := by
  obtain ⟨dst, op, ty, pos, after, guard⟩ := op
  cases op <;> simp only [effD] at h <;> try (exact h.elim)
  case load t x =>
    obtain ⟨v, hx, h1⟩ := onV_spec h
    cases v <;> try (exact h1.elim)
    obtain ⟨ad, rfl, h2⟩ := onSome_spec h1
    obtain ⟨v, C, hK, hC, hr⟩ := loadD_spec h2
    exact upon_value (v := v) (w' := w) (by simp [execOp, hv.rd hx, Instr.loadAt, Instr.sureAddr, hr w hC]) (hn _ _ hK)
  case alloc e =>
    obtain ⟨i, z, hi, hz, hK⟩ := zeroD_spec h
    exact upon_value (by simp [execOp, Instr.alloc, zeroValue, typeInfo, hi, hz, newVar, newRow]) (hn _ _ hK)
  case box e x =>
    obtain ⟨v, hx, hK⟩ := onV_spec h
    exact upon_value (by simp [execOp, Instr.box, hv.rd hx, newVar, newRow]) (hn _ _ hK)
  case store t x y =>
    obtain ⟨u, hx, h1⟩ := onV_spec h
    obtain ⟨v, hy, h2⟩ := onV_spec h1
    cases u <;> try (exact h2.elim)
    obtain ⟨ad, rfl, h3⟩ := onSome_spec h2
    obtain ⟨w', hr, hK⟩ := h3
    exact upon_skip (w' := w') (by simp [execOp, hv.rd hx, hv.rd hy, Instr.storeAt, Instr.sureAddr, hr]) (hn _ _ hK)
  case makeMap t r =>
    cases r with
    | some r => exact h.elim
    | none => exact upon_value (by simp [execOp, Instr.makeMap]) (hn _ _ h)
  case makeSlice t l c =>
    obtain ⟨u, hx, h1⟩ := onV_spec h
    obtain ⟨v, hy, h2⟩ := onV_spec h1
    obtain ⟨s, w', hr, hK⟩ := h2
    exact upon_value (w' := w') (by simp [execOp, hv.rd hx, hv.rd hy, hr]; rfl) (hn _ _ hK)
  case mapUpdate t m k x =>
    obtain ⟨u, hm, h1⟩ := onV_spec h
    obtain ⟨v, hk, h2⟩ := onV_spec h1
    obtain ⟨y, hx, h3⟩ := onV_spec h2
    obtain ⟨w', hr, hK⟩ := h3
    exact upon_skip (w' := w') (by simp [execOp, hv.rd hm, hv.rd hk, hv.rd hx, hr]) (hn _ _ hK)
  case insert t m k x =>
    obtain ⟨u, hm, h1⟩ := onV_spec h
    obtain ⟨v, hk, h2⟩ := onV_spec h1
    obtain ⟨y, hx, h3⟩ := onV_spec h2
    obtain ⟨w', hr, hK⟩ := h3
    exact upon_skip (w' := w') (by simp [execOp, hv.rd hm, hv.rd hk, hv.rd hx, hr]) (hn _ _ hK)
  case entryStore t m s x =>
    obtain ⟨u, hm, h1⟩ := onV_spec h
    obtain ⟨v, hk, h2⟩ := onV_spec h1
    obtain ⟨y, hx, h3⟩ := onV_spec h2
    obtain ⟨w', hr, hK⟩ := h3
    exact upon_skip (w' := w') (by simp [execOp, hv.rd hm, hv.rd hk, hv.rd hx, hr]) (hn _ _ hK)
  case mapEntry t m k =>
    obtain ⟨u, hm, h1⟩ := onV_spec h
    obtain ⟨v, hk, h2⟩ := onV_spec h1
    cases hu : P.underlying t with
    | none => simp [hu] at h2
    | some d =>
      cases d <;> try (simp [hu] at h2; done)
      simp only [hu] at h2
      obtain ⟨i, z, hi, hz, h3⟩ := zeroD_spec h2
      obtain ⟨x, w', hr, hK⟩ := h3
      exact upon_value (w' := w') (by simp [execOp, hv.rd hm, hv.rd hk, hr]; try rfl) (hn _ _ hK)
  case lookup t m k ok =>
    obtain ⟨u, hm, h1⟩ := onV_spec h
    obtain ⟨v, hk, h2⟩ := onV_spec h1
    cases hu : P.underlying t with
    | none => simp [hu] at h2
    | some d =>
      cases d <;> try (simp [hu] at h2; done)
      simp only [hu] at h2
      obtain ⟨i, z, hi, hz, h3⟩ := zeroD_spec h2
      cases ok with
      | true =>
        obtain ⟨x, w', hr, hK⟩ := h3
        exact upon_value (w' := w') (by simp [execOp, hv.rd hm, hv.rd hk, hr]; try rfl) (hn _ _ hK)
      | false =>
        obtain ⟨x, w', hr, hK⟩ := h3
        exact upon_value (w' := w') (by simp [execOp, hv.rd hm, hv.rd hk, hr]; try rfl) (hn _ _ hK)
  case convert src d x =>
    obtain ⟨u, hx, h1⟩ := onV_spec h
    obtain ⟨i, z, hi, hz, h2⟩ := zeroD_spec h1
    obtain ⟨x, w', hr, hK⟩ := h2
    exact upon_value (w' := w') (by simp [execOp, hv.rd hx, hr]) (hn _ _ hK)
  case buildSlice t len parts =>
    obtain ⟨vs, hvs, h1⟩ := onV_spec h
    obtain ⟨p, hp, hK⟩ := onV_spec h1
    obtain ⟨e, cells⟩ := p
    have he : (parts.map fun (i, x) => (i, a.eval x)).toList = (parts.toList.map (·.1)).zip vs := by
      rw [Array.toList_map]
      exact map_zip_eq a.eval parts.toList vs (by rw [← hv.rds hvs]; simp)
    have hr := run_buildSlice w t len (parts.map fun (i, x) => (i, a.eval x)) e cells (by rw [he]; exact hp)
    refine upon_value (v := .slice (some ⟨w.heap.size, 0, none⟩) len len) (w' := w.alloc (.cells cells e)) ?_ (hn _ _ hK)
    unfold execOp
    simp only [Sem.run_bind, hr]
    rfl
  case call c =>
    obtain ⟨callee, args, argTypes⟩ := c
    obtain ⟨args⟩ := args
    obtain ⟨argTypes⟩ := argTypes
    cases callee with
    | invoke r m => exact h.elim
    | builtin b =>
      cases b <;> try (exact h.elim)
      case append =>
        match args, argTypes, h with
        | [s, x], [t, u], h =>
          obtain ⟨vs, hs, h1⟩ := onV_spec h
          obtain ⟨vx, hx, h2⟩ := onV_spec h1
          cases vs <;> try (exact h2.elim)
          obtain ⟨r, w', hr, hK⟩ := h2
          exact upon_value (w' := w') (call_builtin_run w (by
            simp only [builtin, Sem.run_bind, List.map_toArray, List.map_cons, List.map_nil, hv.rd hs, hv.rd hx]
            rw [append_ty, hr.trans rfl]; rfl)) (hn _ _ hK)
      case copy =>
        match args, argTypes, h with
        | [s, x], [t, u], h =>
          obtain ⟨vs, hs, h1⟩ := onV_spec h
          obtain ⟨vx, hx, h2⟩ := onV_spec h1
          cases vs <;> try (exact h2.elim)
          obtain ⟨r, w', hr, hK⟩ := h2
          exact upon_value (w' := w') (call_builtin_run w (by
            simp only [builtin, Sem.run_bind, List.map_toArray, List.map_cons, List.map_nil, hv.rd hs, hv.rd hx]
            rw [copy_ty, hr.trans rfl]; rfl)) (hn _ _ hK)
      case clear =>
        match args, argTypes, h with
        | [x], [t], h =>
          obtain ⟨vx, hx, h2⟩ := onV_spec h
          obtain ⟨r, w', hr, hK⟩ := h2
          exact upon_value (w' := w') (call_builtin_run w (by
            simp only [builtin, Sem.run_bind, List.map_toArray, List.map_cons, List.map_nil, hv.rd hx]
            rw [clear_ty, hr.trans rfl]; rfl)) (hn _ _ hK)
      case delete =>
        match args, argTypes, h with
        | [m, k], [t, u], h =>
          obtain ⟨vm, hm, h1⟩ := onV_spec h
          obtain ⟨vk, hk, h2⟩ := onV_spec h1
          obtain ⟨r, w', hr, hK⟩ := h2
          exact upon_value (w' := w') (call_builtin_run w (by
            simp only [builtin, Sem.run_bind, List.map_toArray, List.map_cons, List.map_nil, hv.rd hm, hv.rd hk]
            rw [delete_ty, hr.trans rfl]; rfl)) (hn _ _ hK)
      case len =>
        match args, argTypes, h with
        | [m], [t], h =>
          obtain ⟨vm, hm, h2⟩ := onV_spec h
          obtain ⟨r, w', hr, hK⟩ := h2
          exact upon_value (w' := w') (call_builtin_run w (by
            simp only [builtin, Sem.run_bind, List.map_toArray, List.map_cons, List.map_nil, hv.rd hm]
            rw [len_ty, hr.trans rfl]; rfl)) (hn _ _ hK)
    | value x =>
      by_cases hfx : ∃ f, x = .func f
      · obtain ⟨f, rfl⟩ := hfx
        obtain ⟨vs, hvs, h1⟩ := onV_spec h
        have e := hv.rds hvs
        have hres : ∀ w, (execOp a.eval { dst := dst, op := .call { callee := .value (.func f), args := ⟨args⟩, argTypes := ⟨argTypes⟩ }, type := ty, pos := pos, after := after, guard := guard }).run P w = (callFunc f vs.toArray).run P w := fun w => by
          have em : (⟨args⟩ : Array Operand).map a.eval = vs.toArray := by rw [← e]; simp
          unfold execOp
          simp only [resolve, em, Act.eval, Deferred.ofValue, Sem.run_bind, Sem.run_pure, Result.andThen_ok, invoke]
          simp
        unfold callD at h1
        cases hf : findE env f with
        | some T =>
          rw [hf] at h1
          obtain ⟨h2, h3⟩ := findE_spec henv hf
          exact upon_enter ((hres w).trans (enters_run h2 _ w)) ((h3 _ _ _ h1).mono fun e w' ⟨v, he, hK⟩ => ⟨v, he, hn _ _ hK⟩)
        | none =>
          rw [hf] at h1
          obtain ⟨i, z, hi, hz, h3⟩ := zeroD_spec h1
          obtain ⟨x, w', hr, hK⟩ := h3
          exact upon_value ((hres w).trans hr) (hn _ _ hK)
      · have h' : onV (rd cur o x) fun fv => onV (rds cur o args) fun vs => callV P fv vs w fun v w' => retD P ty v fun v' => K v' w' := by
          cases x <;> first | exact h | exact absurd ⟨_, rfl⟩ hfx
        obtain ⟨fv, hfv, h1⟩ := onV_spec h'
        obtain ⟨vs, hvs, h2⟩ := onV_spec h1
        obtain ⟨g, first, cap, rfl, h3, h4⟩ := h2
        have e := hv.rds hvs
        have em : (⟨args⟩ : Array Operand).map a.eval = vs.toArray := by rw [← e]; simp
        have hres : (execOp a.eval { dst := dst, op := .call { callee := .value x, args := ⟨args⟩, argTypes := ⟨argTypes⟩ }, type := ty, pos := pos, after := after, guard := guard }).run P w = (callFunc g (first ++ vs.toArray ++ cap)).run P w := by
          unfold execOp
          simp only [resolve, em, hv.rd hfv, Deferred.ofValue, Sem.run_bind, Sem.run_pure, Result.andThen_ok, invoke]
        refine upon_enter (hres.trans (enters_run h3 _ w)) (h4.mono fun e w' ⟨v, he, hK⟩ => ⟨v, he, ?_⟩)
        have : K v w' := by
          unfold retD at hK
          cases hu : P.underlying ty with
          | none =>
            rw [hu] at hK
            obtain ⟨i, z, hi, hz, x, rfl, hk⟩ := zeroD_spec hK
            exact hk
          | some d =>
            rw [hu] at hK
            cases d
            case tuple ts =>
              obtain ⟨ks, hks, x, rfl, hk⟩ := onV_spec hK
              exact hk
            all_goals
              obtain ⟨i, z, hi, hz, x, rfl, hk⟩ := zeroD_spec hK
              exact hk
        exact hn _ _ this
end Go.Den
