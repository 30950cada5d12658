import Derived.Lib.Overlaps
import Derived.MapKept
import Derived.WalkKit
import Derived.ProofKit
import Derived.OpenShut
import Derived.JoinedOf
import Derived.Handed
import Derived.WideKeyArgs
import Derived.ChangeSlices
import Derived.Laws.IdiomArrays
import Derived.Laws.BytesArg
import Derived.Deep.Slices
import Derived.Test.YtjjgcimlmjnaeaaGreatA1
import Derived.Test.YtjjgcimlmjnaeaaGreatA2
import Derived.Test.YtjjgcimlmjnaeaaGreatA3
namespace Go.Den
open Go
theorem callV_i {P : Program} {g : FuncId} {T : Tr} (hS : Sound P g T) (hen : enters P g = true) {first cap : Array Value} {args : List Value} {w : World} {K : Value → World → Prop} (h : T (first.toList ++ args ++ cap.toList) w K) :
  callV P (.func (.func g) first cap) args w K := by
 refine ⟨g, first, cap, rfl, hen, ?_⟩
 have := hS _ w K h
 have e : (first.toList ++ args ++ cap.toList).toArray = first ++ args.toArray ++ cap := by simp
 rwa [e] at this
theorem Own.read {w : World} {g : Nat} {e : TypeId} {cs : List Value} (h : Own w g e cs) {o : Nat} {vs : List Value} (hv : ∀ j v, vs[j]? = some v → cs[o + j]? = some v) :
  ∀ j v, vs[j]? = some v → w.cell? ((⟨g, o, none⟩ : Addr).add j) = some v := by
 intro j v hj
 rw [addr_lit, h.cell]; exact hv j v hj
theorem copy_own {P : Program} {t t' e : TypeId} {n : Nat} (ht : P.underlying t = some (.slice e)) (hn : (P.info? e).map (·.size) = some n) {w : World} {g o dl dc : Nat} {a : Addr} {sl sc : Nat} {eg : TypeId} {cur cs : List Value}
  (ho : Own w g eg cur) (hl : cs.length = min sl dl * n) (hr : ∀ j v, cs[j]? = some v → w.cell? (a.add j) = some v) (hfit : o + cs.length ≤ cur.length) (h1 : ∀ v ∈ cs, v.oneCell' = true) {K : Int → World → Prop}
  (hK : ∀ w', Own w' g eg (cur.take o ++ cs ++ cur.drop (o + cs.length)) → Mod (fun k => k = g) w w' → w'.heap.size = w.heap.size → K (min sl dl : Nat) w') :
  copyD P t t' ⟨some ⟨g, o, none⟩, dl, dc⟩ (.slice (some a) sl sc) w K := by
 cases hq : P.info? e with
 | none => rw [hq] at hn; cases hn
 | some i =>
  have hi : i.size = n := by simpa [hq] using hn
  subst hi
  have hmin : Nat.min sl dl = min sl dl := rfl
  have hf := run_firstCells_some (P := P) w i.size (Nat.min sl dl) a sl sc cs hl hr
  have hst := run_storeCells_at P g o eg cs 0 cur.toArray w ho (by simpa using hfit) h1
  refine ⟨((min sl dl : Nat) : Int), _, ?_, hK _ (ho.setRow _) (Mod.setRow w g _) (by simp)⟩
  simp only [Nat.add_zero] at hst
  simp [Builtin.copy_, run_underlying ht, Builtin.lenOf, sizeOf, typeInfo, hq, hf, hst]
  rfl
theorem size_zeroC (z : Array Value) (n : Nat) : (Builtin.zeroCells z n).toList.length = n * z.size := by simp [Builtin.zeroCells]
theorem clear_own {P : Program} {t e : TypeId} {n bytes : Nat} {z : List Value} (hE : Elem P t e n bytes z) (hz1 : ∀ v ∈ z, v.oneCell' = true) {w : World} {g o l c : Nat} {eg : TypeId} {cur : List Value}
  (ho : Own w g eg cur) (hfit : o + l * n ≤ cur.length) {K : World → Prop}
  (hK : ∀ w' zs, zs.length = l * n → Own w' g eg (cur.take o ++ zs ++ cur.drop (o + l * n)) → Mod (fun k => k = g) w w' → w'.heap.size = w.heap.size → K w') :
  clearD P t (.slice (some ⟨g, o, none⟩) l c) w K := by
 obtain ⟨i, zv, hi, hz, rfl, rfl, rfl⟩ := hE.info
 have hzs : zv.cells.size = i.size := by have := hE.zlen; simpa using this
 by_cases hl : l = 0
 ·subst hl
  refine ⟨(), w, ?_, hK w [] (by simp) (by simpa using ho) (Mod.refl _ _) rfl⟩
  simp [Builtin.clear_, run_underlying hE.under, encK]
 ·have hlen : (Builtin.zeroCells zv.cells l).toList.length = l * i.size := by rw [size_zeroC, hzs]
  have hone : ∀ v ∈ (Builtin.zeroCells zv.cells l).toList, v.oneCell' = true := by
   intro v hv
   simp only [Builtin.zeroCells, Array.toList_map, List.mem_map] at hv
   obtain ⟨j, _, rfl⟩ := hv
   have hp : 0 < zv.cells.size := by rw [hzs]; exact hE.pos
   have hm : j % zv.cells.size < zv.cells.size := Nat.mod_lt _ hp
   rw [getElem!_pos zv.cells _ hm]
   exact hz1 _ (by simp)
  have hst := run_storeCells_at P g o eg (Builtin.zeroCells zv.cells l).toList 0 cur.toArray w ho (by rw [hlen]; simpa using hfit) hone
  rw [hlen] at hst
  refine ⟨(), _, ?_, hK _ (Builtin.zeroCells zv.cells l).toList hlen (ho.setRow _) (Mod.setRow w g _) (by simp)⟩
  simp only [Nat.add_zero] at hst
  obtain ⟨l', rfl⟩ : ∃ m, l = m + 1 := ⟨l - 1, by omega⟩
  simp [Builtin.clear_, run_underlying hE.under, zeroValue, typeInfo, hi, hz, hst, encK]
theorem zeroC_flat {α : Type} (z : Array Value) (enc : α → List Value) (x : α) (hz : enc x = z.toList) (k : Nat) (hp : 0 < z.size) : (Builtin.zeroCells z k).toList = (List.replicate k x).flatMap enc := madeCells_flat z enc x hz k hp
theorem append_zeros {α : Type} {P : Program} {t ti e : TypeId} {n bytes : Nat} {z : List Value} (hE : Elem P t e n bytes z) (hti : P.underlying ti = some (.int .i64)) {enc : α → List Value} (x : α) (hx : enc x = z) (henc : ∀ x, (enc x).length = n)
  {w : World} {s : Sl} {xs : List α} (hs : Rd w s n enc xs) {k : Nat} (hk : s.c < xs.length + k) (h63 : xs.length + k ≤ 9223372036854775807) (hbytes : (xs.length + k) * bytes ≤ 140737488355328) {K : Sl → World → Prop}
  (hK : ∀ r w', Vec w' e n enc r (xs ++ List.replicate k x) → Keep w w' → (∃ a, r.b = some a ∧ w.heap.size ≤ a.block) → K r w') : appendD P t ti s (.int .i64 (k : Int)) w K := by
 obtain ⟨i, zv, hi, hz, rfl, rfl, rfl⟩ := hE.info
 obtain ⟨sb, sl, sc⟩ := s
 have hsl : sl = xs.length := hs.len
 have hsc : sc < sl + k := by rw [hsl]; exact hk
 have hzs : zv.cells.size = i.size := by have := hE.zlen; simpa using this
 have hge := grownCap_ge w (sl + k) sc e
 have hcm : grownCap w (sl + k) sc e ≤ maxLen := grownCap_le_maxLen w (sl + k) sc e (by simp only [maxLen]; omega)
 have hold : (Builtin.firstCells i.size sl (.slice sb sl sc)).run P w.drew = .ok (xs.flatMap enc).toArray w.drew := by
  cases sb with
  | none =>
   have hx0 : xs = [] := by
    cases xs with
    | nil => rfl
    | cons y r => obtain ⟨a, ha, _⟩ := hs.get 0 y rfl; cases ha
   subst hx0
   simp [Builtin.firstCells]
  | some a => exact run_firstCells_some (P := P) w.drew i.size sl a sl sc (xs.flatMap enc) (by rw [length_flatMap_enc henc, hsl]) (fun j v hj => by simpa using firstCells_rd hs henc (a := a) rfl j v hj)
 have hnk : (Builtin.zeroCells zv.cells k).toList = (List.replicate k x).flatMap enc := zeroC_flat zv.cells enc x hx k (by rw [hzs]; exact hE.pos)
 have hkw : IntKind.i64.wrap (k : Int) = (k : Int) := w64n k (by omega)
 have hkb : ¬ (281474976710656 < (k : Int) * (i.bytes : Int)) := by
  have h1 : k * i.bytes ≤ (xs.length + k) * i.bytes := Nat.mul_le_mul_right _ (by omega)
  have h2 : ((k * i.bytes : Nat) : Int) ≤ 140737488355328 := by omega
  rw [Int.natCast_mul] at h2
  omega
 have h48 : ¬ (281474976710656 < Builtin.nextslicecap (sl + k) sc * i.bytes) := by have := growslice_fits (need := sl + k) (old := sc) (bytes := i.bytes) hsc (by rw [hsl]; exact hbytes); omega
 have hroom : ¬ (sl + k ≤ sc) := by omega
 have hpos : ¬ (k * i.size = 0) := by
  have hk0 : 0 < k := by have := hs.cap; simp only at this; omega
  have := Nat.mul_pos hk0 hE.pos
  omega
 have h63' : ¬ (9223372036854775807 < (sl : Int) + (k : Int)) := by omega
 refine ⟨(⟨some ⟨w.heap.size, 0, none⟩, sl + k, grownCap w (sl + k) sc e⟩ : Sl), w.drew.alloc (.cells ((xs.flatMap enc).toArray ++ Builtin.zeroCells zv.cells k ++ Builtin.zeroCells zv.cells (grownCap w (sl + k) sc e - (sl + k))) e), ?_, hK _ _ ⟨?_, hge, hcm, .inr ⟨w.heap.size, (Builtin.zeroCells zv.cells (grownCap w (sl + k) sc e - (sl + k))).toList, rfl, ?_, ?_⟩⟩ ((Mod.refl _ w).drew.alloc _) ⟨_, rfl, Nat.le_refl _⟩⟩
 ·have hneg : ¬ ((k : Int) < 0) := by omega
  simp [Builtin.append_, run_underlying hE.under, run_underlying hti, sizeOf, typeInfo, zeroValue, hi, hz, asInt, asIntOf, hkw, hkb, hroom, h63', h48, Question.forced, hold, hneg, hpos, newRow, grownCap, Knd.enc, CK.enc]
 ·simp [hsl]
 ·have := Own.alloc' w.drew ((xs.flatMap enc).toArray ++ Builtin.zeroCells zv.cells k ++ Builtin.zeroCells zv.cells (grownCap w (sl + k) sc e - (sl + k))) e
  simpa [List.append_assoc, hnk] using this
 ·rw [List.length_append, length_flatMap_enc henc, size_zeroC, hzs, List.length_append, List.length_replicate, ← hsl, ← Nat.add_mul]
  congr 1
  show sl + k + (grownCap w (sl + k) sc e - (sl + k)) = grownCap w (sl + k) sc e
  omega
theorem sliceAddr_zero (b : Option Addr) (c n : Nat) : sliceAddr b c 0 n = b := by
 unfold sliceAddr
 split
 ·rfl
 ·cases b with
  | none => rfl
  | some a => simp [Addr.add]
theorem sliceAddr_own {g c l n : Nat} (h : l < c) : sliceAddr (some ⟨g, 0, none⟩) c l n = some ⟨g, l * n, none⟩ := by
 unfold sliceAddr
 rw [if_neg (by omega)]
 simp [addr_lit]
theorem flat_take {α : Type} {enc : α → List Value} {n : Nat} (henc : ∀ x, (enc x).length = n) (xs : List α) (R : List Value) (i : Nat) (hi : i ≤ xs.length) : (xs.flatMap enc ++ R).take (i * n) = (xs.take i).flatMap enc := by
 have h1 : xs.flatMap enc = (xs.take i).flatMap enc ++ (xs.drop i).flatMap enc := by rw [← List.flatMap_append, List.take_append_drop]
 have h2 : ((xs.take i).flatMap enc).length = i * n := by rw [length_flatMap_enc henc, List.length_take, Nat.min_eq_left hi]
 rw [h1, List.append_assoc, ← h2, List.take_left]
theorem flat_drop {α : Type} {enc : α → List Value} {n : Nat} (henc : ∀ x, (enc x).length = n) (xs : List α) (R : List Value) (i : Nat) (hi : i ≤ xs.length) : (xs.flatMap enc ++ R).drop (i * n) = (xs.drop i).flatMap enc ++ R := by
 have h1 : xs.flatMap enc = (xs.take i).flatMap enc ++ (xs.drop i).flatMap enc := by rw [← List.flatMap_append, List.take_append_drop]
 have h2 : ((xs.take i).flatMap enc).length = i * n := by rw [length_flatMap_enc henc, List.length_take, Nat.min_eq_left hi]
 conv => lhs; rw [h1, List.append_assoc, ← h2, List.drop_left]
theorem overlaps_no {P : Program} {f : FuncId} {fn : Func} {t tR e : TypeId} {n : Nat} (hf : P.funcs[f]? = some fn) (hname : (fn.name == "runtime.NumGoroutine") = false) (hb : fn.body.isNone = true) (hn : Extern.findNext fn = none)
  (he : Extern.find fn = some (Extern.SlicesOverlaps.overlaps #[t, t] #[tR])) (ht : P.underlying t = some (.slice e)) (hz : (P.info? e).map (·.size) = some n) {w : World} {ga gb oa ob la ca lb cb : Nat} {ea eb : TypeId} {ca' cb' : List Value}
  (ha : Own w ga ea ca') (hb' : Own w gb eb cb') (hne : ga ≠ gb) (hpos : cb'.length ≠ 0) {K : Bool → World → Prop} (hK : K false w) :
  extD P (.c .bool) f [.slice (some ⟨ga, oa, none⟩) la ca, .slice (some ⟨gb, ob, none⟩) lb cb] w K := by
 have hsz : ∀ w, (sizeOf e).run P w = .ok n w := fun w => by
  cases hq : P.info? e with
  | none => rw [hq] at hz; cases hz
  | some i => rw [hq] at hz; cases hz; exact run_sizeOf' hq w
 refine ⟨false, w, ?_, hK⟩
 have hsa : w.shape? ga = some (ea, ca'.toArray.size) := by unfold World.shape?; rw [show w.heap[ga]? = _ from ha]
 have hsb : w.shape? gb = some (eb, cb'.toArray.size) := by unfold World.shape?; rw [show w.heap[gb]? = _ from hb']
 have fz : ∀ o, w.frozen? ⟨ga, o, none⟩ = false := fun o => by unfold World.frozen?; rw [show w.heap[ga]? = _ from ha]; simp
 rw [run_callFunc_extern hf hname hb hn he, Lib.run_overlaps_apart w t tR e ht n hsz ⟨ga, oa, none⟩ ⟨gb, ob, none⟩ la ca lb cb hne ea eb _ _ hsa hsb (by simpa using hpos) (fz _) (fz _)]
 rfl
end Go.Den

namespace Go.Den
open Go Go.MapKept
structure KeyOk {K : Type} (P : Program) (kt : TypeId) (ek : K → Value) : Prop where
 check : ∀ (e : Bool) (x : K) (w : World), (Instr.checkKey e 10000 kt (ek x)).run P w = .ok () w
 find : ∀ (x : K) (w : World) (l : List MapEntry) (ks : List K), l.map (·.key) = ks.map ek →
  (x ∉ ks ∧ (Instr.findKey kt (ek x) l).run P w = .ok none w) ∨ ∃ j e, ks[j]? = some x ∧ l[j]? = some e ∧ (Instr.findKey kt (ek x) l).run P w = .ok (some (j, e.val)) w
 stays : ∀ x : K, Instr.sameBits 10000 (ek x) (ek x) = true
theorem keyOk_int {P : Program} {kt : TypeId} {k : IntKind} (hd : P.underlying kt = some (.int k)) : KeyOk P kt (fun n : Int => .int k n) where
 check e x w := run_checkKey hd (by simp [IsKey]) e 9999
 find x w l ks h := by
  have hk : ∀ e ∈ l, IsKey (.int k) e.key := fun e he => by
   have : e.key ∈ ks.map (fun n : Int => Value.int k n) := h ▸ List.mem_map.2 ⟨e, he, rfl⟩
   obtain ⟨n, _, hn⟩ := List.mem_map.1 this
   rw [← hn]; simp [IsKey]
  rcases findNow_spec (d := .int k) (k := .int k x) (by simp [IsKey]) l 0 hk with ⟨h1, h2⟩ | ⟨j, e, h1, h2, h3⟩
  ·refine .inl ⟨fun hx => ?_, run_findKey hd h1⟩
   have : (Value.int k x) ∈ l.map (·.key) := h ▸ List.mem_map.2 ⟨x, hx, rfl⟩
   obtain ⟨e, he, he2⟩ := List.mem_map.1 this
   exact h2 e he he2
  ·rw [Nat.zero_add] at h1
   refine .inr ⟨j, e, ?_, h2, run_findKey hd h1⟩
   have : (l.map (·.key))[j]? = some (.int k x) := by rw [List.getElem?_map, h2]; simp [h3]
   rw [h, List.getElem?_map] at this
   cases hj : ks[j]? with
   | none => rw [hj] at this; cases this
   | some n => rw [hj] at this; simp at this; rw [this]
 stays x := by simp [Instr.sameBits]
theorem encK_two (kn : Knd) (x : kn.T) (b : Bool) : encK [kn, .c .bool] (x, b, ()) = [kn.enc x, .bool b] := rfl
def mget {K V : Type} [DecidableEq K] : List (K × V) → K → Option V
 | [], _ => none
 | p :: r, x => if p.1 = x then some p.2 else mget r x
theorem mget_none {K V : Type} [DecidableEq K] : ∀ {l : List (K × V)} {x : K}, x ∉ l.map (·.1) → mget l x = none
 | [], _, _ => rfl
 | p :: r, x, h => by
  simp at h
  unfold mget
  rw [if_neg (fun e => h.1 e.symm), mget_none (by simpa using h.2)]
theorem mget_some {K V : Type} [DecidableEq K] : ∀ {l : List (K × V)} {x : K} {v : V} {j : Nat}, (l.map (·.1)).Nodup → l[j]? = some (x, v) → mget l x = some v
 | [], _, _, j, _, h => by simp at h
 | p :: r, x, v, 0, _, h => by simp at h; subst h; simp [mget]
 | p :: r, x, v, j + 1, hn, h => by
  simp at h hn
  unfold mget
  have : p.1 ≠ x := fun e => hn.1 v (by rw [e]; exact List.mem_of_getElem? h)
  rw [if_neg this]
  exact mget_some (by simpa using hn.2) h
def Born (es : Array MapEntry) (clock : Nat) : Prop := (∀ e ∈ es.toList, e.born < clock) ∧ (es.toList.map (·.born)).Nodup
def MapF {K : Type} [DecidableEq K] (w : World) (r : Nat) (ek : K → Value) (kn : Knd) (f : K → Option kn.T) (n : Nat) : Prop :=
 ∃ (es : Array MapEntry) (clock : Nat) (l : List (K × kn.T)), w.heap[r]? = some (.map es clock) ∧ es.toList.map (·.key) = l.map (fun p => ek p.1) ∧ es.toList.map (·.val) = l.map (fun p => kn.enc p.2) ∧ (l.map (·.1)).Nodup ∧ (∀ x, f x = mget l x) ∧ l.length = n ∧ Born es clock
section
variable {K : Type} [DecidableEq K] {P : Program} {w : World} {r : Nat} {ek : K → Value} {kn : Knd} {f : K → Option kn.T} {n : Nat}
theorem MapF.lt (h : MapF w r ek kn f n) : r < w.heap.size := by obtain ⟨es, c, l, h1, _⟩ := h; exact (Array.getElem?_eq_some_iff.1 h1).1
theorem MapF.mod {F : Nat → Prop} {w' : World} (h : MapF w r ek kn f n) (hm : Mod F w w') (hF : ¬ F r) : MapF w' r ek kn f n := by
 have hl := h.lt
 obtain ⟨es, c, l, h1, h2⟩ := h
 exact ⟨es, c, l, (hm.block r hl hF).trans h1, h2⟩
theorem MapF.congr {g : K → Option kn.T} {m : Nat} (h : MapF w r ek kn f n) (hg : ∀ x, g x = f x) (hm : m = n) : MapF w r ek kn g m := by
 obtain ⟨es, c, l, h1, h2, h3, h4, h5, h6, hB⟩ := h
 exact ⟨es, c, l, h1, h2, h3, h4, fun x => (hg x).trans (h5 x), h6.trans hm.symm, hB⟩
theorem MapF.new (w : World) (ek : K → Value) (kn : Knd) : MapF (w.alloc (.map #[] 0)) w.heap.size ek kn (fun _ => none) 0 :=
 ⟨#[], 0, [], heap_alloc_new w _, rfl, rfl, List.nodup_nil, fun _ => rfl, rfl, by simp, List.nodup_nil⟩
theorem MapF.find {kt : TypeId} (hk : KeyOk P kt ek) (h : MapF w r ek kn f n) (x : K) (w' : World) : ∃ (es : Array MapEntry) (clock : Nat) (l : List (K × kn.T)), w.heap[r]? = some (.map es clock) ∧ es.toList.map (·.key) = l.map (fun p => ek p.1) ∧ es.toList.map (·.val) = l.map (fun p => kn.enc p.2) ∧ (l.map (·.1)).Nodup ∧ (∀ x, f x = mget l x) ∧ l.length = n ∧ Born es clock ∧
  ((x ∉ l.map (·.1) ∧ f x = none ∧ (Instr.findKey kt (ek x) es.toList).run P w' = .ok none w') ∨ ∃ j v, f x = some v ∧ l[j]? = some (x, v) ∧ j < es.size ∧ (es.toList[j]?).map (·.key) = some (ek x) ∧ (Instr.findKey kt (ek x) es.toList).run P w' = .ok (some (j, kn.enc v)) w') := by
 obtain ⟨es, c, l, h1, h2, h3, h4, h5, h6, hB⟩ := h
 refine ⟨es, c, l, h1, h2, h3, h4, h5, h6, hB, ?_⟩
 rcases hk.find x w' es.toList (l.map (·.1)) (by rw [h2, List.map_map]; rfl) with ⟨g1, g2⟩ | ⟨j, e, g1, g2, g3⟩
 ·exact .inl ⟨g1, by rw [h5, mget_none g1], g2⟩
 ·right
  rw [List.getElem?_map] at g1
  cases hj : l[j]? with
  | none => rw [hj] at g1; cases g1
  | some p =>
   rw [hj] at g1
   have hp : p.1 = x := by simpa using g1
   obtain ⟨y, v⟩ := p
   simp only at hp
   subst hp
   have hv : e.val = kn.enc v := by
    have : (es.toList.map (·.val))[j]? = some e.val := by rw [List.getElem?_map, g2]; rfl
    rw [h3, List.getElem?_map, hj] at this
    simpa using this.symm
   have hkey : (es.toList[j]?).map (·.key) = some (ek y) := by
    have : (es.toList.map (·.key))[j]? = some (ek y) := by rw [h2, List.getElem?_map, hj]; rfl
    rwa [List.getElem?_map] at this
   refine ⟨j, v, by rw [h5, mget_some h4 hj], hj, by simpa using (List.getElem?_eq_some_iff.1 g2).1, hkey, by rw [← hv]; exact g3⟩
theorem mapNew_i {Q : Nat → World → Prop} (hQ : MapF (w.alloc (.map #[] 0)) w.heap.size ek kn (fun _ => none) 0 → Keep w (w.alloc (.map #[] 0)) → Q w.heap.size (w.alloc (.map #[] 0))) : mapNewD w Q := hQ (MapF.new w ek kn) (Keep.alloc w _)
theorem lookup2_i {kt et : TypeId} {t : TypeId} (ht : P.underlying t = some (.map kt et)) (hk : KeyOk P kt ek) {z : kn.T} (hz : (P.info? et).map (·.zero) = some (some (kn.enc z))) (h : MapF w r ek kn f n) (x : K) {Q : kn.T → Bool → World → Prop}
  (hQ : Q ((f x).getD z) (f x).isSome w) : lookup2D P kn t (.map (some r)) (ek x) w Q := by
 obtain ⟨es, c, l, h1, h2, h3, h4, h5, h6, hB, hf⟩ := h.find hk x w
 have hzv : (zeroValue et).run P w = .ok (kn.enc z) w := by
  cases hq : P.info? et with
  | none => rw [hq] at hz; cases hz
  | some i => rw [hq] at hz; simp at hz; simp [zeroValue, typeInfo, hq, hz]
 rcases hf with ⟨_, g, hrun⟩ | ⟨j, v, g, _, _, _, hrun⟩
 ·rw [g] at hQ
  exact ⟨(z, false, ()), w, by simp [Instr.lookup, run_underlying ht, MapKept.run_getObj_map h1, hk.check, hrun, hzv, encK_two], hQ⟩
 ·rw [g] at hQ
  exact ⟨(v, true, ()), w, by simp [Instr.lookup, run_underlying ht, MapKept.run_getObj_map h1, hk.check, hrun, encK_two], hQ⟩
theorem lookup1_i {kt et : TypeId} {t : TypeId} (ht : P.underlying t = some (.map kt et)) (hk : KeyOk P kt ek) {z : kn.T} (hz : (P.info? et).map (·.zero) = some (some (kn.enc z))) (h : MapF w r ek kn f n) (x : K) {Q : kn.T → World → Prop}
  (hQ : Q ((f x).getD z) w) : lookup1D P kn t (.map (some r)) (ek x) w Q := by
 obtain ⟨es, c, l, h1, h2, h3, h4, h5, h6, hB, hf⟩ := h.find hk x w
 have hzv : (zeroValue et).run P w = .ok (kn.enc z) w := by
  cases hq : P.info? et with
  | none => rw [hq] at hz; cases hz
  | some i => rw [hq] at hz; simp at hz; simp [zeroValue, typeInfo, hq, hz]
 rcases hf with ⟨_, g, hrun⟩ | ⟨j, v, g, _, _, _, hrun⟩
 ·rw [g] at hQ
  exact ⟨z, w, by simp [Instr.lookup, run_underlying ht, MapKept.run_getObj_map h1, hk.check, hrun, hzv], hQ⟩
 ·rw [g] at hQ
  exact ⟨v, w, by simp [Instr.lookup, run_underlying ht, MapKept.run_getObj_map h1, hk.check, hrun], hQ⟩
theorem map_modify_key (es : Array MapEntry) (i : Nat) (k v : Value) (hk : (es.toList[i]?).map (·.key) = some k) : (es.modify i fun e => { e with key := k, val := v }).toList.map (·.key) = es.toList.map (·.key) := by
 apply List.ext_getElem?
 intro j
 simp only [List.getElem?_map, Array.toList_modify, List.getElem?_modify]
 by_cases hj : i = j
 ·subst hj
  cases he : es.toList[i]? with
  | none => rfl
  | some e => rw [he] at hk; simp at hk; simp [hk]
 ·simp [hj]
theorem map_modify_val (es : Array MapEntry) (i : Nat) (k v : Value) : (es.modify i fun e => { e with key := k, val := v }).toList.map (·.val) = (es.toList.map (·.val)).set i v := by
 apply List.ext_getElem?
 intro j
 simp only [List.getElem?_map, Array.toList_modify, List.getElem?_modify, List.getElem?_set]
 by_cases hj : i = j
 ·subst hj
  by_cases hlt : i < es.toList.length
  ·have h2 : i < es.size := by simpa using hlt
   simp [h2]
  ·rw [List.getElem?_eq_none (by omega)]; simp at hlt; simp; omega
 ·simp [hj]
theorem mget_set {V : Type} : ∀ {l : List (K × V)} {j : Nat} {x : K} {v : V}, (l.map (·.1)).Nodup → (l[j]?).map (·.1) = some x → ∀ y, mget (l.set j (x, v)) y = if y = x then some v else mget l y
 | [], j, x, v, _, h, _ => by simp at h
 | p :: r, 0, x, v, hn, h, y => by
  simp at h
  simp only [List.set_cons_zero, mget]
  by_cases hy : y = x
  ·simp [hy]
  ·rw [if_neg (fun e => hy e.symm), if_neg hy, h, if_neg (fun e => hy e.symm)]
 | p :: r, j + 1, x, v, hn, h, y => by
  simp only [List.getElem?_cons_succ] at h
  simp only [List.map_cons, List.nodup_cons] at hn
  simp only [List.set_cons_succ, mget]
  have hx : x ∈ r.map (·.1) := by
   cases hj : r[j]? with
   | none => rw [hj] at h; cases h
   | some q => rw [hj] at h; simp at h; rw [← h]; exact List.mem_map.2 ⟨q, List.mem_of_getElem? hj, rfl⟩
  have hpx : p.1 ≠ x := fun e => hn.1 (e ▸ hx)
  rw [mget_set hn.2 h y]
  by_cases hy : y = x
  ·subst hy; simp [hpx]
  ·simp [hy]
theorem mget_append {V : Type} : ∀ {l : List (K × V)} {x : K} {v : V}, x ∉ l.map (·.1) → ∀ y, mget (l ++ [(x, v)]) y = if y = x then some v else mget l y
 | [], x, v, _, y => by
  simp only [List.nil_append, mget]
  by_cases h : y = x
  ·simp [h]
  ·rw [if_neg (fun e => h e.symm), if_neg h]
 | p :: r, x, v, hn, y => by
  simp only [List.map_cons, List.mem_cons, not_or] at hn
  simp only [List.cons_append, mget]
  rw [mget_append hn.2 y]
  by_cases hy : y = x
  ·subst hy; rw [if_neg (fun e => hn.1 e.symm)]; simp
  ·simp [hy]
theorem Born.push {es : Array MapEntry} {c : Nat} (h : Born es c) (k v : Value) : Born (es.push { key := k, val := v, born := c }) (c + 1) := by
 obtain ⟨h1, h2⟩ := h
 refine ⟨fun e he => ?_, ?_⟩
 ·simp only [Array.toList_push, List.mem_append, List.mem_singleton] at he
  rcases he with he | rfl
  ·have := h1 e he; omega
  ·exact Nat.lt_succ_self _
 ·simp only [Array.toList_push, List.map_append, List.map_cons, List.map_nil]
  rw [List.nodup_append]
  refine ⟨h2, by simp, fun a ha b hb => ?_⟩
  simp at hb; subst hb
  obtain ⟨e, he, rfl⟩ := List.mem_map.1 ha
  have := h1 e he; omega
theorem born_modify (es : Array MapEntry) (i : Nat) (F : MapEntry → MapEntry) (hF : ∀ e, (F e).born = e.born) : (es.modify i F).toList.map (·.born) = es.toList.map (·.born) := by
 apply List.ext_getElem?
 intro j
 simp only [List.getElem?_map, Array.toList_modify, List.getElem?_modify]
 by_cases hj : i = j
 ·subst hj; cases es.toList[i]? with
  | none => rfl
  | some e => simp [hF]
 ·simp [hj]
theorem Born.modify {es : Array MapEntry} {c : Nat} (h : Born es c) (i : Nat) (F : MapEntry → MapEntry) (hF : ∀ e, (F e).born = e.born) : Born (es.modify i F) c := by
 have hb := born_modify es i F hF
 refine ⟨fun e he => ?_, by rw [hb]; exact h.2⟩
 have : e.born ∈ es.toList.map (·.born) := hb ▸ List.mem_map.2 ⟨e, he, rfl⟩
 obtain ⟨e', he', e1⟩ := List.mem_map.1 this
 rw [← e1]; exact h.1 e' he'
theorem Born.erase {es : Array MapEntry} {c : Nat} (h : Born es c) (i : Nat) : Born (es.eraseIdxIfInBounds i) c := by
 have hs : (es.eraseIdxIfInBounds i).toList.Sublist es.toList := by
  unfold Array.eraseIdxIfInBounds
  split
  ·simp only [Array.toList_eraseIdx]; exact List.eraseIdx_sublist _ _
  ·exact List.Sublist.refl _
 exact ⟨fun e he => h.1 e (hs.subset he), h.2.sublist (hs.map _)⟩
theorem Born.find {es : Array MapEntry} {c : Nat} (h : Born es c) {i : Nat} {e : MapEntry} (he : es.toList[i]? = some e) : es.findIdx? (fun x => (x.born : Int) == (e.born : Int)) = some i := by
 obtain ⟨l⟩ := es
 rw [List.findIdx?_toArray, List.findIdx?_eq_some_iff_getElem]
 have hi := (List.getElem?_eq_some_iff.1 he).1
 have hg : l[i] = e := (List.getElem?_eq_some_iff.1 he).2
 refine ⟨hi, by rw [hg]; simp, fun j hj => ?_⟩
 have hn := h.2
 simp only at hn
 have hi' : i < l.length := hi
 have hj' : j < l.length := by omega
 have hne : l[j].born ≠ l[i].born := fun e' => by
  have := List.pairwise_iff_getElem.1 hn j i (by simp; omega) (by simpa using hi) hj
  simp at this
  exact this e'
 rw [hg] at hne
 simp; omega
theorem setObj_mod (w : World) (r : Nat) (o : Obj) : Mod (fun k => k = r) w { w with heap := w.heap.setIfInBounds r o } :=
 ⟨rfl, rfl, rfl, by simp, fun k _ hk => by simp [Ne.symm hk]⟩
theorem update_i {kt et : TypeId} {t : TypeId} (ht : P.underlying t = some (.map kt et)) (hk : KeyOk P kt ek) (h : MapF w r ek kn f n) (x : K) (v : kn.T) {Q : World → Prop}
  (hQ : ∀ w', MapF w' r ek kn (fun y => if y = x then some v else f y) (if (f x).isSome then n else n + 1) → Mod (fun k => k = r) w w' → w'.heap.size = w.heap.size → Q w') : mapUpdateD P t (.map (some r)) (ek x) (kn.enc v) w Q := by
 obtain ⟨es, c, l, h1, h2, h3, h4, h5, h6, hB, hf⟩ := h.find hk x w
 rcases hf with ⟨hx, g, hrun⟩ | ⟨j, u, g, hj, hjs, hkey, hrun⟩
 ·refine ⟨{ w with heap := w.heap.setIfInBounds r (.map (es.push { key := ek x, val := kn.enc v, born := c }) (c + 1)) }, by simp [Instr.mapUpdate, run_underlying ht, MapKept.run_getObj_map h1, hk.check, hrun, run_setObj_map _ h1], hQ _ ?_ (setObj_mod w r _) (by simp)⟩
  refine ⟨_, _, l ++ [(x, v)], (heap_set h1).1, by simp [h2], by simp [h3], ?_, fun y => ?_, by rw [g]; simp [h6], hB.push _ _⟩
  ·rw [List.map_append, List.nodup_append]
   exact ⟨h4, by simp, fun a ha b hb => by simp at hb; subst hb; exact fun e => hx (e ▸ ha)⟩
  ·show (if y = x then some v else f y) = _
   rw [mget_append hx y, h5]
 ·obtain ⟨e, he⟩ : ∃ e, es.toList[j]? = some e := ⟨_, List.getElem?_eq_getElem (by simpa using hjs)⟩
  have hek : e.key = ek x := by rw [he] at hkey; simpa using hkey
  have hea : es[j]? = some e := by simpa using he
  refine ⟨{ w with heap := w.heap.setIfInBounds r (.map (es.modify j fun e => { e with key := ek x, val := kn.enc v }) c) }, by simp [Instr.mapUpdate, run_underlying ht, MapKept.run_getObj_map h1, hk.check, hrun, run_setObj_map _ h1, Instr.keyThatStays, hea, hek, hk.stays], hQ _ ?_ (setObj_mod w r _) (by simp)⟩
  refine ⟨_, _, l.set j (x, v), (heap_set h1).1, ?_, ?_, ?_, fun y => ?_, by rw [g]; simp [h6], hB.modify j (fun e => { e with key := ek x, val := kn.enc v }) fun _ => rfl⟩
  ·rw [map_modify_key es j _ _ hkey, h2]
   apply List.ext_getElem?
   intro i
   simp only [List.getElem?_map, List.getElem?_set]
   by_cases hi : j = i
   ·subst hi
    have hlt := (List.getElem?_eq_some_iff.1 hj).1
    rw [hj]; simp [hlt]
   ·simp [hi]
  ·rw [map_modify_val, h3, List.map_set]
  ·have : (l.set j (x, v)).map (·.1) = l.map (·.1) := by
    apply List.ext_getElem?
    intro i
    simp only [List.getElem?_map, List.getElem?_set]
    by_cases hi : j = i
    ·subst hi
     have hlt := (List.getElem?_eq_some_iff.1 hj).1
     rw [hj]; simp [hlt]
    ·simp [hi]
   rw [this]; exact h4
  ·show (if y = x then some v else f y) = _
   rw [mget_set h4 (by rw [hj]; rfl) y, h5]
theorem map_val_key (es : Array MapEntry) (i : Nat) (v : Value) : (es.modify i fun e => { e with val := v }).toList.map (·.key) = es.toList.map (·.key) := by
 apply List.ext_getElem?
 intro j
 simp only [List.getElem?_map, Array.toList_modify, List.getElem?_modify]
 by_cases hj : i = j
 ·subst hj; cases es.toList[i]? <;> simp
 ·simp [hj]
theorem map_val_val (es : Array MapEntry) (i : Nat) (v : Value) : (es.modify i fun e => { e with val := v }).toList.map (·.val) = (es.toList.map (·.val)).set i v := by
 apply List.ext_getElem?
 intro j
 simp only [List.getElem?_map, Array.toList_modify, List.getElem?_modify, List.getElem?_set]
 by_cases hj : i = j
 ·subst hj
  by_cases hlt : i < es.toList.length
  ·have h2 : i < es.size := by simpa using hlt
   simp [h2]
  ·rw [List.getElem?_eq_none (by omega)]; simp at hlt; simp; omega
 ·simp [hj]
theorem map_key_val (es : Array MapEntry) (i : Nat) (k : Value) : (es.modify i fun e => { e with key := k }).toList.map (·.val) = es.toList.map (·.val) := by
 apply List.ext_getElem?
 intro j
 simp only [List.getElem?_map, Array.toList_modify, List.getElem?_modify]
 by_cases hj : i = j
 ·subst hj; cases es.toList[i]? <;> simp
 ·simp [hj]
theorem map_key_key (es : Array MapEntry) (i : Nat) (k : Value) (hk : (es.toList[i]?).map (·.key) = some k) : (es.modify i fun e => { e with key := k }).toList.map (·.key) = es.toList.map (·.key) := by
 apply List.ext_getElem?
 intro j
 simp only [List.getElem?_map, Array.toList_modify, List.getElem?_modify]
 by_cases hj : i = j
 ·subst hj
  cases he : es.toList[i]? with
  | none => rfl
  | some e => rw [he] at hk; simp at hk; simp [hk]
 ·simp [hj]
omit [DecidableEq K] in
theorem map_fst_set {V : Type} {l : List (K × V)} {j : Nat} {x : K} {u : V} (v : V) (hj : l[j]? = some (x, u)) : (l.set j (x, v)).map (·.1) = l.map (·.1) := by
 apply List.ext_getElem?
 intro i
 simp only [List.getElem?_map, List.getElem?_set]
 by_cases hi : j = i
 ·subst hi
  have hlt := (List.getElem?_eq_some_iff.1 hj).1
  rw [hj]; simp [hlt]
 ·simp [hi]
theorem entryStore_i {t : TypeId} {es : Array MapEntry} {c : Nat} {l : List (K × kn.T)} (h1 : w.heap[r]? = some (.map es c)) (h2 : es.toList.map (·.key) = l.map (fun p => ek p.1)) (h3 : es.toList.map (·.val) = l.map (fun p => kn.enc p.2)) (h4 : (l.map (·.1)).Nodup) (hB : Born es c)
  {j : Nat} {x : K} {u : kn.T} {e : MapEntry} (hj : l[j]? = some (x, u)) (he : es.toList[j]? = some e) (v : kn.T) {Q : World → Prop}
  (hQ : ∀ w', MapF w' r ek kn (fun y => if y = x then some v else mget l y) l.length → Mod (fun k => k = r) w w' → w'.heap.size = w.heap.size → Q w') : entryStoreD P t (.map (some r)) (.int .i64 (e.born : Int)) (kn.enc v) w Q := by
 have hfi := hB.find he
 refine ⟨{ w with heap := w.heap.setIfInBounds r (.map (es.modify j fun e => { e with val := kn.enc v }) c) }, by simp [Instr.entryStore, MapKept.run_getObj_map h1, asInt, asIntOf, hfi, run_setObj_map _ h1], hQ _ ?_ (setObj_mod w r _) (by simp)⟩
 exact ⟨_, _, l.set j (x, v), (heap_set h1).1, by have e1 := congrArg (List.map ek) (map_fst_set v hj); rw [List.map_map, List.map_map] at e1; rw [map_val_key, h2]; exact e1.symm, by rw [map_val_val, h3, List.map_set], by rw [map_fst_set v hj]; exact h4,
  fun y => by rw [mget_set h4 (by rw [hj]; rfl) y], by simp, hB.modify j (fun e => { e with val := kn.enc v }) fun _ => rfl⟩
theorem entry_i {kt et : TypeId} {t : TypeId} (ht : P.underlying t = some (.map kt et)) (hk : KeyOk P kt ek) {z : kn.T} (hz : (P.info? et).map (·.zero) = some (some (kn.enc z))) (h : MapF w r ek kn f n) (x : K) (v : kn.T) {Q : World → Prop}
  (hQ : ∀ w', MapF w' r ek kn (fun y => if y = x then some v else f y) (if (f x).isSome then n else n + 1) → Mod (fun k => k = r) w w' → w'.heap.size = w.heap.size → Q w') :
  mapEntryD P kn t (.map (some r)) (ek x) w fun _ sl w3 => entryStoreD P t (.map (some r)) (.int .i64 sl) (kn.enc v) w3 Q := by
 obtain ⟨es, c, l, h1, h2, h3, h4, h5, h6, hB, hf⟩ := h.find hk x w
 have hzv : (zeroValue et).run P w = .ok (kn.enc z) w := by
  cases hq : P.info? et with
  | none => rw [hq] at hz; cases hz
  | some i => rw [hq] at hz; simp at hz; simp [zeroValue, typeInfo, hq, hz]
 have two : ∀ (x : kn.T) (b : Int), encK [kn, .c (.int .i64)] (x, b, ()) = [kn.enc x, .int .i64 b] := fun _ _ => rfl
 have hsz : es.size = l.length := by have := congrArg List.length h2; simpa using this
 rcases hf with ⟨hx, g, hrun⟩ | ⟨j, u, g, hj, hjs, hkey, hrun⟩
 ·have hset := (heap_set (o' := .map (es.push { key := ek x, val := kn.enc z, born := c }) (c + 1)) h1).1
  refine ⟨(z, (c : Int), ()), { w with heap := w.heap.setIfInBounds r (.map (es.push { key := ek x, val := kn.enc z, born := c }) (c + 1)) }, by simp [Instr.mapEntry, run_underlying ht, MapKept.run_getObj_map h1, hk.check, hrun, hzv, run_setObj_map _ h1, two, goInt], ?_⟩
  refine entryStore_i (ek := ek) (e := { key := ek x, val := kn.enc z, born := c }) (l := l ++ [(x, z)]) (j := l.length) (x := x) (u := z) hset (by simp [h2]) (by simp [h3]) ?_ (hB.push _ _) (by simp) (by simp [hsz]) v fun w' hm' hmod hs => ?_
  ·rw [List.map_append, List.nodup_append]
   exact ⟨h4, by simp, fun a ha b hb => by simp at hb; subst hb; exact fun e => hx (e ▸ ha)⟩
  ·refine hQ w' (hm'.congr (fun y => ?_) (by rw [g]; simp [h6])) ((setObj_mod w r _).tr hmod) (hs.trans (by simp))
   show (if y = x then some v else f y) = if y = x then some v else mget (l ++ [(x, z)]) y
   rw [mget_append hx y, h5]
   by_cases hy : y = x <;> simp [hy]
 ·obtain ⟨e, he⟩ : ∃ e, es.toList[j]? = some e := ⟨_, List.getElem?_eq_getElem (by simpa using hjs)⟩
  have hek : e.key = ek x := by rw [he] at hkey; simpa using hkey
  have hea : es[j]? = some e := by simpa using he
  have hset := (heap_set (o' := .map (es.modify j fun e => { e with key := ek x }) c) h1).1
  refine ⟨(u, (e.born : Int), ()), { w with heap := w.heap.setIfInBounds r (.map (es.modify j fun e => { e with key := ek x }) c) }, by simp [Instr.mapEntry, run_underlying ht, MapKept.run_getObj_map h1, hk.check, hrun, run_setObj_map _ h1, Instr.keyThatStays, hea, hek, hk.stays, two, goInt], ?_⟩
  refine entryStore_i (ek := ek) (es := es.modify j fun e => { e with key := ek x }) (e := { e with key := ek x }) (l := l) (j := j) (x := x) (u := u) hset (by rw [map_key_key es j _ hkey, h2]) (by rw [map_key_val, h3]) h4 (hB.modify j (fun e => { e with key := ek x }) fun _ => rfl) hj ?_ v fun w' hm' hmod hs => ?_
  ·simp [List.getElem?_modify, hea]
  ·refine hQ w' (hm'.congr (fun y => ?_) (by rw [g]; simp [h6])) ((setObj_mod w r _).tr hmod) (hs.trans (by simp))
   show (if y = x then some v else f y) = if y = x then some v else mget l y
   rw [h5]
theorem mget_erase {V : Type} : ∀ {l : List (K × V)} {j : Nat} {x : K}, (l.map (·.1)).Nodup → (l[j]?).map (·.1) = some x → ∀ y, mget (l.eraseIdx j) y = if y = x then none else mget l y
 | [], j, x, _, h, _ => by simp at h
 | p :: r, 0, x, hn, h, y => by
  simp at h
  simp only [List.map_cons, List.nodup_cons] at hn
  simp only [List.eraseIdx_cons_zero, mget]
  by_cases hy : y = x
  ·subst hy; rw [if_pos rfl]; exact mget_none (h ▸ hn.1)
  ·rw [if_neg hy, h, if_neg (fun e => hy e.symm)]
 | p :: r, j + 1, x, hn, h, y => by
  simp only [List.getElem?_cons_succ] at h
  simp only [List.map_cons, List.nodup_cons] at hn
  simp only [List.eraseIdx_cons_succ, mget]
  have hx : x ∈ r.map (·.1) := by
   cases hj : r[j]? with
   | none => rw [hj] at h; cases h
   | some q => rw [hj] at h; simp at h; rw [← h]; exact List.mem_map.2 ⟨q, List.mem_of_getElem? hj, rfl⟩
  have hpx : p.1 ≠ x := fun e => hn.1 (e ▸ hx)
  rw [mget_erase hn.2 h y]
  by_cases hy : y = x
  ·subst hy; simp [hpx]
  ·simp [hy]
theorem delete_i {kt et u : TypeId} {t : TypeId} (ht : P.underlying t = some (.map kt et)) (hk : KeyOk P kt ek) (h : MapF w r ek kn f n) (x : K) {Q : World → Prop}
  (hQ : ∀ w', MapF w' r ek kn (fun y => if y = x then none else f y) (if (f x).isSome then n - 1 else n) → Mod (fun k => k = r) w w' → w'.heap.size = w.heap.size → Q w') : deleteD P t u (.map (some r)) (ek x) w Q := by
 obtain ⟨es, c, l, h1, h2, h3, h4, h5, h6, hB, hf⟩ := h.find hk x w
 rcases hf with ⟨hx, g, hrun⟩ | ⟨j, v, g, hj, hjs, hkey, hrun⟩
 ·refine ⟨(), { w with heap := w.heap.setIfInBounds r (.map es c) }, by simp [Builtin.delete_, run_underlying ht, MapKept.run_getObj_map h1, hk.check, hrun, run_setObj_map _ h1, encK], hQ _ ?_ (setObj_mod w r _) (by simp)⟩
  refine ⟨_, _, l, (heap_set h1).1, h2, h3, h4, fun y => ?_, by rw [g]; simp [h6], hB⟩
  show (if y = x then none else f y) = _
  by_cases hy : y = x
  ·subst hy; rw [if_pos rfl, mget_none hx]
  ·rw [if_neg hy, h5]
 ·refine ⟨(), { w with heap := w.heap.setIfInBounds r (.map (es.eraseIdxIfInBounds j) c) }, by simp [Builtin.delete_, run_underlying ht, MapKept.run_getObj_map h1, hk.check, hrun, run_setObj_map _ h1, encK], hQ _ ?_ (setObj_mod w r _) (by simp)⟩
  have er : (es.eraseIdxIfInBounds j).toList = es.toList.eraseIdx j := by
   unfold Array.eraseIdxIfInBounds
   rw [dif_pos hjs]; simp
  have em : ∀ {A B : Type} (F : A → B) (l : List A) (i : Nat), (l.eraseIdx i).map F = (l.map F).eraseIdx i := by
   intro A B F l
   induction l with
   | nil => intro i; simp
   | cons a l ih => intro i; cases i with
    | zero => simp
    | succ i => simp [ih]
  have hlt := (List.getElem?_eq_some_iff.1 hj).1
  refine ⟨_, _, l.eraseIdx j, (heap_set h1).1, by rw [er, em, em, h2], by rw [er, em, em, h3], ?_, fun y => ?_, by rw [g]; simp [List.length_eraseIdx, hlt, h6]; omega, hB.erase j⟩
  ·rw [em]; exact h4.sublist (List.eraseIdx_sublist _ _)
  ·show (if y = x then none else f y) = _
   rw [mget_erase h4 (by rw [hj]; rfl) y, h5]
end
end Go.Den

namespace Go.Den
open Go Go.ChangeShapes Go.WideShapes Go.ChangeAt Go.RowKit
abbrev Since (W w : World) : Prop := Mod (fun k => W.heap.size ≤ k) W w
theorem Since.keep {W w w' : World} (h : Since W w) (k : Keep w w') : Since W w' := h.trans k fun _ _ h => h.elim
theorem Since.below {W w : World} (h : Since W w) : Below W.heap.size W w := Mod.below h (Nat.le_refl _)
section
variable {H : Type} {enc : TypeId × Value → H} {P : Program}
theorem trodAll_stays (hl : laidOutB P = true) {W W' : World} {sp' : Nat → Bool} : ∀ {ts : List TypeId} {vs : List Value} {ds : List (DataW H)} {ps : List MemPlace},
  (∀ t ∈ ts, P.readableRec t = true ∧ t < P.types.size) → DataW.TrodAll enc P W 0 (fun _ => true) true ts vs ds ps → (∀ p ∈ ps, W.sameAt W' p) → (∀ p ∈ ps, sp' p.block = true) → DataW.TrodAll enc P W' 0 sp' true ts vs ds ps
 | [], [], [], _, _, h, _, _ => h
 | t :: ts, v :: vs, d :: ds, ps, ht, h, hs, hp => by
  obtain ⟨p, q, h1, h2, rfl⟩ := h
  refine ⟨p, q, WideElems.Trod_stays hl (ht t (by simp)).1 (ht t (by simp)).2 h1 (fun x hx => hs x (by simp [hx])) (fun x hx => hp x (by simp [hx])), ?_, rfl⟩
  exact trodAll_stays hl (fun u hu => ht u (by simp [hu])) h2 (fun x hx => hs x (by simp [hx])) (fun x hx => hp x (by simp [hx]))
 | [], _ :: _, _, _, _, h, _, _ => h.elim
 | [], [], _ :: _, _, _, h, _, _ => h.elim
 | _ :: _, [], _, _, _, h, _, _ => h.elim
 | _ :: _, _ :: _, [], _, _, h, _, _ => h.elim
theorem trodAll_length {W : World} {base : Nat} {sp : Nat → Bool} {hd : Bool} : ∀ {ts : List TypeId} {vs : List Value} {ds : List (DataW H)} {ps : List MemPlace}, DataW.TrodAll enc P W base sp hd ts vs ds ps → ds.length = ts.length ∧ vs.length = ts.length
 | [], [], [], _, _ => ⟨rfl, rfl⟩
 | _ :: _, _ :: _, _ :: _, _, h => by obtain ⟨_, _, _, h2, _⟩ := h; have := trodAll_length h2; simp [this.1, this.2]
 | [], _ :: _, _, _, h => h.elim
 | [], [], _ :: _, _, h => h.elim
 | _ :: _, [], _, _, h => h.elim
 | _ :: _, _ :: _, [], _, h => h.elim
theorem law_post {fn : Func} {s : ChangeSpec} {apart fresh handsOn again : Bool} {W W' : World} {args : Array Value} {ds gs : List (DataW H)} {before : List MemPlace} {tb : TypeId}
  (hW : DataW.Whole enc P fn.params.toList s.vars apart W args.toList ds gs before) (hv : s.vars = [])
  (hfn : ∀ ds : List (DataW H), ds.length = fn.params.size → s.fn H ds = { results := [.lit (.bool true)], args := ds })
  (hrt : fn.resultTypes = #[tb]) (htb : P.underlying tb = some .bool) (hl : laidOutB P = true) (hread : ∀ t ∈ fn.params.toList, P.readableRec t = true ∧ t < P.types.size) (hS : Since W W') :
  s.post enc P fn apart fresh handsOn again W args (.bool true) W' := by
 have hlt := hW.lt
 obtain ⟨p, q, hA, hV, rfl, hz, hn⟩ := hW
 have hW0 : DataW.Whole enc P fn.params.toList s.vars apart W args.toList ds gs (p ++ q) := ⟨p, q, hA, hV, rfl, hz, hn⟩
 have hV' : DataW.TrodVars enc P W (fun _ => true) [] gs q := by rw [← hv]; exact hV
 obtain ⟨rfl, rfl⟩ := trodVars_none hV'
 have hds : (ds ++ []).length = fn.params.size := by rw [List.append_nil, (trodAll_length hA).1]; simp
 have hF := hfn (ds ++ []) hds
 have hb := hS.below
 have hsame : ∀ x ∈ p, W.sameAt W' x := fun x hx => hb.same (hlt x (by simp [hx]))
 have hargs : ∀ sp : Nat → Bool, (∀ x ∈ p, sp x.block = true) → DataW.TrodAll enc P W' 0 sp true fn.params.toList args.toList ds p := fun sp hsp => trodAll_stays hl hread hA hsame hsp
 have hres : ∀ (b : Nat) (sp : Nat → Bool) (hd : Bool), DataW.TrodAll enc P W' b sp hd fn.resultTypes.toList ((Value.bool true).resultList fn.resultTypes.size) [.lit (.bool true)] [] := by
  intro b sp hd
  rw [hrt]
  exact trodAll_mk1 (shut_bool htb true)
 refine ⟨ds, [], p ++ [], [], p, [], hW0, ?_, ?_, ?_, ?_, ?_⟩
 ·rw [hF]; exact hres _ _ _
 ·rw [hF]; simp only [List.append_nil]; exact hargs _ (fun x hx => by simpa using hlt x (by simp [hx]))
 ·rw [hF, hv]; exact rfl
 ·exact hb.frame _
 ·intro _
  refine ⟨ok_one hrt rfl (okWide_bool_mk htb true), [.lit (.bool true)] ++ ds, [], [] ++ p ++ [], ⟨[] ++ p, [], trodAll_append (hargs _ fun _ _ => rfl) (hres _ _ _), ?_, rfl, ?_, ?_⟩, ?_⟩
  ·rw [hv]; exact rfl
  ·intro b off hp
   simp only [List.nil_append, List.append_nil] at hp
   have h1 := hlt (.cell b off) (by simp [hp])
   rw [hb.frozen (p := ⟨b, off, none⟩) h1]
   exact hz b off (by simpa using hp)
  ·intro ha
   simpa using hn ha
  ·intro x hx _
   simpa using hx
end
theorem law_lifted {C : Checked} {os : Os} {f : FuncId} {fn : Func} {s : ChangeSpec} {conds : List PathCond} {apart fresh handsOn again : Bool} {tb : TypeId} {H : Type} {enc : TypeId × Value → H}
  (own : ownKnob C.prog.godebug = none) (started : os.Started) (noInit : C.prog.inits.idxOf? f = none) (hfn : C.prog.funcs[f]? = some fn)
  (witness : ∃ (w : World) (tape : Tape) (i : Input), w.os = os ∧ (w.forCall tape i).Shaped C.prog ∧ i.vars = [] ∧ Input.okWide C.prog (w.forCall tape i) .any w.heap.size f i ∧
   s.pre6 enc C.prog fn conds apart (w.forCall tape i).memory i.args ∧ Assume.holds {} C.prog (lone (Frame.enter C.prog f i.args .normal) [] (w.forCall tape i)))
  (hv : s.vars = []) (hs : ∀ ds : List (DataW H), ds.length = fn.params.size → s.fn H ds = { results := [.lit (.bool true)], args := ds })
  (hrt : fn.resultTypes = #[tb]) (htb : C.prog.underlying tb = some .bool) (hl : laidOutB C.prog = true) (hread : ∀ t ∈ fn.params.toList, C.prog.readableRec t = true ∧ t < C.prog.types.size)
  (contract : ∀ (W : World) (base : Nat) (args : Array Value) (ds : List (DataW H)) (ps : List MemPlace),
   (∀ (j : Nat) t v, fn.params[j]? = some t → args[j]? = some v → Value.okWide C.prog W .any base t v) →
   DataW.TrodAll enc C.prog W 0 (fun _ => true) true fn.params.toList args.toList ds ps →
   Calls C.prog f args W fun e W' => e = .returned (.bool true) ∧ Since W W') :
  ReturnsInHanded {} C os f .any (s.pre6 enc C.prog fn conds apart) (s.post enc C.prog fn apart fresh handsOn again) := by
 refine returnsInHanded_of_change own started noInit hfn witness ?_
 intro W base args ds gs before hval hW _ _
 obtain ⟨p, q, hA, _⟩ := id hW
 exact (contract W base args ds p hval hA).mono fun e W' ⟨he, hS⟩ => ⟨_, he, law_post hW hv hs hrt htb hl hread hS⟩
section
variable {H : Type} {enc : TypeId × Value → H} {P : Program} {W : World}
end
end Go.Den

namespace Go.Den
open Go
def parN : Nat → (Nat → Bool) → Bool
 | 0, _ => false
 | n + 1, f => xor (parN n f) (f n)
def par {w : Nat} (x : BitVec w) : Bool := parN w x.getLsbD
end Go.Den

namespace Go.Den
open Go
def Edge (zs : List It) (k j : Nat) : Prop := ∀ x y, zs[k]? = some x → zs[j]? = some y → itlt y x = false
def HOk (zs : List It) : Prop := ∀ j, 0 < j → Edge zs ((j - 1) / 2) j
structure UpI (zs : List It) (i : Nat) : Prop where
 rest : ∀ j, 0 < j → j ≠ i → Edge zs ((j - 1) / 2) j
 over : ∀ j, 0 < j → (j - 1) / 2 = i → 0 < i → Edge zs ((i - 1) / 2) j
structure DownI (zs : List It) (i : Nat) : Prop where
 rest : ∀ j, 0 < j → (j - 1) / 2 ≠ i → Edge zs ((j - 1) / 2) j
 over : ∀ j, 0 < j → (j - 1) / 2 = i → 0 < i → Edge zs ((i - 1) / 2) j
theorem le_trans' {x y z : It} (h : itlt y x = false) (h' : itlt z y = false) : itlt z x = false := by
 have h1 : ¬ itlt y x = true := by rw [h]; simp
 have h2 : ¬ itlt z y = true := by rw [h']; simp
 have : ¬ itlt z x = true := by rw [itlt_iff] at *; omega
 simpa using this
theorem lt_le {x y : It} (h : itlt x y = true) : itlt y x = false := by
 have : ¬ itlt y x = true := by rw [itlt_iff] at *; omega
 simpa using this
theorem itlt_irr (x : It) : itlt x x = false := by
 have : ¬ itlt x x = true := by rw [itlt_iff]; omega
 simpa using this
theorem sw_get {zs : List It} {i p : Nat} (hi : i < zs.length) (hp : p < zs.length) (x y : It) (j : Nat) : ((zs.set i y).set p x)[j]? = if j = p then some x else if j = i then some y else zs[j]? := by
 rw [List.getElem?_set, List.getElem?_set]
 by_cases h1 : j = p
 ·subst h1; simp [hp]
 ·rw [if_neg (fun e => h1 e.symm), if_neg h1]
  by_cases h2 : j = i
  ·subst h2; simp [hi]
  ·rw [if_neg (fun e => h2 e.symm), if_neg h2]
theorem sw_mem {zs : List It} {i p : Nat} {x y : It} (hx : zs[i]? = some x) (hy : zs[p]? = some y) (u : It) : u ∈ (zs.set i y).set p x ↔ u ∈ zs := by
 have hi := (List.getElem?_eq_some_iff.1 hx).1
 have hp := (List.getElem?_eq_some_iff.1 hy).1
 rw [List.mem_iff_getElem?, List.mem_iff_getElem?]
 constructor
 ·rintro ⟨j, hj⟩
  rw [sw_get hi hp] at hj
  split at hj
  ·exact ⟨i, hx.trans hj⟩
  ·split at hj
   ·exact ⟨p, hy.trans hj⟩
   ·exact ⟨j, hj⟩
 ·rintro ⟨j, hj⟩
  by_cases h1 : j = p
  ·subst h1
   by_cases h2 : j = i
   ·subst h2; exact ⟨j, by rw [sw_get hi hp, if_pos rfl, ← hx, hj]⟩
   ·exact ⟨i, by rw [sw_get hi hp, if_neg (fun e => h2 e.symm), if_pos rfl, ← hy, hj]⟩
  ·by_cases h2 : j = i
   ·subst h2; exact ⟨p, by rw [sw_get hi hp, if_pos rfl, ← hx, hj]⟩
   ·exact ⟨j, by rw [sw_get hi hp, if_neg h1, if_neg h2, hj]⟩
theorem up_step {zs : List It} {i : Nat} {x y : It} (h : UpI zs i) (hi0 : 0 < i) (hx : zs[i]? = some x) (hy : zs[(i - 1) / 2]? = some y) (hlt : itlt x y = true) : UpI ((zs.set i y).set ((i - 1) / 2) x) ((i - 1) / 2) := by
 have hi := (List.getElem?_eq_some_iff.1 hx).1
 have hp := (List.getElem?_eq_some_iff.1 hy).1
 have hpi : (i - 1) / 2 < i := by omega
 have hxy := lt_le hlt
 generalize hpe : (i - 1) / 2 = p at *
 refine ⟨fun j hj hjp u v hu hv => ?_, fun j hj hjp hp0 u v hu hv => ?_⟩
 ·rw [sw_get hi hp] at hu hv
  rw [if_neg hjp] at hv
  by_cases hji : j = i
  ·subst hji
   rw [if_pos rfl] at hv
   rw [if_pos hpe] at hu
   cases hv; cases hu
   exact hxy
  ·rw [if_neg hji] at hv
   by_cases h1 : (j - 1) / 2 = p
   ·rw [if_pos h1] at hu
    cases hu
    exact le_trans' hxy (h.rest j hj hji y v (by rw [h1]; exact hy) hv)
   ·rw [if_neg h1] at hu
    by_cases h2 : (j - 1) / 2 = i
    ·rw [if_pos h2] at hu
     cases hu
     exact h.over j hj h2 hi0 y v (by rw [hpe]; exact hy) hv
    ·rw [if_neg h2] at hu
     exact h.rest j hj hji u v hu hv
 ·rw [sw_get hi hp] at hu hv
  rw [if_neg (by omega), if_neg (by omega)] at hu
  have hup : itlt y u = false := h.rest p hp0 (by omega) u y hu hy
  rw [if_neg (by omega)] at hv
  by_cases hji : j = i
  ·rw [if_pos hji] at hv; cases hv; exact hup
  ·rw [if_neg hji] at hv
   exact le_trans' hup (h.rest j hj hji y v (by rw [hjp]; exact hy) hv)
theorem up_end {zs : List It} {i : Nat} {x : It} (h : UpI zs i) (hx : zs[i]? = some x) (he : i = 0 ∨ ∃ y, zs[(i - 1) / 2]? = some y ∧ itlt x y = false) : HOk zs := by
 intro j hj
 by_cases hji : j = i
 ·subst hji
  rcases he with rfl | ⟨y, hy, hn⟩
  ·omega
  ·intro u v hu hv
   rw [hy] at hu; rw [hx] at hv; cases hu; cases hv
   exact hn
 ·exact h.rest j hj hji
theorem down_step {zs : List It} {i k : Nat} {x y : It} (h : DownI zs i) (hk0 : 0 < k) (hki : (k - 1) / 2 = i) (hx : zs[i]? = some x) (hy : zs[k]? = some y) (hlt : itlt y x = true)
  (hmin : ∀ s, 0 < s → (s - 1) / 2 = i → ∀ v, zs[s]? = some v → itlt v y = false) : DownI ((zs.set i y).set k x) k := by
 have hi := (List.getElem?_eq_some_iff.1 hx).1
 have hk := (List.getElem?_eq_some_iff.1 hy).1
 have hyx := lt_le hlt
 refine ⟨fun j hj hjk u v hu hv => ?_, fun j hj hjk hk0' u v hu hv => ?_⟩
 ·rw [sw_get hi hk] at hu hv
  rw [if_neg hjk] at hu
  by_cases h1 : j = k
  ·subst h1
   rw [if_pos rfl] at hv
   rw [if_pos hki] at hu
   cases hu; cases hv
   exact hyx
  ·rw [if_neg h1] at hv
   by_cases h2 : j = i
   ·subst h2
    rw [if_pos rfl] at hv
    cases hv
    rw [if_neg (by omega)] at hu
    exact h.over k hk0 hki (by omega) u y hu hy
   ·rw [if_neg h2] at hv
    by_cases h3 : (j - 1) / 2 = i
    ·rw [if_pos h3] at hu
     cases hu
     exact hmin j hj h3 v hv
    ·rw [if_neg h3] at hu
     exact h.rest j hj h3 u v hu hv
 ·rw [sw_get hi hk] at hu hv
  rw [hki, if_neg (by omega), if_pos rfl] at hu
  cases hu
  rw [if_neg (by omega), if_neg (by omega)] at hv
  exact h.rest j hj (by omega) y v (by rw [hjk]; exact hy) hv
theorem down_end {zs : List It} {i : Nat} {x : It} (h : DownI zs i) (hx : zs[i]? = some x) (hmin : ∀ s, 0 < s → (s - 1) / 2 = i → ∀ v, zs[s]? = some v → itlt v x = false) : HOk zs := by
 intro j hj
 by_cases h1 : (j - 1) / 2 = i
 ·intro u v hu hv
  rw [h1, hx] at hu; cases hu
  exact hmin j hj h1 v hv
 ·exact h.rest j hj h1
theorem HOk.min {zs : List It} (h : HOk zs) {r : It} (hr : zs[0]? = some r) : ∀ (j : Nat) (u : It), zs[j]? = some u → itlt u r = false := by
 intro j
 induction j using Nat.strongRecOn with
 | ind j ih =>
  intro u hu
  by_cases hj : j = 0
  ·subst hj; rw [hr] at hu; cases hu; exact itlt_irr _
  ·have hlt := (List.getElem?_eq_some_iff.1 hu).1
   have hp : (j - 1) / 2 < zs.length := by omega
   exact le_trans' (ih ((j - 1) / 2) (by omega) _ (List.getElem?_eq_getElem hp)) (h j (by omega) _ u (List.getElem?_eq_getElem hp) hu)
structure Places (f : Int → Option Int) (zs : List It) (i : Nat) : Prop where
 at_ : ∀ (j : Nat) (z : It), j ≠ i → zs[j]? = some z → f z.id = some (j : Int)
 dom : ∀ v k, f v = some k → ∃ z ∈ zs, z.id = v
structure PlacesAll (f : Int → Option Int) (zs : List It) : Prop where
 at_ : ∀ (j : Nat) z, zs[j]? = some z → f z.id = some (j : Int)
 dom : ∀ v k, f v = some k → ∃ z ∈ zs, z.id = v
theorem PlacesAll.one {f : Int → Option Int} {zs : List It} (h : PlacesAll f zs) : One zs := by
 intro x hx y hy e
 obtain ⟨i, hi⟩ := List.mem_iff_getElem?.1 hx
 obtain ⟨j, hj⟩ := List.mem_iff_getElem?.1 hy
 have h1 := h.at_ i x hi
 have h2 := h.at_ j y hj
 rw [e, h2] at h1
 have : j = i := by have := Option.some.inj h1; omega
 subst this
 rw [hi] at hj; exact Option.some.inj hj
theorem Places.swap {f : Int → Option Int} {zs : List It} {i p : Nat} (h : Places f zs i) {x y : It} (hx : zs[i]? = some x) (hy : zs[p]? = some y) (hip : i ≠ p) : Places (fun v => if v = y.id then some (i : Int) else f v) ((zs.set i y).set p x) p := by
 have hi := (List.getElem?_eq_some_iff.1 hx).1
 have hp := (List.getElem?_eq_some_iff.1 hy).1
 refine ⟨fun j z hj hz => ?_, fun v k hv => ?_⟩
 ·rw [sw_get hi hp, if_neg hj] at hz
  by_cases h1 : j = i
  ·rw [if_pos h1] at hz; cases hz; simp [h1]
  ·rw [if_neg h1] at hz
   have h2 := h.at_ j z h1 hz
   have : z.id ≠ y.id := fun e => by
    have h3 := h.at_ p y (Ne.symm hip) hy
    rw [← e, h2] at h3
    have := Option.some.inj h3; omega
   simp [this, h2]
 ·replace hv : (if v = _ then _ else f v) = some k := hv
  by_cases h1 : v = y.id
  ·exact ⟨y, (sw_mem hx hy y).2 (List.mem_of_getElem? hy), h1.symm⟩
  ·rw [if_neg h1] at hv
   obtain ⟨z, hz, e⟩ := h.dom v k hv
   exact ⟨z, (sw_mem hx hy z).2 hz, e⟩
theorem Places.done {f : Int → Option Int} {zs : List It} {i : Nat} (h : Places f zs i) {x : It} (hx : zs[i]? = some x) (hnd : ∀ (j : Nat) (z : It), j ≠ i → zs[j]? = some z → z.id ≠ x.id) : PlacesAll (fun v => if v = x.id then some (i : Int) else f v) zs := by
 refine ⟨fun j z hz => ?_, fun v k hv => ?_⟩
 ·by_cases h1 : j = i
  ·subst h1; rw [hx] at hz; cases hz; simp
  ·have := h.at_ j z h1 hz
   simp [hnd j z h1 hz, this]
 ·replace hv : (if v = _ then _ else f v) = some k := hv
  by_cases h1 : v = x.id
  ·exact ⟨x, List.mem_of_getElem? hx, h1.symm⟩
  ·rw [if_neg h1] at hv; exact h.dom v k hv
def Apart (zs : List It) : Prop := ∀ (i j : Nat) (x y : It), zs[i]? = some x → zs[j]? = some y → x.id = y.id → i = j
theorem Apart.one {zs : List It} (h : Apart zs) : One zs := by
 intro x hx y hy e
 obtain ⟨i, hi⟩ := List.mem_iff_getElem?.1 hx
 obtain ⟨j, hj⟩ := List.mem_iff_getElem?.1 hy
 have := h i j x y hi hj e
 subst this
 rw [hi] at hj; exact Option.some.inj hj
theorem PlacesAll.apart {f : Int → Option Int} {zs : List It} (h : PlacesAll f zs) : Apart zs := by
 intro i j x y hi hj e
 have h1 := h.at_ i x hi
 have h2 := h.at_ j y hj
 rw [e, h2] at h1
 have := Option.some.inj h1; omega
theorem Apart.swap {zs : List It} (h : Apart zs) {i p : Nat} {x y : It} (hx : zs[i]? = some x) (hy : zs[p]? = some y) : Apart ((zs.set i y).set p x) := by
 have hi := (List.getElem?_eq_some_iff.1 hx).1
 have hp := (List.getElem?_eq_some_iff.1 hy).1
 have back : ∀ (j : Nat) (u : It), ((zs.set i y).set p x)[j]? = some u → ∃ j', zs[j']? = some u ∧ ((j = p ∧ j' = i) ∨ (j ≠ p ∧ j = i ∧ j' = p) ∨ (j ≠ p ∧ j ≠ i ∧ j' = j)) := by
  intro j u hu
  rw [sw_get hi hp] at hu
  by_cases h1 : j = p
  ·rw [if_pos h1] at hu; exact ⟨i, hx.trans hu, .inl ⟨h1, rfl⟩⟩
  ·rw [if_neg h1] at hu
   by_cases h2 : j = i
   ·rw [if_pos h2] at hu; exact ⟨p, hy.trans hu, .inr (.inl ⟨h1, h2, rfl⟩)⟩
   ·rw [if_neg h2] at hu; exact ⟨j, hu, .inr (.inr ⟨h1, h2, rfl⟩)⟩
 intro a b u v hu hv e
 obtain ⟨a', ha, hac⟩ := back a u hu
 obtain ⟨b', hb, hbc⟩ := back b v hv
 have := h a' b' u v ha hb e
 omega
end Go.Den

namespace Go.Den
open Go
def absI (n : Int) : Int := if n < 0 then -n else n
def clsP (ax ay bx by_ : Int) : Int :=
 if (ax = 0 ∧ ay = 0) ∨ (bx = 0 ∧ by_ = 0) then 0
 else if ax * bx + ay * by_ > 0 ∧ 4 * absI (ax * by_ - ay * bx) ≤ ax * bx + ay * by_ then 1
 else if ax * bx + ay * by_ < 0 ∧ 4 * absI (ax * by_ - ay * bx) ≤ -(ax * bx + ay * by_) then 5
 else if ax * by_ - ay * bx > 0 ∧ ax * bx + ay * by_ > 0 ∧ ax * by_ - ay * bx ≤ ax * bx + ay * by_ then 2
 else if ax * by_ - ay * bx > 0 ∧ ax * bx + ay * by_ < 0 ∧ ax * by_ - ay * bx ≤ -(ax * bx + ay * by_) then 4
 else if ax * by_ - ay * bx > 0 then 3
 else if ax * bx + ay * by_ > 0 ∧ -(ax * by_ - ay * bx) ≤ ax * bx + ay * by_ then 6
 else if ax * bx + ay * by_ < 0 ∧ -(ax * by_ - ay * bx) ≤ -(ax * bx + ay * by_) then 8
 else 7
theorem sq_pos {x y : Int} (h : ¬ (x = 0 ∧ y = 0)) : x * x + y * y ≠ 0 := fun e => by
 have h1 : 0 ≤ x * x := by
  rcases Int.le_total 0 x with h | h
  ·exact Int.mul_nonneg h h
  ·exact Int.mul_nonneg_of_nonpos_of_nonpos h h
 have h2 : 0 ≤ y * y := by
  rcases Int.le_total 0 y with h | h
  ·exact Int.mul_nonneg h h
  ·exact Int.mul_nonneg_of_nonpos_of_nonpos h h
 have h3 : x * x = 0 := by omega
 have h4 : y * y = 0 := by omega
 exact h ⟨(Int.mul_eq_zero.1 h3).elim id id, (Int.mul_eq_zero.1 h4).elim id id⟩
theorem cross_dot {ax ay bx by_ : Int} (h1 : ax * by_ - ay * bx = 0) (h2 : ax * bx + ay * by_ = 0) : (ax = 0 ∧ ay = 0) ∨ (bx = 0 ∧ by_ = 0) := by
 rcases Classical.em (bx = 0 ∧ by_ = 0) with h | h
 ·exact .inr h
 have hs := sq_pos h
 have e1 : ax * by_ = ay * bx := by omega
 have e2 : ax * bx = -(ay * by_) := by omega
 have f1 : ax * (bx * bx + by_ * by_) = 0 := by
  rw [Int.mul_add, ← Int.mul_assoc, ← Int.mul_assoc, e1, e2, Int.neg_mul, Int.mul_assoc, Int.mul_assoc, Int.mul_comm by_ bx]; omega
 have f2 : ay * (bx * bx + by_ * by_) = 0 := by
  rw [Int.mul_add, ← Int.mul_assoc, ← Int.mul_assoc, ← e1, show ay * by_ = -(ax * bx) by omega, Int.neg_mul, Int.mul_assoc, Int.mul_assoc, Int.mul_comm by_ bx]; omega
 exact .inl ⟨(Int.mul_eq_zero.1 f1).resolve_right hs, (Int.mul_eq_zero.1 f2).resolve_right hs⟩
theorem mul_rng {x y : Int} (h : -4095 ≤ x ∧ x ≤ 4095) (h' : -4095 ≤ y ∧ y ≤ 4095) : -16769025 ≤ x * y ∧ x * y ≤ 16769025 := by
 have h1 : x.natAbs ≤ 4095 := by omega
 have h2 : y.natAbs ≤ 4095 := by omega
 have h3 : (x * y).natAbs ≤ 4095 * 4095 := by rw [Int.natAbs_mul]; exact Nat.mul_le_mul h1 h2
 omega
def clsC (c d : Int) : Int :=
 if d > 0 ∧ 4 * absI c ≤ d then 1 else if d < 0 ∧ 4 * absI c ≤ -d then 5 else if c > 0 ∧ d > 0 ∧ c ≤ d then 2 else if c > 0 ∧ d < 0 ∧ c ≤ -d then 4 else if c > 0 then 3
 else if d > 0 ∧ -c ≤ d then 6 else if d < 0 ∧ -c ≤ -d then 8 else 7
theorem clsP_eq {ax ay bx by_ : Int} (h : ¬ ((ax = 0 ∧ ay = 0) ∨ (bx = 0 ∧ by_ = 0))) : clsP ax ay bx by_ = clsC (ax * by_ - ay * bx) (ax * bx + ay * by_) := by
 unfold clsP clsC; rw [if_neg h]
def Gr.nd (G : Gr) (i : Int) : Int × Int := G.N.getD i.toNat (0, 0)
def Gr.bend (G : Gr) (a b : Int) : Int := clsP ((G.nd (G.to a)).1 - (G.nd (G.fr a)).1) ((G.nd (G.to a)).2 - (G.nd (G.fr a)).2) ((G.nd (G.to b)).1 - (G.nd (G.fr b)).1) ((G.nd (G.to b)).2 - (G.nd (G.fr b)).2)
theorem Gr.get_nd {G : Gr} {i : Int} (h : G.isN i) : G.N[i.toNat]? = some (G.nd i) := by
 have : i.toNat < G.N.length := by have := h.2; unfold Gr.n at this; omega
 unfold Gr.nd
 rw [List.getD_eq_getElem?_getD, List.getElem?_eq_getElem this]; rfl
theorem OkG.nd_rng {G : Gr} (ok : OkG G) {i : Int} (h : G.isN i) : (0 ≤ (G.nd i).1 ∧ (G.nd i).1 ≤ 4095) ∧ 0 ≤ (G.nd i).2 ∧ (G.nd i).2 ≤ 4095 := ok.nd _ (List.mem_of_getElem? (G.get_nd h))
structure HintP where
 cls : Int
 edge : Int
 far : Int
 left : Int
def Gr.hintF (G : Gr) : Int → List Int → Int × Int × Int
 | _, [] => (9, -1, 0)
 | a, e :: l => if (G.nextL a).length ≠ 1 then (G.bend a e, e, 0) else ((G.hintF e l).1, (G.hintF e l).2.1, G.wt e + (G.hintF e l).2.2)
def Gr.hint (G : Gr) (a : Int) (l : List Int) : HintP := ⟨(G.hintF a l).1, (G.hintF a l).2.1, (G.hintF a l).2.2, G.wsum l⟩
structure MsgP where
 kind : Int
 pos : Int
 dest : Int
 edges : List Int
 weight : Int
 hint : HintP
abbrev hint0 : HintP := ⟨0, 0, 0, 0⟩
def mKind (k : Int) : MsgP := ⟨k, 0, 0, [], 0, hint0⟩
def mRoute (l : List Int) (w : Int) : MsgP := ⟨5, 0, 0, l, w, hint0⟩
def mNext (h : HintP) : MsgP := ⟨7, 0, 0, [], 0, h⟩
def mWrong (p : Int) : MsgP := ⟨9, p, 0, [], 0, hint0⟩
abbrev mOpened := mKind 4
abbrev mNoRoute := mKind 6
abbrev mArrived := mKind 8
structure Ses where
 pos : Int
 node : Int
 way : List Int
 has : Bool
 over : Bool
def hintS (G : Gr) (p : Ses) : Ses × List MsgP := if G.to p.pos = p.node then ({ p with over := true }, [mArrived]) else (p, [mNext (G.hint p.pos p.way)])
def askW (G : Gr) (p : Ses) (l : List Int) (w : Int) (f : Bool) : Ses × List MsgP :=
 if f then ((hintS G { p with way := l, has := true }).1, mRoute l w :: (hintS G { p with way := l, has := true }).2) else ({ p with way := l, has := false }, [mNoRoute])
def AskR (G : Gr) (c : List Bool) (p : Ses) (z : Ses × List MsgP) : Prop := ∃ l w f r, G.AnsIs p.node p.pos c l w f r ∧ z = askW G p l w f
theorem AskR.uniq {G : Gr} (ok : OkG G) {c : List Bool} {p : Ses} {z z' : Ses × List MsgP} (h : AskR G c p z) (h' : AskR G c p z') : z = z' := by
 obtain ⟨l, w, f, r, h1, rfl⟩ := h
 obtain ⟨l', w', f', r', h2, rfl⟩ := h'
 obtain ⟨rfl, rfl, rfl, _⟩ := ok.ans_uniq h1 h2
 rfl
def RepR (G : Gr) (c : List Bool) (p : Ses) (pos : Int) (z : Ses × List MsgP) : Prop :=
 if p.over = true then z = (p, []) else if ¬ G.isE pos then z = (p, [mWrong pos]) else if p.has = true ∧ pos = p.pos then z = hintS G p
 else if p.has = true ∧ p.way.head? = some pos then z = hintS G { p with pos := pos, way := p.way.tail } else AskR G c { p with pos := pos } z
theorem RepR.uniq {G : Gr} (ok : OkG G) {c : List Bool} {p : Ses} {pos : Int} {z z' : Ses × List MsgP} (h : RepR G c p pos z) (h' : RepR G c p pos z') : z = z' := by
 unfold RepR at h h'
 split at h
 ·rw [if_pos (by assumption)] at h'; rw [h, h']
 ·rw [if_neg (by assumption)] at h'
  split at h
  ·rw [if_pos (by assumption)] at h'; rw [h, h']
  ·rw [if_neg (by assumption)] at h'
   split at h
   ·rw [if_pos (by assumption)] at h'; rw [h, h']
   ·rw [if_neg (by assumption)] at h'
    split at h
    ·rw [if_pos (by assumption)] at h'; rw [h, h']
    ·rw [if_neg (by assumption)] at h'; exact h.uniq ok h'
def ChgR (G : Gr) (c : List Bool) (p : Ses) (shut open_ : List Int) (z : Ses × List MsgP) : Prop :=
 if p.over = true then z = (p, []) else if p.has = true then (if ∃ e ∈ p.way, e ∈ shut then AskR G c p z else z = (p, []))
 else if open_ = [] then z = (p, []) else ∃ z', AskR G c p z' ∧ z = (z'.1, if z'.1.has = true then z'.2 else [])
theorem ChgR.uniq {G : Gr} (ok : OkG G) {c : List Bool} {p : Ses} {s o : List Int} {z z' : Ses × List MsgP} (h : ChgR G c p s o z) (h' : ChgR G c p s o z') : z = z' := by
 unfold ChgR at h h'
 split at h
 ·rw [if_pos (by assumption)] at h'; rw [h, h']
 ·rw [if_neg (by assumption)] at h'
  split at h
  ·rw [if_pos (by assumption)] at h'
   split at h
   ·rw [if_pos (by assumption)] at h'; exact h.uniq ok h'
   ·rw [if_neg (by assumption)] at h'; rw [h, h']
  ·rw [if_neg (by assumption)] at h'
   split at h
   ·rw [if_pos (by assumption)] at h'; rw [h, h']
   ·rw [if_neg (by assumption)] at h'
    obtain ⟨y, h1, rfl⟩ := h
    obtain ⟨y', h2, rfl⟩ := h'
    rw [h1.uniq ok h2]
structure OkS (G : Gr) (p : Ses) : Prop where
 pos : G.isE p.pos
 node : G.isN p.node
 wE : ∀ x ∈ p.way, G.isE x
 len : p.way.length ≤ 51
 walk : p.has = true → G.walkB p.pos p.way = true
 none : p.has = false → p.way = []
theorem Gr.AnsIs.facts {G : Gr} (ok : OkG G) {v e : Int} {c : List Bool} {l : List Int} {w : Int} {f r : Bool} (h : G.AnsIs v e c l w f r) : (∀ x ∈ l, G.isE x) ∧ l.length ≤ 51 ∧ (f = true → G.walkB e l = true ∧ w = G.wsum l) ∧ (f = false → l = [] ∧ w = 0) := by
 have hm := ok.m1.2
 cases h with
 | no => exact ⟨by simp, by simp, fun h => (by cases h), fun _ => ⟨rfl, rfl⟩⟩
 | near _ _ _ hl _ =>
  have := hl.len ok
  have hf := hl.facts ok
  exact ⟨fun x hx => (hf.2.2.1 x hx).1, by omega, fun _ => ⟨hf.2.1, rfl⟩, fun h => by cases h⟩
 | far _ _ _ _ _ _ hl =>
  have := hl.len ok
  have hf := hl.facts ok
  exact ⟨fun x hx => (hf.2.2.1 x hx).1, by omega, fun _ => ⟨hf.2.1, rfl⟩, fun h => by cases h⟩
theorem OkS.hintS {G : Gr} {p : Ses} (h : OkS G p) : OkS G (hintS G p).1 := by
 unfold Den.hintS
 split
 ·exact ⟨h.pos, h.node, h.wE, h.len, h.walk, h.none⟩
 ·exact h
theorem ask_ok {G : Gr} (ok : OkG G) {p : Ses} (hp : G.isE p.pos) (hn : G.isN p.node) {l : List Int} {w : Int} {f r : Bool} {c : List Bool} (ha : G.AnsIs p.node p.pos c l w f r) : OkS G (askW G p l w f).1 ∧ (f = true → OkS G { p with way := l, has := true }) := by
 obtain ⟨h1, h2, h3, h4⟩ := ha.facts ok
 have hs : f = true → OkS G { p with way := l, has := true } := fun hf => ⟨hp, hn, h1, h2, fun _ => (h3 hf).1, fun h => by cases h⟩
 refine ⟨?_, hs⟩
 unfold askW
 split
 ·rename_i hf; exact (hs hf).hintS
 ·rename_i hf
  have hf' : f = false := by simpa using hf
  exact ⟨hp, hn, h1, h2, fun h => (by cases h), fun _ => (h4 hf').1⟩
theorem OkS.move {G : Gr} {p : Ses} (h : OkS G p) {x : Int} (hx : G.isE x) (hh : p.has = true ∧ p.way.head? = some x) : OkS G { p with pos := x, way := p.way.tail } := by
 have hw := h.walk hh.1
 cases hp : p.way with
 | nil => rw [hp] at hh; cases hh.2
 | cons y l =>
  have hy : y = x := by have := hh.2; rw [hp] at this; simpa using this
  subst hy
  rw [hp] at hw
  have h2 := h.wE
  have h3 := h.len
  rw [hp] at h2 h3
  simp only [Gr.walkB, Bool.and_eq_true] at hw
  exact ⟨hx, h.node, fun z hz => h2 z (by simp at hz; simp [hz]), by simp at h3 ⊢; omega, fun _ => hw.2, fun h4 => by have h5 : p.has = false := h4; rw [hh.1] at h5; cases h5⟩
end Go.Den

namespace Go.Den
open Go
def fullK (w h i : Nat) : Nat → List (Nat × Nat)
 | 0 => if i % w < w - 1 then [(i, i + 1), (i + 1, i)] else []
 | _ => if i / w < h - 1 then [(i, i + w), (i + w, i)] else []
def fullI (w h i : Nat) : List (Nat × Nat) := (List.range i).flatMap fun i => fullK w h i 0 ++ fullK w h i 1
theorem full_facts : ∀ w : Fin 5, ∀ h : Fin 5, (fullI w h (w * h)).length ≤ 48 ∧ (∀ p ∈ fullI w h (w * h), p.1 < w.val * h.val ∧ p.2 < w.val * h.val) ∧ ∀ v : Fin 17, ((fullI w h (w * h)).filter fun p => p.1 == v.val).length ≤ 4 := by decide +kernel
theorem fullI_succ (w h i : Nat) : fullI w h (i + 1) = fullI w h i ++ fullK w h i 0 ++ fullK w h i 1 := by
 unfold fullI
 rw [List.range_succ, List.flatMap_append]
 simp [List.append_assoc]
abbrev E3 := Int × Int × Int
def ftE (e : E3) : Nat × Nat := (e.1.toNat, e.2.1.toNat)
structure GridE (w h : Nat) (L : List (Nat × Nat)) (E : List E3) : Prop where
 sub : (E.map ftE).Sublist L
 ok : ∀ e ∈ E, 0 ≤ e.1 ∧ 0 ≤ e.2.1 ∧ 1 ≤ e.2.2 ∧ e.2.2 ≤ 40
theorem GridE.nil (w h : Nat) (L : List (Nat × Nat)) : GridE w h L [] := ⟨by simp, by simp⟩
theorem GridE.more {w h : Nat} {L M : List (Nat × Nat)} {E : List E3} (g : GridE w h L E) : GridE w h (L ++ M) E := ⟨g.sub.trans (List.sublist_append_left L M), g.ok⟩
theorem GridE.push {w h : Nat} {L : List (Nat × Nat)} {E : List E3} (g : GridE w h L E) {p : Nat × Nat} {x : Int} (h0 : 1 ≤ x) (h1 : x ≤ 40) : GridE w h (L ++ [p]) (E ++ [((p.1 : Int), (p.2 : Int), x)]) := by
 refine ⟨?_, fun e he => ?_⟩
 ·rw [List.map_append]
  refine g.sub.append ?_
  have : ftE ((p.1 : Int), (p.2 : Int), x) = p := by simp [ftE]
  simp [this]
 ·rcases List.mem_append.1 he with he | he
  ·exact g.ok e he
  ·have : e = ((p.1 : Int), (p.2 : Int), x) := by simpa using he
   subst this
   exact ⟨Int.natCast_nonneg _, Int.natCast_nonneg _, h0, h1⟩
structure TownE (n k : Nat) (E : List E3) : Prop where
 len : E.length ≤ 48 + k
 ok : ∀ e ∈ E, (0 ≤ e.1 ∧ e.1 < n) ∧ (0 ≤ e.2.1 ∧ e.2.1 < n) ∧ 1 ≤ e.2.2 ∧ e.2.2 ≤ 40
 deg : ∀ v : Int, (E.filter fun e => decide (e.1 = v)).length ≤ 4 + k
theorem GridE.town {w h : Nat} (hw : w < 5) (hh : h < 5) {E : List E3} (g : GridE w h (fullI w h (w * h)) E) : TownE (w * h) 0 E := by
 obtain ⟨f1, f2, f3⟩ : (fullI w h (w * h)).length ≤ 48 ∧ (∀ p ∈ fullI w h (w * h), p.1 < w * h ∧ p.2 < w * h) ∧ ∀ v : Fin 17, ((fullI w h (w * h)).filter fun p => p.1 == v.val).length ≤ 4 := full_facts ⟨w, hw⟩ ⟨h, hh⟩
 have hin : ∀ e ∈ E, e.1 < (w * h : Nat) ∧ e.2.1 < (w * h : Nat) := fun e he => by
  have hm := g.sub.subset (List.mem_map.2 ⟨e, he, rfl⟩)
  have h1 := f2 _ hm
  have h2 := g.ok e he
  unfold ftE at h1
  simp only at h1
  omega
 refine ⟨?_, fun e he => ?_, fun v => ?_⟩
 ·have := g.sub.length_le
  rw [List.length_map] at this
  omega
 ·have h1 := g.ok e he
  have h2 := hin e he
  exact ⟨⟨h1.1, h2.1⟩, ⟨h1.2.1, h2.2⟩, h1.2.2⟩
 ·by_cases hv : 0 ≤ v ∧ v < 17
  ·have h1 := (g.sub.filter fun p => p.1 == v.toNat).length_le
   have h2 : ((fullI w h (w * h)).filter fun p => p.1 == v.toNat).length ≤ 4 := f3 ⟨v.toNat, by omega⟩
   have h3 : (E.filter fun e => decide (e.1 = v)).length = ((E.map ftE).filter fun p => p.1 == v.toNat).length := by
    rw [List.filter_map, List.length_map]
    congr 1
    refine List.filter_congr fun e he => ?_
    have h4 := g.ok e he
    have h5 : (e.1 = v) ↔ (e.1.toNat = v.toNat) := by omega
    simp only [Function.comp, ftE]
    by_cases h6 : e.1 = v
    ·rw [decide_eq_true h6]; simp [h6]
    ·rw [decide_eq_false h6]; symm; simpa using fun h => h6 (h5.2 h)
   omega
  ·have : (E.filter fun e => decide (e.1 = v)) = [] := by
    rw [List.filter_eq_nil_iff]
    intro e he h1
    have h2 := g.ok e he
    have h3 := hin e he
    have h4 : e.1 = v := by simpa using h1
    have : w * h ≤ 4 * 4 := Nat.mul_le_mul (by omega) (by omega)
    omega
   rw [this]; simp
theorem TownE.push {n k : Nat} {E : List E3} (h : TownE n k E) {e : E3} (he : (0 ≤ e.1 ∧ e.1 < n) ∧ (0 ≤ e.2.1 ∧ e.2.1 < n) ∧ 1 ≤ e.2.2 ∧ e.2.2 ≤ 40) : TownE n (k + 1) (E ++ [e]) := by
 refine ⟨by rw [List.length_append]; have := h.len; simp; omega, fun x hx => ?_, fun v => ?_⟩
 ·rcases List.mem_append.1 hx with hx | hx
  ·exact h.ok x hx
  ·have : x = e := by simpa using hx
   rw [this]; exact he
 ·rw [List.filter_append, List.length_append]
  have h1 := h.deg v
  have h2 := List.length_filter_le (fun e => decide (e.1 = v)) [e]
  simp only [List.length_cons, List.length_nil] at h2
  omega
theorem TownE.more {n k j : Nat} {E : List E3} (h : TownE n k E) (hj : k ≤ j) : TownE n j E := ⟨by have := h.len; omega, h.ok, fun v => by have := h.deg v; omega⟩
theorem TownE.one {n : Nat} (hn : 0 < n) : TownE n 3 [(0, 0, 3)] := by
 refine ⟨by simp, fun e he => ?_, fun v => Nat.le_trans (List.length_filter_le _ _) (by simp)⟩
 have : e = (0, 0, 3) := by simpa using he
 subst this
 exact ⟨⟨by simp, by simpa using hn⟩, ⟨by simp, by simpa using hn⟩, by simp, by simp⟩
theorem count_at (p : E3 → Bool) : ∀ E : List E3, ((List.range E.length).filter fun i => p (E.getD i (0, 0, 0))).length = (E.filter p).length
 | [] => rfl
 | e :: E => by
  have ih := count_at p E
  rw [List.length_cons, List.range_succ_eq_map, List.filter_cons, List.filter_map]
  have h1 : ((fun i => p ((e :: E).getD i (0, 0, 0))) ∘ Nat.succ) = fun i => p (E.getD i (0, 0, 0)) := by funext i; simp
  rw [h1]
  simp only [List.getD_cons_zero, List.filter_cons]
  simp only [List.getD_eq_getElem?_getD] at ih
  split <;> simp [ih]
theorem count_ints (p : E3 → Bool) (E : List E3) : ((ints E.length).filter fun i => p (E.getD i.toNat (0, 0, 0))).length = (E.filter p).length := by
 unfold ints
 rw [List.filter_map, List.length_map, ← count_at]
 rfl
structure TownB (E : List E3) (a b : Nat) (B : List (Int × Int)) : Prop where
 len : B.length ≤ 7 * a + ((ints b).filter fun i => decide ((E.getD i.toNat (0, 0, 0)).1 = (E.getD a (0, 0, 0)).2.1)).length
 ok : ∀ x ∈ B, (0 ≤ x.1 ∧ x.1 < E.length) ∧ (0 ≤ x.2 ∧ x.2 < E.length) ∧ (E.getD x.1.toNat (0, 0, 0)).2.1 = (E.getD x.2.toNat (0, 0, 0)).1
 srt : B.Pairwise lex2
 last : ∀ x ∈ B, lex2 x ((a : Int), (b : Int))
theorem TownB.skip {E : List E3} {a b : Nat} {B : List (Int × Int)} (h : TownB E a b B) : TownB E a (b + 1) B := by
 refine ⟨?_, h.ok, h.srt, fun x hx => ?_⟩
 ·rw [ints_succ, List.filter_append, List.length_append]; have := h.len; omega
 ·have := h.last x hx; unfold lex2 at *; omega
theorem TownB.push {E : List E3} {a b : Nat} {B : List (Int × Int)} (h : TownB E a b B) (ha : a < E.length) (hb : b < E.length) (he : (E.getD a (0, 0, 0)).2.1 = (E.getD b (0, 0, 0)).1) : TownB E a (b + 1) (B ++ [((a : Int), (b : Int))]) := by
 refine ⟨?_, fun x hx => ?_, ?_, fun x hx => ?_⟩
 ·rw [ints_succ, List.filter_append, List.length_append, List.length_append]
  have h1 : ([(b : Int)].filter fun i => decide ((E.getD i.toNat (0, 0, 0)).1 = (E.getD a (0, 0, 0)).2.1)) = [(b : Int)] := by
   simp only [List.filter_cons, Int.toNat_natCast, he, decide_true, if_true, List.filter_nil]
  rw [h1]
  have := h.len
  simp only [List.length_cons, List.length_nil]; omega
 ·rcases List.mem_append.1 hx with hx | hx
  ·exact h.ok x hx
  ·have : x = ((a : Int), (b : Int)) := by simpa using hx
   subst this
   exact ⟨⟨by omega, by omega⟩, ⟨by omega, by omega⟩, by simpa using he⟩
 ·rw [List.pairwise_append]
  refine ⟨h.srt, by simp, fun x hx y hy => ?_⟩
  have : y = ((a : Int), (b : Int)) := by simpa using hy
  subst this
  exact h.last x hx
 ·rcases List.mem_append.1 hx with hx | hx
  ·have := h.last x hx; unfold lex2 at *; omega
  ·have : x = ((a : Int), (b : Int)) := by simpa using hx
   subst this
   unfold lex2; omega
theorem TownB.next {n : Nat} {E : List E3} (hE : TownE n 3 E) {a : Nat} {B : List (Int × Int)} (h : TownB E a E.length B) : TownB E (a + 1) 0 B := by
 refine ⟨?_, h.ok, h.srt, fun x hx => ?_⟩
 ·have h1 := h.len
  have h2 := count_ints (fun e => decide (e.1 = (E.getD a (0, 0, 0)).2.1)) E
  rw [h2] at h1
  have := hE.deg (E.getD a (0, 0, 0)).2.1
  have h3 : ((ints 0).filter fun i => decide ((E.getD i.toNat (0, 0, 0)).1 = (E.getD (a + 1) (0, 0, 0)).2.1)).length = 0 := by simp [ints]
  omega
 ·have := h.last x hx
  have := (h.ok x hx).2.1.2
  unfold lex2 at *; omega
theorem town_ok {n : Nat} {N : List (Int × Int)} {E : List E3} {B : List (Int × Int)} (hn : 1 ≤ n ∧ n ≤ 16) (hN : N.length = n) (hNo : ∀ p ∈ N, (0 ≤ p.1 ∧ p.1 ≤ 4095) ∧ 0 ≤ p.2 ∧ p.2 ≤ 4095) (hE : TownE n 3 E) (hE1 : E ≠ []) (hB : TownB E E.length 0 B) : OkG ⟨N, E, B⟩ := by
 have hpos : 0 < E.length := List.length_pos_iff.2 hE1
 have hl := hE.len
 refine ⟨⟨by show 1 ≤ N.length; omega, by show N.length ≤ 256; omega⟩, ⟨hpos, hl⟩, hNo, fun e he => ?_, ?_, fun b hb => ?_, hB.srt⟩
 ·have := hE.ok e he
  show (0 ≤ e.1 ∧ e.1 < (N.length : Nat)) ∧ (0 ≤ e.2.1 ∧ e.2.1 < (N.length : Nat)) ∧ _
  rw [hN]; exact this
 ·have h1 := hB.len
  have h3 : ((ints 0).filter fun i => decide ((E.getD i.toNat (0, 0, 0)).1 = (E.getD E.length (0, 0, 0)).2.1)).length = 0 := by simp [ints]
  show B.length ≤ 1024
  omega
 ·exact hB.ok b hb
end Go.Den

namespace Go.Den
open Go Go.ChangeShapes Go.WideShapes Go.ChangeAt Go.RowKit Go.Deep
def leaf64 (P : Program) : Nat → TypeId → Nat → Bool
 | 0, _, _ => false
 | d + 1, t, i => match P.underlying t with
  | some (.int .i64) => Nat.beq i 0
  | some (.struct fs) => fs.toList.any fun f => Nat.ble f.offset i && Nat.blt i (f.offset + P.cellsOf f.type) && leaf64 P d f.type (i - f.offset)
  | some (.array n e) => Nat.blt 0 (P.cellsOf e) && Nat.blt (i / P.cellsOf e) n && leaf64 P d e (i % P.cellsOf e)
  | _ => false
def leaves64 (P : Program) (t : TypeId) (n : Nat) : Bool := allLt (fun i => leaf64 P 5 t i) n
theorem mapM_each {α β : Type} {f : α → Option β} : ∀ {l : List α} {ys : List β}, l.mapM f = some ys → ∀ x ∈ l, ∃ y, f x = some y
 | [], _, _, x, hx => by cases hx
 | a :: l, ys, h, x, hx => by
  simp only [List.mapM_cons, Option.bind_eq_bind, Option.pure_def] at h
  cases ha : f a with
  | none => simp [ha] at h
  | some y =>
   cases hl : l.mapM f with
   | none => simp [ha, hl] at h
   | some zs =>
    rcases List.mem_cons.1 hx with e | hx
    ·subst e; exact ⟨y, ha⟩
    ·exact mapM_each hl x hx
section
variable {H : Type} {enc : TypeId × Value → H} {P : Program} {w : World} {base : Nat} {spare : Nat → Bool} {held : Bool}
theorem leaf64_spec : ∀ (d : Nat) {fuel : Nat} {t : TypeId} {cs : List Value} {x : DataW H × List MemPlace} {i : Nat}, leaf64 P d t i = true → DataW.trod enc P w base spare held fuel t cs = some x → ∃ n : Int, cs[i]? = some (.int .i64 n)
 | 0, _, _, _, _, _, h, _ => by simp [leaf64] at h
 | d + 1, 0, _, _, _, _, _, hx => by simp [DataW.trod] at hx
 | d + 1, fuel + 1, t, cs, x, i, h, hx => by
  unfold leaf64 at h
  cases hu : P.underlying t with
  | none => rw [hu] at h; cases h
  | some u =>
   rw [hu] at h
   cases u
   case int k =>
    cases k <;> try (cases h; done)
    obtain ⟨n, hc, _, _⟩ := DataW.trod_int hu hx
    have hi : i = 0 := Nat.eq_of_beq_eq_true h
    subst hi
    exact ⟨n, by rw [hc]; rfl⟩
   case struct fs =>
    have hx' : (if cs.length = P.cellsOf t then (fs.toList.mapM fun f => DataW.trod enc P w base spare held fuel f.type ((cs.drop f.offset).take (P.cellsOf f.type))).map fun xs => (DataW.agg (xs.map (·.1)), xs.flatMap (·.2)) else none) = some x := by
     rw [← hx]
     conv => rhs; unfold DataW.trod; rw [hu]
    split at hx'
    ·simp only [List.any_eq_true, Bool.and_eq_true] at h
     obtain ⟨f, hf, ⟨h1, h2⟩, h3⟩ := h
     cases hm : (fs.toList.mapM fun f => DataW.trod enc P w base spare held fuel f.type ((cs.drop f.offset).take (P.cellsOf f.type))) with
     | none => rw [hm] at hx'; cases hx'
     | some ys =>
      obtain ⟨y, hy⟩ := mapM_each hm f hf
      obtain ⟨n, hn⟩ := leaf64_spec d h3 hy
      have l1 : f.offset ≤ i := Nat.le_of_ble_eq_true h1
      have l2 : i < f.offset + P.cellsOf f.type := by simpa using h2
      rw [List.getElem?_take_of_lt (by omega), List.getElem?_drop, show f.offset + (i - f.offset) = i by omega] at hn
      exact ⟨n, hn⟩
    ·cases hx'
   case array m e =>
    have hx' : (if cs.length = P.cellsOf t then ((List.range m).mapM fun i => DataW.trod enc P w base spare held fuel e ((cs.drop (i * P.cellsOf e)).take (P.cellsOf e))).map fun xs => (DataW.agg (xs.map (·.1)), xs.flatMap (·.2)) else none) = some x := by
     rw [← hx]
     conv => rhs; unfold DataW.trod; rw [hu]
    split at hx'
    ·simp only [Bool.and_eq_true] at h
     obtain ⟨⟨h0, h1⟩, h3⟩ := h
     have l0 : 0 < P.cellsOf e := by simpa using h0
     have l1 : i / P.cellsOf e < m := by simpa using h1
     cases hm : ((List.range m).mapM fun i => DataW.trod enc P w base spare held fuel e ((cs.drop (i * P.cellsOf e)).take (P.cellsOf e))) with
     | none => rw [hm] at hx'; cases hx'
     | some ys =>
      obtain ⟨y, hy⟩ := mapM_each hm (i / P.cellsOf e) (List.mem_range.2 l1)
      obtain ⟨n, hn⟩ := leaf64_spec d h3 hy
      rw [List.getElem?_take_of_lt (Nat.mod_lt _ l0), List.getElem?_drop, Nat.div_add_mod'] at hn
      exact ⟨n, hn⟩
    ·cases hx'
   all_goals cases h
theorem arg_rows {t e : TypeId} {m b : Nat} {v : Value} {d : DataW H} {ps : List MemPlace} (ht : P.underlying t = some (.slice e)) (hc : P.cellsOf e = m) (hlf : leaves64 P e m = true)
  (hval : Value.okWide P w .any b t v) (h : DataW.Trod enc P w 0 (fun _ => true) true t v d ps) :
  ∃ (s : Sl) (rows : List (List Int)), v = .slice s.b s.l s.c ∧ Rd w s m (fun r => r.map (Value.int .i64)) rows ∧ (∀ r ∈ rows, r.length = m) := by
 obtain ⟨a1, len, cap, rfl⟩ := okWide_slice ht hval
 obtain ⟨fuel, hf⟩ := h
 rcases open_slice ht hf with ⟨hcs, hx⟩ | ⟨a, len', cap', k, n, D, Pl, hcs, _, hl, hm, hk, _, hel⟩
 ·simp [Value.cells] at hcs
  obtain ⟨rfl, rfl, rfl⟩ := hcs
  exact ⟨⟨none, 0, 0⟩, [], rfl, Rd.nil _ _ _, by simp⟩
 ·simp [Value.cells] at hcs
  obtain ⟨rfl, rfl, rfl⟩ := hcs
  have hk' : k = cap := by simpa using hk
  have each : ∀ i, i < len → ∃ r : List Int, r.length = m ∧ HoldsAt w (a.add (i * m)) 0 (r.map (Value.int .i64)) := by
   intro i hi
   obtain ⟨cs, h1, h2⟩ := hel i (by omega)
   rw [hc] at h1
   obtain ⟨_, hlen, hcell⟩ := World.cells?_some h1
   have hints : ∀ j, j < m → ∃ n : Int, cs[j]? = some (.int .i64 n) := fun j hj => leaf64_spec 5 (allLt_spec hlf j hj) h2
   have conv : ∀ (cs : List Value), (∀ j, j < cs.length → ∃ n : Int, cs[j]? = some (.int .i64 n)) → ∃ r : List Int, cs = r.map (Value.int .i64) := by
    intro cs
    induction cs with
    | nil => intro _; exact ⟨[], rfl⟩
    | cons c cs ih =>
     intro hh
     obtain ⟨n, hn⟩ := hh 0 (by simp)
     simp at hn
     obtain ⟨r, hr⟩ := ih fun j hj => hh (j + 1) (by simpa using hj)
     exact ⟨n :: r, by rw [hn, hr]; rfl⟩
   obtain ⟨r, hr⟩ := conv cs fun j hj => hints j (by omega)
   refine ⟨r, by rw [← hlen, hr]; simp, ?_⟩
   rw [holds_iff]
   intro j v hj
   rw [← hr] at hj
   have hjm : j < m := by have := (List.getElem?_eq_some_iff.1 hj).1; omega
   rw [Nat.zero_add, hcell j hjm]; exact hj
  obtain ⟨rows, hlr, hrows⟩ : ∃ rows : List (List Int), rows.length = len ∧ ∀ i r, rows[i]? = some r → r.length = m ∧ HoldsAt w (a.add (i * m)) 0 (r.map (Value.int .i64)) := by
   have build : ∀ q, q ≤ len → ∃ rows : List (List Int), rows.length = q ∧ ∀ i r, rows[i]? = some r → r.length = m ∧ HoldsAt w (a.add (i * m)) 0 (r.map (Value.int .i64)) := by
    intro q
    induction q with
    | zero => intro _; exact ⟨[], rfl, by simp⟩
    | succ q ih =>
     intro hq
     obtain ⟨rows, h1, h2⟩ := ih (by omega)
     obtain ⟨r, h3, h4⟩ := each q (by omega)
     refine ⟨rows ++ [r], by simp [h1], fun i r' hi => ?_⟩
     by_cases hiq : i < rows.length
     ·rw [List.getElem?_append_left hiq] at hi; exact h2 i r' hi
     ·rw [List.getElem?_append_right (by omega)] at hi
      have : i - rows.length = 0 := by have := (List.getElem?_eq_some_iff.1 hi).1; simp at this; omega
      rw [this] at hi
      simp at hi
      subst hi
      have : i = q := by omega
      subst this
      exact ⟨h3, h4⟩
   exact build len (Nat.le_refl _)
  exact ⟨⟨some a, len, cap⟩, rows, rfl, ⟨hlr.symm, hl, fun i r hi => ⟨a, rfl, (hrows i r hi).2⟩⟩, fun r hr => by obtain ⟨i, hi⟩ := List.mem_iff_getElem?.1 hr; exact (hrows i r hi).1⟩
end
theorem Rd.map {α β : Type} {w : World} {s : Sl} {n : Nat} {e : α → List Value} {e' : β → List Value} {xs : List α} (h : Rd w s n e xs) (f : α → β) (hf : ∀ x ∈ xs, e' (f x) = e x) : Rd w s n e' (xs.map f) := by
 refine ⟨by rw [List.length_map]; exact h.len, h.cap, fun i y hy => ?_⟩
 rw [List.getElem?_map] at hy
 cases hx : xs[i]? with
 | none => rw [hx] at hy; cases hy
 | some x =>
  rw [hx] at hy
  cases hy
  obtain ⟨a, ha, hh⟩ := h.get i x hx
  exact ⟨a, ha, by rw [hf x (List.mem_of_getElem? hx)]; exact hh⟩
end Go.Den
