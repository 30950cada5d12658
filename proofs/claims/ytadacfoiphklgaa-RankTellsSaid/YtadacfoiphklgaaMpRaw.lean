/-
  More rules: copy, clear, append of noughts, calls of function values.
-/
import Derived.Test.YtadacfoiphklgaaMpMem
import Derived.Lib.Overlaps
namespace Go.Den
open Go

theorem callV_i {P : Program} {g : FuncId} {T : Tr} (hS : Sound P g T) (hen : enters P g = true) {first cap : Array Value} {args : List Value} {w : World} {K : Value → World → Prop} (h : T (first.toList ++ args ++ cap.toList) w K) :
    callV P (.func (.func g) first cap) args w K := by
  refine ⟨g, first, cap, rfl, hen, ?_⟩
  have := hS _ w K h
  have e : (first.toList ++ args ++ cap.toList).toArray = first ++ args.toArray ++ cap := by simp
  rwa [e] at this

/-- A row is read. -/
theorem Own.read {w : World} {g : Nat} {e : TypeId} {cs : List Value} (h : Own w g e cs) {o : Nat} {vs : List Value} (hv : ∀ j v, vs[j]? = some v → cs[o + j]? = some v) :
    ∀ j v, vs[j]? = some v → w.cell? ((⟨g, o, none⟩ : Addr).add j) = some v := by
  intro j v hj
  rw [addr_lit, h.cell]; exact hv j v hj

theorem copy_own {P : Program} {t t' e : TypeId} {n : Nat} (ht : P.underlying t = some (.slice e)) (hn : (P.info? e).map (·.size) = some n) {w : World} {g o dl dc : Nat} {a : Addr} {sl sc : Nat} {eg : TypeId} {cur cs : List Value}
    (ho : Own w g eg cur) (hl : cs.length = min sl dl * n) (hr : ∀ j v, cs[j]? = some v → w.cell? (a.add j) = some v) (hfit : o + cs.length ≤ cur.length) (h1 : ∀ v ∈ cs, v.oneCell' = true) {K : Int → World → Prop}
    (hK : ∀ w', Own w' g eg (cur.take o ++ cs ++ cur.drop (o + cs.length)) → Mod (fun k => k = g) w w' → w'.heap.size = w.heap.size → K (min sl dl : Nat) w') :
    copyD P t t' ⟨some ⟨g, o, none⟩, dl, dc⟩ (.slice (some a) sl sc) w K := by
  cases hq : P.info? e with
  | none => rw [hq] at hn; cases hn
  | some i =>
    have hi : i.size = n := by simpa [hq] using hn
    subst hi
    have hmin : Nat.min sl dl = min sl dl := rfl
    have hf := run_firstCells_some (P := P) w i.size (Nat.min sl dl) a sl sc cs hl hr
    have hst := run_storeCells_at P g o eg cs 0 cur.toArray w ho (by simpa using hfit) h1
    refine ⟨((min sl dl : Nat) : Int), _, ?_, hK _ (ho.setRow _) (Mod.setRow w g _) (by simp)⟩
    simp only [Nat.add_zero] at hst
    simp [Builtin.copy_, run_underlying ht, Builtin.lenOf, sizeOf, typeInfo, hq, hf, hst]
    rfl

theorem size_zeroC (z : Array Value) (n : Nat) : (Builtin.zeroCells z n).toList.length = n * z.size := by simp [Builtin.zeroCells]
theorem clear_own {P : Program} {t e : TypeId} {n bytes : Nat} {z : List Value} (hE : Elem P t e n bytes z) (hz1 : ∀ v ∈ z, v.oneCell' = true) {w : World} {g o l c : Nat} {eg : TypeId} {cur : List Value}
    (ho : Own w g eg cur) (hfit : o + l * n ≤ cur.length) {K : World → Prop}
    (hK : ∀ w' zs, zs.length = l * n → Own w' g eg (cur.take o ++ zs ++ cur.drop (o + l * n)) → Mod (fun k => k = g) w w' → w'.heap.size = w.heap.size → K w') :
    clearD P t (.slice (some ⟨g, o, none⟩) l c) w K := by
  obtain ⟨i, zv, hi, hz, rfl, rfl, rfl⟩ := hE.info
  have hzs : zv.cells.size = i.size := by have := hE.zlen; simpa using this
  by_cases hl : l = 0
  · subst hl
    refine ⟨(), w, ?_, hK w [] (by simp) (by simpa using ho) (Mod.refl _ _) rfl⟩
    simp [Builtin.clear_, run_underlying hE.under, encK]
  · have hlen : (Builtin.zeroCells zv.cells l).toList.length = l * i.size := by rw [size_zeroC, hzs]
    have hone : ∀ v ∈ (Builtin.zeroCells zv.cells l).toList, v.oneCell' = true := by
      intro v hv
      simp only [Builtin.zeroCells, Array.toList_map, List.mem_map] at hv
      obtain ⟨j, _, rfl⟩ := hv
      have hp : 0 < zv.cells.size := by rw [hzs]; exact hE.pos
      have hm : j % zv.cells.size < zv.cells.size := Nat.mod_lt _ hp
      rw [getElem!_pos zv.cells _ hm]
      exact hz1 _ (by simp)
    have hst := run_storeCells_at P g o eg (Builtin.zeroCells zv.cells l).toList 0 cur.toArray w ho (by rw [hlen]; simpa using hfit) hone
    rw [hlen] at hst
    refine ⟨(), _, ?_, hK _ (Builtin.zeroCells zv.cells l).toList hlen (ho.setRow _) (Mod.setRow w g _) (by simp)⟩
    simp only [Nat.add_zero] at hst
    obtain ⟨l', rfl⟩ : ∃ m, l = m + 1 := ⟨l - 1, by omega⟩
    simp [Builtin.clear_, run_underlying hE.under, zeroValue, typeInfo, hi, hz, hst, encK]

theorem zeroC_flat {α : Type} (z : Array Value) (enc : α → List Value) (x : α) (hz : enc x = z.toList) (k : Nat) (hp : 0 < z.size) : (Builtin.zeroCells z k).toList = (List.replicate k x).flatMap enc := madeCells_flat z enc x hz k hp

/-- 'append(s, make(..)...)' beyond what it has room for. -/
theorem append_zeros {α : Type} {P : Program} {t ti e : TypeId} {n bytes : Nat} {z : List Value} (hE : Elem P t e n bytes z) (hti : P.underlying ti = some (.int .i64)) {enc : α → List Value} (x : α) (hx : enc x = z) (henc : ∀ x, (enc x).length = n)
    {w : World} {s : Sl} {xs : List α} (hs : Rd w s n enc xs) {k : Nat} (hk : s.c < xs.length + k) (h63 : xs.length + k ≤ 9223372036854775807) (hbytes : (xs.length + k) * bytes ≤ 140737488355328) {K : Sl → World → Prop}
    (hK : ∀ r w', Vec w' e n enc r (xs ++ List.replicate k x) → Keep w w' → (∃ a, r.b = some a ∧ w.heap.size ≤ a.block) → K r w') : appendD P t ti s (.int .i64 (k : Int)) w K := by
  obtain ⟨i, zv, hi, hz, rfl, rfl, rfl⟩ := hE.info
  obtain ⟨sb, sl, sc⟩ := s
  have hsl : sl = xs.length := hs.len
  have hsc : sc < sl + k := by rw [hsl]; exact hk
  have hzs : zv.cells.size = i.size := by have := hE.zlen; simpa using this
  have hge := grownCap_ge w (sl + k) sc e
  have hcm : grownCap w (sl + k) sc e ≤ maxLen := grownCap_le_maxLen w (sl + k) sc e (by simp only [maxLen]; omega)
  have hold : (Builtin.firstCells i.size sl (.slice sb sl sc)).run P w.drew = .ok (xs.flatMap enc).toArray w.drew := by
    cases sb with
    | none =>
      have hx0 : xs = [] := by
        cases xs with
        | nil => rfl
        | cons y r => obtain ⟨a, ha, _⟩ := hs.get 0 y rfl; cases ha
      subst hx0
      simp [Builtin.firstCells]
    | some a => exact run_firstCells_some (P := P) w.drew i.size sl a sl sc (xs.flatMap enc) (by rw [length_flatMap_enc henc, hsl]) (fun j v hj => by simpa using firstCells_rd hs henc (a := a) rfl j v hj)
  have hnk : (Builtin.zeroCells zv.cells k).toList = (List.replicate k x).flatMap enc := zeroC_flat zv.cells enc x hx k (by rw [hzs]; exact hE.pos)
  have hkw : IntKind.i64.wrap (k : Int) = (k : Int) := w64n k (by omega)
  have hkb : ¬ (281474976710656 < (k : Int) * (i.bytes : Int)) := by
    have h1 : k * i.bytes ≤ (xs.length + k) * i.bytes := Nat.mul_le_mul_right _ (by omega)
    have h2 : ((k * i.bytes : Nat) : Int) ≤ 140737488355328 := by omega
    rw [Int.natCast_mul] at h2
    omega
  have h48 : ¬ (281474976710656 < Builtin.nextslicecap (sl + k) sc * i.bytes) := by have := growslice_fits (need := sl + k) (old := sc) (bytes := i.bytes) hsc (by rw [hsl]; exact hbytes); omega
  have hroom : ¬ (sl + k ≤ sc) := by omega
  have hpos : ¬ (k * i.size = 0) := by
    have hk0 : 0 < k := by have := hs.cap; simp only at this; omega
    have := Nat.mul_pos hk0 hE.pos
    omega
  have h63' : ¬ (9223372036854775807 < (sl : Int) + (k : Int)) := by omega
  refine ⟨(⟨some ⟨w.heap.size, 0, none⟩, sl + k, grownCap w (sl + k) sc e⟩ : Sl), w.drew.alloc (.cells ((xs.flatMap enc).toArray ++ Builtin.zeroCells zv.cells k ++ Builtin.zeroCells zv.cells (grownCap w (sl + k) sc e - (sl + k))) e), ?_, hK _ _ ⟨?_, hge, hcm, .inr ⟨w.heap.size, (Builtin.zeroCells zv.cells (grownCap w (sl + k) sc e - (sl + k))).toList, rfl, ?_, ?_⟩⟩ ((Mod.refl _ w).drew.alloc _) ⟨_, rfl, Nat.le_refl _⟩⟩
  · have hneg : ¬ ((k : Int) < 0) := by omega
    simp [Builtin.append_, run_underlying hE.under, run_underlying hti, sizeOf, typeInfo, zeroValue, hi, hz, asInt, asIntOf, hkw, hkb, hroom, h63', h48, Question.forced, hold, hneg, hpos, newRow, grownCap, Knd.enc, CK.enc]
  · simp [hsl]
  · have := Own.alloc' w.drew ((xs.flatMap enc).toArray ++ Builtin.zeroCells zv.cells k ++ Builtin.zeroCells zv.cells (grownCap w (sl + k) sc e - (sl + k))) e
    simpa [List.append_assoc, hnk] using this
  · rw [List.length_append, length_flatMap_enc henc, size_zeroC, hzs, List.length_append, List.length_replicate, ← hsl, ← Nat.add_mul]
    congr 1
    show sl + k + (grownCap w (sl + k) sc e - (sl + k)) = grownCap w (sl + k) sc e
    omega

/-! ### Parts of a slice over one's own block -/

theorem sliceAddr_zero (b : Option Addr) (c n : Nat) : sliceAddr b c 0 n = b := by
  unfold sliceAddr
  split
  · rfl
  · cases b with
    | none => rfl
    | some a => simp [Addr.add]
theorem sliceAddr_own {g c l n : Nat} (h : l < c) : sliceAddr (some ⟨g, 0, none⟩) c l n = some ⟨g, l * n, none⟩ := by
  unfold sliceAddr
  rw [if_neg (by omega)]
  simp [addr_lit]
theorem flat_take {α : Type} {enc : α → List Value} {n : Nat} (henc : ∀ x, (enc x).length = n) (xs : List α) (R : List Value) (i : Nat) (hi : i ≤ xs.length) : (xs.flatMap enc ++ R).take (i * n) = (xs.take i).flatMap enc := by
  have h1 : xs.flatMap enc = (xs.take i).flatMap enc ++ (xs.drop i).flatMap enc := by rw [← List.flatMap_append, List.take_append_drop]
  have h2 : ((xs.take i).flatMap enc).length = i * n := by rw [length_flatMap_enc henc, List.length_take, Nat.min_eq_left hi]
  rw [h1, List.append_assoc, ← h2, List.take_left]
theorem flat_drop {α : Type} {enc : α → List Value} {n : Nat} (henc : ∀ x, (enc x).length = n) (xs : List α) (R : List Value) (i : Nat) (hi : i ≤ xs.length) : (xs.flatMap enc ++ R).drop (i * n) = (xs.drop i).flatMap enc ++ R := by
  have h1 : xs.flatMap enc = (xs.take i).flatMap enc ++ (xs.drop i).flatMap enc := by rw [← List.flatMap_append, List.take_append_drop]
  have h2 : ((xs.take i).flatMap enc).length = i * n := by rw [length_flatMap_enc henc, List.length_take, Nat.min_eq_left hi]
  conv => lhs; rw [h1, List.append_assoc, ← h2, List.drop_left]
/-- Of two slices that lie apart none reaches into the other. -/
theorem overlaps_no {P : Program} {f : FuncId} {fn : Func} {t tR e : TypeId} {n : Nat} (hf : P.funcs[f]? = some fn) (hname : (fn.name == "runtime.NumGoroutine") = false) (hb : fn.body.isNone = true) (hn : Extern.findNext fn = none)
    (he : Extern.find fn = some (Extern.SlicesOverlaps.overlaps #[t, t] #[tR])) (ht : P.underlying t = some (.slice e)) (hz : (P.info? e).map (·.size) = some n) {w : World} {ga gb oa ob la ca lb cb : Nat} {ea eb : TypeId} {ca' cb' : List Value}
    (ha : Own w ga ea ca') (hb' : Own w gb eb cb') (hne : ga ≠ gb) (hpos : cb'.length ≠ 0) {K : Bool → World → Prop} (hK : K false w) :
    extD P (.c .bool) f [.slice (some ⟨ga, oa, none⟩) la ca, .slice (some ⟨gb, ob, none⟩) lb cb] w K := by
  have hsz : ∀ w, (sizeOf e).run P w = .ok n w := fun w => by
    cases hq : P.info? e with
    | none => rw [hq] at hz; cases hz
    | some i => rw [hq] at hz; cases hz; exact run_sizeOf' hq w
  refine ⟨false, w, ?_, hK⟩
  have hsa : w.shape? ga = some (ea, ca'.toArray.size) := by unfold World.shape?; rw [show w.heap[ga]? = _ from ha]
  have hsb : w.shape? gb = some (eb, cb'.toArray.size) := by unfold World.shape?; rw [show w.heap[gb]? = _ from hb']
  have fz : ∀ o, w.frozen? ⟨ga, o, none⟩ = false := fun o => by unfold World.frozen?; rw [show w.heap[ga]? = _ from ha]; simp
  rw [run_callFunc_extern hf hname hb hn he, Lib.run_overlaps_apart w t tR e ht n hsz ⟨ga, oa, none⟩ ⟨gb, ob, none⟩ la ca lb cb hne ea eb _ _ hsa hsb (by simpa using hpos) (fz _) (fz _)]
  rfl

end Go.Den
