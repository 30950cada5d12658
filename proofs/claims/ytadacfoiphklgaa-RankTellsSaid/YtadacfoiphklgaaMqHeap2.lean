/-
  The program's heap: Push, Pop and Len, as a row by key, then by number.
-/
import Derived.Test.YtadacfoiphklgaaMqHeap
namespace Go.Proofs.Ytadacfoiphklgaa
open Go Go.Den

theorem qsrt_nodup {q : List It} (h : QSrt q) : q.Nodup := h.imp fun {x y} hxy e => by subst e; rw [itlt_irr] at hxy; cases hxy
theorem apart_nodup {xs : List It} (h : Apart xs) : xs.Nodup := by
  refine List.pairwise_iff_getElem.2 fun i j hi hj hij e => ?_
  have := h i j _ _ (List.getElem?_eq_getElem hi) (List.getElem?_eq_getElem hj) (by rw [e])
  omega
theorem same_len {q xs : List It} (h : q.Nodup) (h' : xs.Nodup) (hm : ∀ u, u ∈ q ↔ u ∈ xs) : xs.length = q.length := ((List.perm_ext_iff_of_nodup h h').2 hm).length_eq.symm

def HeapIs (w : World) (H : HS) (q : List It) : Prop := QSrt q ∧ ∃ xs f, HAt w H xs f ∧ HOk xs ∧ PlacesAll f xs ∧ (∀ u, u ∈ q ↔ u ∈ xs)
/-- .. or a new one. -/
def HeapAny (w : World) (H : HS) (q : List It) : Prop := HeapIs w H q ∨ (q = [] ∧ H.s = ⟨none, 0, 0⟩ ∧ H.r = H.g ∧ Own w H.g tHeap [sv ⟨none, 0, 0⟩, .map none])
section
variable {w : World} {H : HS} {q : List It}
theorem HeapIs.srt (h : HeapIs w H q) : QSrt q := h.1
theorem HeapIs.one (h : HeapIs w H q) : One q := by
  obtain ⟨_, xs, f, _, _, hp, hm⟩ := h
  exact fun x hx y hy e => hp.one x ((hm x).1 hx) y ((hm y).1 hy) e
theorem HeapIs.lt (h : HeapIs w H q) {k : Nat} (hk : H.has k) : k < w.heap.size := by obtain ⟨_, xs, f, h, _⟩ := h; exact h.lt hk
theorem HeapIs.mod {F : Nat → Prop} {w' : World} (h : HeapIs w H q) (m : Mod F w w') (hF : ∀ k, H.has k → ¬ F k) : HeapIs w' H q := by
  obtain ⟨h0, xs, f, h, r⟩ := h
  exact ⟨h0, xs, f, h.mod m hF, r⟩
theorem HeapAny.lt (h : HeapAny w H q) {k : Nat} (hk : H.has k) : k < w.heap.size := by
  rcases h with h | ⟨_, hs, hr, h⟩
  · exact h.lt hk
  · rcases hk with rfl | rfl | ⟨a, ha, _⟩
    · exact h.lt
    · rw [hr]; exact h.lt
    · rw [hs] at ha; cases ha
theorem HeapAny.mod {F : Nat → Prop} {w' : World} (h : HeapAny w H q) (m : Mod F w w') (hF : ∀ k, H.has k → ¬ F k) : HeapAny w' H q := h.imp (fun h => h.mod m hF) fun ⟨h0, hs, hr, h⟩ => ⟨h0, hs, hr, h.mod m (hF _ (.inl rfl))⟩
theorem HeapAny.keep {w' : World} (h : HeapAny w H q) (k : Keep w w') : HeapAny w' H q := h.mod k fun _ _ => id

theorem Len_h {Q : Int → World → Prop} (h : HeapAny w H q) (hQ : Q (q.length : Int) w) : F_heap_Heap_Len (some ⟨H.g, 0, none⟩) w Q := by
  unfold F_heap_Heap_Len
  refine cond_i (fun h => by simp at h) (fun _ => onSome_i rfl ?_)
  rcases h with ⟨h0, xs, f, h, _, hp, hm⟩ | ⟨rfl, hs, hr, h⟩
  · have := h.vec.len
    have hl := same_len (qsrt_nodup h0) (apart_nodup hp.apart) hm
    refine ld1_i (k := .slice) H.s h.c0 ?_
    rw [this, hl]; exact hQ
  · exact ld1_i (k := .slice) ⟨none, 0, 0⟩ (by rw [addr_lit, h.cell]; rfl) hQ

theorem push_mem_iff {v k : Int} (hl : lowQ q v k = false) (u : It) : u ∈ (pushQ q v k).1 ↔ u = ⟨v, k⟩ ∨ (u ∈ q ∧ u.id ≠ v) := by
  unfold pushQ
  rw [hl]
  simp only [Bool.false_eq_true, if_false]
  rw [mem_insQ, List.mem_filter]
  simp
theorem flat_set_key (rest : List Value) (k : Int) : ∀ (ys : List It) (i : Nat) (x : It), ys[i]? = some x → (ys.flatMap eIt ++ rest).set (i * 2 + 1) (.int .i64 k) = (ys.set i ⟨x.id, k⟩).flatMap eIt ++ rest
  | [], i, x, h => by simp at h
  | y :: ys, 0, x, h => by simp at h; subst h; rfl
  | y :: ys, i + 1, x, h => by
    simp at h
    have ih := flat_set_key rest k ys i x h
    have e : (i + 1) * 2 + 1 = (i * 2 + 1) + 2 := by omega
    rw [e]
    simp only [List.set_cons_succ, List.flatMap_cons, List.cons_append, List.nil_append]
    rw [ih]
theorem key_store {s : Sl} {ys : List It} {i : Nat} {x : It} {k : Int} {K : World → Prop} (h : Vec w tItem 2 eIt s ys) {a : Addr} (ha : s.b = some a) (hx : ys[i]? = some x)
    (hK : ∀ w', Vec w' tItem 2 eIt s (ys.set i ⟨x.id, k⟩) → Mod (fun k => k = a.block) w w' → K w') : storeD Try.prog tInt ((a.add (i * 2)).add 1) (.int .i64 k) w K := by
  rcases h.own with ⟨h1, _⟩ | ⟨g, rest, hb, ho, hl⟩
  · rw [h1] at ha; cases ha
  · rw [hb] at ha; cases ha
    have hi := (List.getElem?_eq_some_iff.1 hx).1
    have hfl := length_flatMap_enc lenIt ys
    rw [addr_lit, addr_lit, Nat.zero_add]
    refine storeD1_i ho size_Int (by rw [List.length_append, hfl]; omega) rfl rfl fun w' h2 h3 _ => hK w' ⟨by rw [List.length_set]; exact h.len, h.cap, h.max, .inr ⟨g, rest, hb, ?_, ?_⟩⟩ h3
    · rw [← flat_set_key rest k ys i x hx]; exact h2
    · rw [← hl, List.length_append, List.length_append, length_flatMap_enc lenIt, length_flatMap_enc lenIt, List.length_set]

theorem Push_i {vid key : Int} {Q : Bool → World → Prop} (h : HeapAny w H q) (hlen : q.length < 1000000)
    (hQ : ∀ w' H', HeapIs w' H' (pushQ q vid key).1 → H'.g = H.g → Mod H.has w w' → (∀ k, H'.has k → H.has k ∨ w.heap.size ≤ k) → Q (pushQ q vid key).2 w') : F_heap_Heap_Push (some ⟨H.g, 0, none⟩) vid key w Q := by
  unfold F_heap_Heap_Push
  refine cond_i (fun h => by simp at h) (fun _ => ?_)
  intro J hJ
  have core : ∀ w1 H1, HeapIs w1 H1 q → H1.g = H.g → Mod H.has w w1 → (∀ k, H1.has k → H.has k ∨ w.heap.size ≤ k) → J () w1 := by
    intro w1 H1 h1 hg1 m1 f1
    apply hJ
    rw [← hg1]
    obtain ⟨h0, xs, f, hA, hok, hp, hm⟩ := h1
    have hxl := same_len (qsrt_nodup h0) (apart_nodup hp.apart) hm
    have hsl := hA.vec.len
    have hone : One q := fun x hx y hy e => hp.one x ((hm x).1 hx) y ((hm y).1 hy) e
    obtain ⟨n, hmap⟩ := hA.map
    refine onSome_i rfl (ld1_i (k := .map) (some H1.r) hA.c1 ?_)
    refine lookup2_i (kn := knI) und_mIntInt keyInt (z := (0 : Int)) zero_int hmap vid ?_
    intro J2 hJ2
    have fin : ∀ (w3 : World) (H3 : HS) (ys : List It) (f3 : Int → Option Int) (i : Nat) (x : It), HAt w3 H3 ys f3 → ys[i]? = some x → x.id = vid → ys.length < 2000000 → UpI (ys.set i ⟨vid, key⟩) i → Places f3 (ys.set i ⟨vid, key⟩) i → Apart (ys.set i ⟨vid, key⟩) →
        (∀ u, u ∈ (pushQ q vid key).1 ↔ u ∈ ys.set i ⟨vid, key⟩) → lowQ q vid key = false → H3.g = H1.g → Mod H.has w w3 → (∀ k, H3.has k → H.has k ∨ w.heap.size ≤ k) → J2 ((i : Int), ()) w3 := by
      intro w3 H3 ys f3 i x hA3 hx hid hyl hup hpl hap hmem hlow hg3 m3 f3'
      apply hJ2
      have hi := (List.getElem?_eq_some_iff.1 hx).1
      obtain ⟨b, hb⟩ := hA3.base hi
      have hl3 := hA3.vec.len
      rw [← hg3]
      refine onSome_i rfl (ld1_i (k := .slice) H3.s hA3.c0 ⟨⟨by omega, by omega⟩, onSome_i hb ?_⟩)
      rw [Int.toNat_natCast]
      refine key_store (k := key) hA3.vec hb hx fun w4 v4 m4 => ?_
      rw [hid] at v4
      have bh : H3.has b.block := .inr (.inr ⟨b, hb, rfl⟩)
      have hA4 : HAt w4 H3 (ys.set i ⟨vid, key⟩) f3 := ⟨hA3.head.mod m4 (Ne.symm (hA3.sg b hb)), v4, by obtain ⟨n, hm⟩ := hA3.map; exact ⟨n, hm.mod m4 (Ne.symm (hA3.sr b hb))⟩, hA3.gr, hA3.sg, hA3.sr⟩
      have M : ∀ {wa wb : World} {G : Nat → Prop}, Mod H.has w wa → Mod G wa wb → (∀ k, G k → H3.has k) → Mod H.has w wb := fun ma mb hG => ma.trans mb fun k hk hGk => (f3' k (hG k hGk)).elim id fun h => absurd h (by omega)
      have m4' := M m3 m4 fun k hk => by rw [show k = b.block from hk]; exact bh
      refine up_i hA4 (by rw [List.length_set]; exact hi) (by rw [List.length_set]; omega) hup hpl hap fun w5 zs f5 hA5 hok5 hp5 hm5 hl5 m5 => ?_
      have hr : (pushQ q vid key).2 = true := by unfold pushQ; rw [hlow]; rfl
      rw [← hr]
      exact hQ w5 H3 ⟨push_srt h0 vid key, zs, f5, hA5, hok5, hp5, fun u => (hmem u).trans (hm5 u).symm⟩ (hg3.trans hg1) (M m4' m5 fun _ h => h) f3'
    cases hf : f vid with
    | none =>
      refine cond_i (fun _ => ?_) (fun h => by cases h)
      have hni : ∀ z ∈ xs, z.id ≠ vid := fun z hz e => by
        obtain ⟨j, hj⟩ := List.mem_iff_getElem?.1 hz
        have := hp.at_ j z hj
        rw [e, hf] at this; cases this
      have hlow : lowQ q vid key = false := by
        have : keyQ q vid = none := by
          cases hk : keyQ q vid with
          | none => rfl
          | some k => exact absurd rfl (hni _ ((hm _).1 (keyQ_some hk)))
        unfold lowQ; rw [this]
      refine onSome_i rfl (ld1_i (k := .slice) H1.s hA.c0 (onSome_i rfl (ld1_i (k := .slice) H1.s hA.c0 ?_)))
      simp only [allocD]
      have k1 := Keep.alloc w1 (.cells #[(.int .i64 vid), .int .i64 key] tItem)
      have hlit := Vec.lit w1 tItem eIt lenIt [(⟨vid, key⟩ : It)] #[(.int .i64 vid), .int .i64 key] rfl (by simp [maxLen])
      have hA' := hA.keep k1
      generalize w1.alloc (.cells #[Value.int .i64 vid, Value.int .i64 key] 93) = w6 at *
      refine append_i elem_sItem lenIt oneIt hA'.vec (hlit.rd lenIt) (by simp only [List.length_singleton]; omega) (by simp only [List.length_singleton]; omega) fun r w7 v7 m7 f7 hrn => ?_
      have hrb : ∃ b, r.b = some b := by
        obtain ⟨a, ha, _⟩ := (v7.rd lenIt).get xs.length ⟨vid, key⟩ (by simp)
        exact ⟨a, ha⟩
      have hgs : ¬ ∃ a, H1.s.b = some a ∧ H1.g = a.block := fun ⟨a, ha, e⟩ => hA.sg a ha e.symm
      have hrs : ¬ ∃ a, H1.s.b = some a ∧ H1.r = a.block := fun ⟨a, ha, e⟩ => hA.sr a ha e.symm
      have hgl : H1.g < w6.heap.size := hA'.lt (.inl rfl)
      have hrl : H1.r < w6.heap.size := hA'.lt (.inr (.inl rfl))
      have sep : ∀ a, r.b = some a → a.block ≠ H1.g ∧ a.block ≠ H1.r := fun a ha => by
        rcases f7 with e | ⟨a', e, hle⟩
        · exact ⟨hA.sg a (e ▸ ha), hA.sr a (e ▸ ha)⟩
        · rw [e] at ha; cases ha; exact ⟨by omega, by omega⟩
      refine onSome_i rfl ?_
      rw [addr_lit]
      refine storeD1_i (hA'.head.mod m7 hgs) size_sItem (by simp) rfl rfl fun w8 o8 m8 _ => ?_
      have hsl' : H1.s.l = xs.length := hsl
      rw [hsl']
      obtain ⟨n', hmap'⟩ := hA'.map
      have hA8 : HAt w8 ⟨H1.g, H1.r, r⟩ (xs ++ [⟨vid, key⟩]) f := ⟨o8, v7.mod m8 fun a ha => (sep a ha).1, ⟨n', (hmap'.mod m7 hrs).mod m8 hA.gr.symm⟩, hA.gr, fun a ha => (sep a ha).1, fun a ha => (sep a ha).2⟩
      have hset : (xs ++ [(⟨vid, key⟩ : It)]).set xs.length ⟨vid, key⟩ = xs ++ [⟨vid, key⟩] := by
        rw [List.set_append_right _ _ (Nat.le_refl _)]; simp
      have hget : ∀ (j : Nat) (z : It), (xs ++ [(⟨vid, key⟩ : It)])[j]? = some z → (j < xs.length ∧ xs[j]? = some z) ∨ (j = xs.length ∧ z = ⟨vid, key⟩) := fun j z hz => by
        by_cases hj : j < xs.length
        · rw [List.getElem?_append_left hj] at hz; exact .inl ⟨hj, hz⟩
        · rw [List.getElem?_append_right (by omega)] at hz
          have : j - xs.length = 0 := by have := (List.getElem?_eq_some_iff.1 hz).1; simp at this; omega
          rw [this] at hz
          simp at hz
          exact .inr ⟨by omega, hz.symm⟩
      have mw1 : Mod H.has w w6 := m1.tr k1.wk
      have has1 : ∀ k, H1.has k → k < w.heap.size → H.has k := fun k hk hlt => (f1 k hk).elim id fun h => by omega
      refine fin w8 ⟨H1.g, H1.r, r⟩ _ f xs.length ⟨vid, key⟩ hA8 (by simp) rfl (by simp; omega) ?_ ?_ ?_ ?_ hlow rfl ?_ ?_
      · rw [hset]
        refine ⟨fun j hj hjl u v hu hv => ?_, fun j hj hjl _ u v hu hv => ?_⟩
        · rcases hget j v hv with ⟨h1, h2⟩ | ⟨h1, _⟩
          · rcases hget _ u hu with ⟨h3, h4⟩ | ⟨h3, _⟩
            · exact hok j hj u v h4 h2
            · omega
          · omega
        · rcases hget j v hv with ⟨h1, h2⟩ | ⟨h1, _⟩ <;> omega
      · rw [hset]
        refine ⟨fun j z hj hz => ?_, fun v k hv => ?_⟩
        · rcases hget j z hz with ⟨_, h2⟩ | ⟨h1, _⟩
          · exact hp.at_ j z h2
          · omega
        · obtain ⟨z, hz, e⟩ := hp.dom v k hv
          exact ⟨z, by simp [hz], e⟩
      · rw [hset]
        intro i j x y hx hy e
        rcases hget i x hx with ⟨_, h2⟩ | ⟨h1, rfl⟩ <;> rcases hget j y hy with ⟨_, h4⟩ | ⟨h3, rfl⟩
        · exact hp.apart i j x y h2 h4 e
        · exact absurd e (hni x (List.mem_of_getElem? h2))
        · exact absurd e.symm (hni y (List.mem_of_getElem? h4))
        · omega
      · rw [hset]
        intro u
        rw [push_mem_iff hlow, List.mem_append, List.mem_singleton, hm]
        constructor
        · rintro (rfl | ⟨h, _⟩)
          · exact .inr rfl
          · exact .inl h
        · rintro (h | rfl)
          · exact .inr ⟨h, hni u h⟩
          · exact .inl rfl
      · refine (mw1.trans m7 fun k hk ⟨a, ha, e⟩ => has1 k (.inr (.inr ⟨a, ha, e⟩)) hk).trans m8 fun k hk e => has1 k (.inl e) hk
      · rintro k (rfl | rfl | ⟨a, ha, rfl⟩)
        · exact f1 _ (.inl rfl)
        · exact f1 _ (.inr (.inl rfl))
        · rcases f7 with e | ⟨a', e, hle⟩
          · exact f1 _ (.inr (.inr ⟨a, e ▸ ha, rfl⟩))
          · have ha' : r.b = some a := ha
            rw [e] at ha'; cases ha'
            exact .inr (Nat.le_trans mw1.size hle)
    | some v =>
      refine cond_i (fun h => by cases h) (fun _ => ?_)
      obtain ⟨z, hz, hzid⟩ := hp.dom vid v hf
      obtain ⟨j, hj⟩ := List.mem_iff_getElem?.1 hz
      have hvj : v = (j : Int) := by have := hp.at_ j z hj; rw [hzid, hf] at this; exact Option.some.inj this
      subst hvj
      show onSome _ _
      have hjl := (List.getElem?_eq_some_iff.1 hj).1
      have hkq : keyQ q vid = some z.key := by rw [← hzid]; exact keyQ_mem hone ((hm z).2 hz)
      obtain ⟨b, hb, hh⟩ := rd_it (hA.vec.rd lenIt) hj
      refine onSome_i rfl (ld1_i (k := .slice) H1.s hA.c0 ?_)
      have ej : ((some (j : Int) : Option Int).getD 0) = (j : Int) := rfl
      show (0 ≤ (j : Int) ∧ (j : Int) < _) ∧ _
      refine ⟨⟨by omega, by omega⟩, onSome_i hb (ld1_i (k := .int .i64) z.key hh.2.1 ?_)⟩
      refine cond_d (fun hge => ?_) (fun hlt => ?_)
      · have hlow : lowQ q vid key = true := by unfold lowQ; rw [hkq]; simpa using hge
        have e1 : (pushQ q vid key) = (q, false) := by unfold pushQ; rw [hlow]; rfl
        rw [e1] at hQ
        exact hQ w1 H1 ⟨h0, xs, f, hA, hok, hp, hm⟩ hg1 m1 f1
      · have hlow : lowQ q vid key = false := by unfold lowQ; rw [hkq]; simp; omega
        have hlt' : itlt ⟨vid, key⟩ z = true := itlt_iff.2 (.inl (by show key < z.key; omega))
        have hle := lt_le hlt'
        have zget : ∀ i, (xs.set j ⟨vid, key⟩)[i]? = if i = j then some ⟨vid, key⟩ else xs[i]? := fun i => by
          rw [List.getElem?_set]
          by_cases e : j = i
          · subst e; simp [hjl]
          · rw [if_neg e, if_neg (Ne.symm e)]
        refine fin w1 H1 xs f j z hA hj hzid (by omega) ?_ ?_ ?_ ?_ hlow rfl m1 f1
        · refine ⟨fun i hi hij u v hu hv => ?_, fun i hi hij hj0 u v hu hv => ?_⟩
          · rw [zget] at hu hv
            rw [if_neg hij] at hv
            by_cases e : (i - 1) / 2 = j
            · rw [if_pos e] at hu; cases hu
              exact le_trans' hle (hok i hi z v (by rw [e]; exact hj) hv)
            · rw [if_neg e] at hu; exact hok i hi u v hu hv
          · rw [zget, if_neg (by omega)] at hu hv
            exact le_trans' (hok j hj0 u z hu hj) (hok i hi z v (by rw [hij]; exact hj) hv)
        · refine ⟨fun i x hij hx => ?_, fun v k hv => ?_⟩
          · rw [zget, if_neg hij] at hx; exact hp.at_ i x hx
          · obtain ⟨y, hy, e⟩ := hp.dom v k hv
            obtain ⟨i, hi⟩ := List.mem_iff_getElem?.1 hy
            by_cases hij : i = j
            · subst hij
              rw [hj] at hi; cases hi
              exact ⟨⟨vid, key⟩, List.mem_iff_getElem?.2 ⟨i, by rw [zget, if_pos rfl]⟩, hzid.symm.trans e⟩
            · exact ⟨y, List.mem_iff_getElem?.2 ⟨i, by rw [zget, if_neg hij]; exact hi⟩, e⟩
        · have back : ∀ (i : Nat) (x : It), (xs.set j ⟨vid, key⟩)[i]? = some x → ∃ y, xs[i]? = some y ∧ y.id = x.id := fun i x hx => by
            rw [zget] at hx
            by_cases e : i = j
            · rw [if_pos e] at hx; cases hx; subst e; exact ⟨z, hj, hzid⟩
            · rw [if_neg e] at hx; exact ⟨x, hx, rfl⟩
          intro i i' x y hx hy e
          obtain ⟨x', h1, e1⟩ := back i x hx
          obtain ⟨y', h2, e2⟩ := back i' y hy
          exact hp.apart i i' x' y' h1 h2 (by rw [e1, e2, e])
        · intro u
          rw [push_mem_iff hlow]
          constructor
          · rintro (rfl | ⟨hu, hne⟩)
            · exact List.mem_iff_getElem?.2 ⟨j, by rw [zget, if_pos rfl]⟩
            · obtain ⟨i, hi⟩ := List.mem_iff_getElem?.1 ((hm u).1 hu)
              have : i ≠ j := fun e => by subst e; rw [hj] at hi; cases hi; exact hne hzid
              exact List.mem_iff_getElem?.2 ⟨i, by rw [zget, if_neg this]; exact hi⟩
          · intro hu
            obtain ⟨i, hi⟩ := List.mem_iff_getElem?.1 hu
            rw [zget] at hi
            by_cases e : i = j
            · rw [if_pos e] at hi; cases hi; exact .inl rfl
            · rw [if_neg e] at hi
              refine .inr ⟨(hm u).2 (List.mem_of_getElem? hi), fun e' => e ?_⟩
              exact hp.apart i j u z hi hj (by rw [e', hzid])
  rcases h with h | ⟨rfl, hs, hr, h⟩
  · obtain ⟨_, xs, f, hA, _⟩ := id h
    refine onSome_i rfl (ld1_i (k := .map) (some H.r) hA.c1 ?_)
    exact cond_i (fun h => by simp at h) (fun _ => core w H h rfl (Mod.refl _ _) fun k hk => .inl hk)
  · refine onSome_i rfl (ld1_i (k := .map) none (by rw [addr_lit, h.cell]; rfl) ?_)
    refine cond_i (fun _ => ?_) (fun h => by simp at h)
    refine mapNew_i (ek := ekI) (kn := knI) fun hm k1 => ?_
    have hlt := h.lt
    have hsz : (w.alloc (.map #[] 0)).heap.size = w.heap.size + 1 := by simp
    have h1 := h.mod k1 id
    generalize w.alloc (.map #[] 0) = w1 at *
    refine onSome_i rfl ?_
    rw [addr_lit]
    refine storeD1_i h1 size_mIntInt (by simp) rfl rfl fun w2 o2 m2 _ => ?_
    refine core w2 ⟨H.g, w.heap.size, ⟨none, 0, 0⟩⟩ ⟨List.Pairwise.nil, [], fun _ => none, ⟨o2, Vec.nil _ _ _ _, ⟨_, hm.mod m2 (by omega)⟩, by show H.g ≠ w.heap.size; omega, (fun a ha => by cases ha), (fun a ha => by cases ha)⟩, ?_, ⟨by simp, by simp⟩, by simp⟩ rfl (k1.wk.trans m2 fun k _ e => .inl e) ?_
    · intro j _ u v hu; simp at hu
    · rintro k (rfl | rfl | ⟨a, ha, _⟩)
      · exact .inl (.inl rfl)
      · exact .inr (Nat.le_refl _)
      · cases ha
end
end Go.Proofs.Ytadacfoiphklgaa
