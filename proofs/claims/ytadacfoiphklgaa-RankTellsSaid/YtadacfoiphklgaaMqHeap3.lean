/-
  The program's heap: Pop.
-/
import Derived.Test.YtadacfoiphklgaaMqHeap2
namespace Go.Proofs.Ytadacfoiphklgaa
open Go Go.Den

section
variable {w : World} {H : HS} {q : List It}
theorem Pop_none {Q : Int → Int → Int → World → Prop} (h : HeapAny w H []) (hQ : Q 0 0 4 w) : F_heap_Heap_Pop (some ⟨H.g, 0, none⟩) w Q := by
  unfold F_heap_Heap_Pop
  refine Len_h h ?_
  exact cond_i (fun _ => hQ) (fun h => by simp at h)

theorem Pop_i {x : It} {Q : Int → Int → Int → World → Prop} (h : HeapIs w H (x :: q)) (hlen : q.length < 1000000)
    (hQ : ∀ w' H', HeapIs w' H' q → H'.g = H.g → (∀ k, H'.has k ↔ H.has k) → Mod H.has w w' → Q x.id x.key 0 w') : F_heap_Heap_Pop (some ⟨H.g, 0, none⟩) w Q := by
  unfold F_heap_Heap_Pop
  obtain ⟨h0, xs, f, hA, hok, hp, hm⟩ := id h
  have hxl := same_len (qsrt_nodup h0) (apart_nodup hp.apart) hm
  have hsl := hA.vec.len
  have hn : xs.length = q.length + 1 := by rw [hxl]; simp
  refine Len_h (.inl h) ?_
  refine cond_i (fun h => by simp at h; omega) (fun _ => ?_)
  -- the first one is the least
  obtain ⟨r, hr⟩ : ∃ r, xs[0]? = some r := ⟨_, List.getElem?_eq_getElem (by omega)⟩
  have hrx : r = x := by
    have h1 := (hm r).2 (List.mem_of_getElem? hr)
    rcases List.mem_cons.1 h1 with e | h1
    · exact e
    · have h2 := (List.pairwise_cons.1 h0).1 r h1
      obtain ⟨j, hj⟩ := List.mem_iff_getElem?.1 ((hm x).1 (by simp))
      have := hok.min hr j x hj
      rw [this] at h2; cases h2
  subst hrx
  obtain ⟨last, hlast⟩ : ∃ y, xs[xs.length - 1]? = some y := ⟨_, List.getElem?_eq_getElem (by omega)⟩
  have wr1 : IntKind.wrap .i64 (((H.s.l : Nat) : Int) - 1) = ((xs.length - 1 : Nat) : Int) := by rw [w64 (by omega) (by omega)]; omega
  have d0 : Keep w w.drew := Mod.drew (Mod.refl _ w)
  -- behind both copies
  intro J hJ
  have after : ∀ (w2 : World) (b1 b2 : Nat), Keep w w2 → w.heap.size ≤ b1 → w.heap.size ≤ b2 → Own w2 b1 tItem (eIt r) → Own w2 b2 tItem (eIt last) → J (some ⟨b1, 0, none⟩, some ⟨b2, 0, none⟩, ()) w2 := by
    intro w2 b1 b2 k2 lb1 lb2 o1 o2
    apply hJ
    dsimp only
    have d2 : Keep w2 w2.drew := Mod.drew (Mod.refl _ w2)
    have k2d := k2.tr d2
    have hA2 := hA.keep k2d
    have p1 := o1.mod d2 id
    have p2 := o2.mod d2 id
    have nb1 : ∀ k, H.has k → ¬ b1 = k := fun k hk e => by have := hA.lt hk; omega
    have nb2 : ∀ k, H.has k → ¬ b2 = k := fun k hk e => by have := hA.lt hk; omega
    refine onSome_i rfl (ld1_i (k := .slice) H.s hA2.c0 (onSome_i rfl (ld1_i (k := .slice) H.s hA2.c0 ?_)))
    rw [wr1, sliceAddr_zero, Int.toNat_natCast, Nat.sub_zero, Nat.sub_zero]
    have hcap := hA2.vec.cap
    refine ⟨⟨by omega, by omega⟩, onSome_i rfl ?_⟩
    rw [addr_lit]
    refine storeD1_i hA2.head size_sItem (by simp) rfl rfl fun w3 o3 m3 _ => ?_
    have d3 : Keep w3 w3.drew := Mod.drew (Mod.refl _ w3)
    have gm : ∀ k, k = H.g → H.has k := fun k e => .inl e
    have hv3 : Vec w3.drew tItem 2 eIt ⟨H.s.b, xs.length - 1, H.s.c⟩ (xs.take (xs.length - 1)) := ((hA2.vec.mod m3 fun a ha => hA.sg a ha).mod d3 (fun _ _ => id)).take (by omega)
    obtain ⟨n, hmap⟩ := hA2.map
    have hmap3 := (hmap.mod m3 (Ne.symm hA.gr)).mod d3 id
    have o3' : Own w3.drew H.g tHeap [sv ⟨H.s.b, xs.length - 1, H.s.c⟩, .map (some H.r)] := o3
    have q1 := (p1.mod m3 (nb1 _ (.inl rfl))).mod d3 id
    have q2 := (p2.mod m3 (nb2 _ (.inl rfl))).mod d3 id
    have M3 : Mod H.has w w3.drew := (k2d.wk.trans m3 fun k _ e => gm k e).tr d3.wk
    refine onSome_i rfl (ld1_i (k := .map) (some H.r) (by rw [addr_lit, o3'.cell]; rfl) (onSome_i rfl (ld1_i (k := .int .i64) r.id (by rw [addr_lit, q1.cell]; rfl) ?_)))
    refine delete_i (kn := knI) und_mIntInt keyInt hmap3 r.id fun w4 hm4 m4 _ => ?_
    have o4 := o3'.mod m4 hA.gr
    have hv4 := hv3.mod m4 fun a ha => hA.sr a ha
    have M4 : Mod H.has w w4 := M3.trans m4 fun k _ e => .inr (.inl e)
    have r1 := q1.mod m4 (nb1 _ (.inr (.inl rfl)))
    have r2 := q2.mod m4 (nb2 _ (.inr (.inl rfl)))
    have d4 : Keep w4 w4.drew := Mod.drew (Mod.refl _ w4)
    have has' : ∀ (k : Nat), HS.has ⟨H.g, H.r, ⟨H.s.b, xs.length - 1, H.s.c⟩⟩ k ↔ H.has k := fun k => Iff.rfl
    have hq' : QSrt q := (List.pairwise_cons.1 h0).2
    have hrq : r ∉ q := fun h => by have := (List.pairwise_cons.1 h0).1 r h; rw [itlt_irr] at this; cases this
    have memq : ∀ u, u ∈ q ↔ u ∈ xs ∧ u ≠ r := fun u => by
      rw [← hm u, List.mem_cons]
      constructor
      · intro h; exact ⟨.inr h, fun e => hrq (e ▸ h)⟩
      · rintro ⟨h | h, hne⟩
        · exact absurd h hne
        · exact h
    refine onSome_i rfl (ld1_i (k := .slice) ⟨H.s.b, xs.length - 1, H.s.c⟩ (by rw [addr_lit, o4.cell]; rfl) ?_)
    refine cond_d (fun hpos => ?_) (fun hneg => ?_)
    · have hpos' : 0 < xs.length - 1 := by simpa using hpos
      have ytake : ∀ j, j < xs.length - 1 → (xs.take (xs.length - 1))[j]? = xs[j]? := fun j hj => List.getElem?_take_of_lt hj
      have hA4 : HAt w4.drew ⟨H.g, H.r, ⟨H.s.b, xs.length - 1, H.s.c⟩⟩ (xs.take (xs.length - 1)) (fun y => if y = r.id then none else f y) := ⟨o4.mod d4 id, hv4.mod d4 (fun _ _ => id), ⟨_, hm4.mod d4 id⟩, hA.gr, hA.sg, hA.sr⟩
      have ltake : (xs.take (xs.length - 1)).length = xs.length - 1 := by simp
      obtain ⟨b, hb⟩ := hA4.base (i := 0) (by omega)
      refine onSome_i rfl (ld1_i (k := .slice) ⟨H.s.b, xs.length - 1, H.s.c⟩ hA4.c0 (onSome_i rfl (ldN_i (tupI last) (own_it (r2.mod d4 id)) ⟨⟨by omega, by show (0 : Int) < ((xs.length - 1 : Nat) : Int); omega⟩, onSome_i hb ?_⟩)))
      refine hA4.vec.store lenIt hb (i := 0) (by omega) last (v := itV last) rfl size_Item (oneIt last) fun w5 v5 m5 _ => ?_
      have hA5 : HAt w5 ⟨H.g, H.r, ⟨H.s.b, xs.length - 1, H.s.c⟩⟩ ((xs.take (xs.length - 1)).set 0 last) (fun y => if y = r.id then none else f y) :=
        ⟨hA4.head.mod m5 (Ne.symm (hA.sg b hb)), v5, by obtain ⟨n, hm⟩ := hA4.map; exact ⟨n, hm.mod m5 (Ne.symm (hA.sr b hb))⟩, hA.gr, hA.sg, hA.sr⟩
      have bh : H.has b.block := .inr (.inr ⟨b, hb, rfl⟩)
      have M5 : Mod H.has w w5 := (M4.tr d4.wk).trans m5 fun k _ e => by rw [show k = b.block from e]; exact bh
      have yget : ∀ j z, ((xs.take (xs.length - 1)).set 0 last)[j]? = some z → (j = 0 ∧ z = last) ∨ (j ≠ 0 ∧ j < xs.length - 1 ∧ xs[j]? = some z) := fun j z hz => by
        have hjl := (List.getElem?_eq_some_iff.1 hz).1
        rw [List.length_set, ltake] at hjl
        rw [List.getElem?_set] at hz
        by_cases e : 0 = j
        · subst e; rw [if_pos rfl, if_pos (by omega)] at hz; cases hz; exact .inl ⟨rfl, rfl⟩
        · rw [if_neg e, ytake j hjl] at hz; exact .inr ⟨Ne.symm e, hjl, hz⟩
      have yput0 : ((xs.take (xs.length - 1)).set 0 last)[0]? = some last := by rw [List.getElem?_set, if_pos rfl, if_pos (by omega)]
      have yput : ∀ j z, j ≠ 0 → j < xs.length - 1 → xs[j]? = some z → ((xs.take (xs.length - 1)).set 0 last)[j]? = some z := fun j z hj hjl hz => by
        rw [List.getElem?_set, if_neg (Ne.symm hj), ytake j hjl]; exact hz
      have ne0 : ∀ j z, j ≠ 0 → xs[j]? = some z → z.id ≠ r.id := fun j z hj hz e => hj (hp.apart j 0 z r hz hr e)
      have hne : last.id ≠ r.id := ne0 _ _ (by omega) hlast
      refine down_i (H := ⟨H.g, H.r, ⟨H.s.b, xs.length - 1, H.s.c⟩⟩) hA5 (by rw [List.length_set]; omega) (by rw [List.length_set]; omega) ⟨fun j hj hj0 u v hu hv => ?_, fun j _ _ h0 => by omega⟩ ⟨fun j z hj hz => ?_, fun v k hv => ?_⟩ ?_ fun w6 zs f6 hA6 hok6 hp6 hm6 hl6 m6 => ?_
      · rcases yget _ _ hu with ⟨h1, _⟩ | ⟨_, _, h1⟩
        · omega
        · rcases yget _ _ hv with ⟨h2, _⟩ | ⟨_, _, h2⟩
          · omega
          · exact hok j hj u v h1 h2
      · rcases yget _ _ hz with ⟨h1, _⟩ | ⟨_, _, h1⟩
        · omega
        · rw [if_neg (ne0 j z hj h1)]; exact hp.at_ j z h1
      · by_cases e : v = r.id
        · rw [if_pos e] at hv; cases hv
        · rw [if_neg e] at hv
          obtain ⟨z, hz, ez⟩ := hp.dom v k hv
          obtain ⟨j, hj⟩ := List.mem_iff_getElem?.1 hz
          have hjl := (List.getElem?_eq_some_iff.1 hj).1
          have hj0 : j ≠ 0 := fun e0 => by subst e0; rw [hr] at hj; cases hj; exact e ez.symm
          by_cases hjn : j = xs.length - 1
          · subst hjn
            rw [hlast] at hj; cases hj
            exact ⟨last, List.mem_of_getElem? yput0, ez⟩
          · exact ⟨z, List.mem_of_getElem? (yput j z hj0 (by omega) hj), ez⟩
      · intro i j a b ha hb e
        rcases yget _ _ ha with ⟨h1, rfl⟩ | ⟨h1, h1', h2⟩ <;> rcases yget _ _ hb with ⟨h3, rfl⟩ | ⟨h3, h3', h4⟩
        · omega
        · have := hp.apart _ _ _ _ hlast h4 e; omega
        · have := hp.apart _ _ _ _ h2 hlast e; omega
        · exact hp.apart _ _ _ _ h2 h4 e
      · have M6 : Mod H.has w w6.drew := ((M5.trans m6 fun k _ hk => hk)).tr (Mod.drew (Mod.refl _ w6))
        have d6 : Keep w6 w6.drew := Mod.drew (Mod.refl _ w6)
        have s1 := (((r1.mod d4 id).mod m5 (nb1 _ bh)).mod m6 fun hk => nb1 _ hk rfl).mod d6 id
        refine onSome_i rfl (ld1_i (k := .int .i64) r.id (by rw [addr_lit, s1.cell]; rfl) (onSome_i rfl (ld1_i (k := .int .i64) r.key (by rw [addr_lit, s1.cell]; rfl) ?_)))
        refine hQ _ ⟨H.g, H.r, ⟨H.s.b, xs.length - 1, H.s.c⟩⟩ ⟨hq', zs, f6, hA6.keep d6, hok6, hp6, fun u => ?_⟩ rfl has' M6
        rw [hm6 u, memq u]
        constructor
        · rintro ⟨hu, hne'⟩
          obtain ⟨j, hj⟩ := List.mem_iff_getElem?.1 hu
          have hjl := (List.getElem?_eq_some_iff.1 hj).1
          have hj0 : j ≠ 0 := fun e0 => by subst e0; rw [hr] at hj; cases hj; exact hne' rfl
          by_cases hjn : j = xs.length - 1
          · subst hjn
            rw [hlast] at hj; cases hj
            exact List.mem_of_getElem? yput0
          · exact List.mem_of_getElem? (yput j u hj0 (by omega) hj)
        · intro hu
          obtain ⟨j, hj⟩ := List.mem_iff_getElem?.1 hu
          rcases yget _ _ hj with ⟨_, rfl⟩ | ⟨h1, _, h2⟩
          · exact ⟨List.mem_of_getElem? hlast, fun e => hne (by rw [e])⟩
          · exact ⟨List.mem_of_getElem? h2, fun e => ne0 j u h1 h2 (by rw [e])⟩
    · have hn1 : xs.length = 1 := by
        have : ¬ ((xs.length - 1 : Nat) : Int) > 0 := hneg
        omega
      have hq0 : q = [] := List.eq_nil_of_length_eq_zero (by omega)
      have s1 := r1.mod d4 id
      refine onSome_i rfl (ld1_i (k := .int .i64) r.id (by rw [addr_lit, s1.cell]; rfl) (onSome_i rfl (ld1_i (k := .int .i64) r.key (by rw [addr_lit, s1.cell]; rfl) ?_)))
      have t0 : xs.take (xs.length - 1) = [] := by rw [hn1]; rfl
      rw [t0] at hv4
      refine hQ _ ⟨H.g, H.r, ⟨H.s.b, xs.length - 1, H.s.c⟩⟩ ⟨hq', [], _, ⟨o4.mod d4 id, hv4.mod d4 (fun _ _ => id), ⟨_, hm4.mod d4 id⟩, hA.gr, hA.sg, hA.sr⟩, fun j _ u v hu => by simp at hu, ⟨by simp, fun v k hv => ?_⟩, by rw [hq0]; simp⟩ rfl has' (M4.tr d4.wk)
      replace hv : (if v = r.id then none else f v) = some k := hv
      by_cases e : v = r.id
      · rw [if_pos e] at hv; cases hv
      · rw [if_neg e] at hv
        obtain ⟨z, hz, ez⟩ := hp.dom v k hv
        obtain ⟨j, hj⟩ := List.mem_iff_getElem?.1 hz
        have hjl := (List.getElem?_eq_some_iff.1 hj).1
        have : j = 0 := by omega
        subst this
        rw [hr] at hj; cases hj
        exact absurd ez.symm e
  -- the copies, in either order
  have hAd := hA.keep d0
  obtain ⟨b, hb, hh⟩ := rd_it (hAd.vec.rd lenIt) hr
  obtain ⟨b', hb', hh'⟩ := rd_it (hAd.vec.rd lenIt) hlast
  refine onSome_i rfl (ld1_i (k := .slice) H.s hAd.c0 ⟨⟨by omega, by omega⟩, onSome_i hb (ldN_i (tupI r) hh ?_)⟩)
  refine onSome_i rfl (ld1_i (k := .slice) H.s hAd.c0 (onSome_i rfl (ld1_i (k := .slice) H.s hAd.c0 ?_)))
  rw [wr1, Int.toNat_natCast]
  refine ⟨⟨by omega, by omega⟩, onSome_i hb' (ldN_i (tupI last) hh' ?_)⟩
  simp only [allocD]
  have zc : (#[Value.int .i64 (0 : Int), Value.int .i64 (0 : Int)] : Array Value) = #[.int .i64 0, .int .i64 0] := rfl
  have kA := Keep.alloc w.drew (.cells #[Value.int .i64 (0 : Int), Value.int .i64 (0 : Int)] 93)
  have oA : Own (w.drew.alloc (.cells #[Value.int .i64 (0 : Int), Value.int .i64 (0 : Int)] 93)) w.drew.heap.size tItem (eIt ⟨0, 0⟩) := Own.alloc' w.drew _ _
  have sA : (w.drew.alloc (.cells #[Value.int .i64 (0 : Int), Value.int .i64 (0 : Int)] 93)).heap.size = w.heap.size + 1 := by simp
  generalize w.drew.alloc (.cells #[Value.int .i64 (0 : Int), Value.int .i64 (0 : Int)] 93) = wA at *
  have kB := Keep.alloc wA (.cells #[Value.int .i64 (0 : Int), Value.int .i64 (0 : Int)] 93)
  have oB : Own (wA.alloc (.cells #[Value.int .i64 (0 : Int), Value.int .i64 (0 : Int)] 93)) wA.heap.size tItem (eIt ⟨0, 0⟩) := Own.alloc' wA _ _
  generalize wA.alloc (.cells #[Value.int .i64 (0 : Int), Value.int .i64 (0 : Int)] 93) = wB at *
  have hA_ := hAd.keep kA
  have hB_ := hA_.keep kB
  have szd : w.drew.heap.size = w.heap.size := rfl
  rw [szd] at oA ⊢
  have cellsOf : ∀ {wx : World}, HAt wx H xs f → HoldsAt wx (b.add (Int.toNat (0 : Int) * 2)) 0 [Value.int .i64 r.id, Value.int .i64 r.key] ∧ HoldsAt wx (b'.add ((xs.length - 1) * 2)) 0 [Value.int .i64 last.id, Value.int .i64 last.key] ∧ wx.cell? ((⟨H.g, 0, none⟩ : Addr).add 0) = some (.slice H.s.b H.s.l H.s.c) := fun {wx} hx => by
    obtain ⟨c, hc, h1⟩ := rd_it (hx.vec.rd lenIt) hr
    obtain ⟨c', hc', h2⟩ := rd_it (hx.vec.rd lenIt) hlast
    rw [hb] at hc; cases hc
    rw [hb'] at hc'; cases hc'
    exact ⟨h1, h2, hx.c0⟩
  obtain ⟨a1, a2, a3⟩ := cellsOf hA_
  obtain ⟨b1, b2, b3⟩ := cellsOf hB_
  have kAB : Keep w wB := (d0.tr kA).tr kB
  have oA' := oA.mod kB id
  have lA : ∀ k, H.has k → ¬ k = w.heap.size := fun k hk e => by have := hA.lt hk; omega
  have lB : ∀ k, H.has k → ¬ k = wA.heap.size := fun k hk e => by have := hA.lt hk; omega
  constructor
  · refine ⟨a2, a3, a3, a1, a3, b2, b3, b3, b1, b3, ?_⟩
    refine item_store (x := r) oA' rfl fun w9 o9 m9 => ?_
    obtain ⟨c1, c2, c3⟩ := cellsOf (hB_.mod m9 lA)
    refine ⟨c2, c3, c3, ?_⟩
    refine item_store (x := last) (oB.mod m9 (by omega)) rfl fun w10 o10 m10 => ?_
    refine after w10 _ _ ((Mod.fresh kAB m9 fun k e => by omega).fresh m10 fun k e => by omega) (Nat.le_refl _) (by omega) (o9.mod m10 (by omega)) o10
  · refine ⟨a2, a3, a3, a1, a3, b2, b3, b3, b1, b3, ?_⟩
    refine item_store (x := r) oB rfl fun w9 o9 m9 => ?_
    obtain ⟨c1, c2, c3⟩ := cellsOf (hB_.mod m9 lB)
    refine ⟨c2, c3, c3, ?_⟩
    refine item_store (x := last) (oA'.mod m9 (by omega)) rfl fun w10 o10 m10 => ?_
    refine after w10 _ _ ((Mod.fresh kAB m9 fun k e => by omega).fresh m10 fun k e => by omega) (by omega) (Nat.le_refl _) (o9.mod m10 (by omega)) o10
end
end Go.Proofs.Ytadacfoiphklgaa
