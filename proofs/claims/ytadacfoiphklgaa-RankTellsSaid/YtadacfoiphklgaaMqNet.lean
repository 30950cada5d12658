/-
  The program's net: how it lies in memory, and what its functions compute.
-/
import Derived.Test.YtadacfoiphklgaaMqSlices
namespace Go.Proofs.Ytadacfoiphklgaa
open Go Go.Den

abbrev sv (s : Sl) : Value := .slice s.b s.l s.c

/-- Where a net lies: its head, its two rows of rows, the rows. -/
structure NetS where
  g : Nat
  go : Nat
  gi : Nat
  rows : List Sl
def NetS.has (N : NetS) (k : Nat) : Prop := k = N.g ∨ k = N.go ∨ k = N.gi ∨ ∃ (i : Nat) (s : Sl) (a : Addr), N.rows[i]? = some s ∧ s.b = some a ∧ a.block = k
def NetS.ptr (N : NetS) : Addr := ⟨N.g, 0, none⟩
structure NetAt (w : World) (N : NetS) (n : Nat) (X : Nat → List Arc) : Prop where
  head : Own w N.g tNet [sv ⟨some ⟨N.go, 0, none⟩, n, n⟩, sv ⟨some ⟨N.gi, 0, none⟩, n, n⟩]
  outs : Own w N.go tsArc ((N.rows.take n).map sv)
  ins : Own w N.gi tsArc ((N.rows.drop n).map sv)
  len : N.rows.length = n + n
  row : ∀ (i : Nat) (s : Sl), N.rows[i]? = some s → Vec w tArc 4 eArc s (X i)
  sep : ∀ (i : Nat) (s : Sl) (a : Addr), N.rows[i]? = some s → s.b = some a → a.block ≠ N.g ∧ a.block ≠ N.go ∧ a.block ≠ N.gi
  dis : ∀ (i j : Nat) (s u : Sl) (a b : Addr), N.rows[i]? = some s → N.rows[j]? = some u → s.b = some a → u.b = some b → a.block = b.block → i = j
  hd : N.g ≠ N.go ∧ N.g ≠ N.gi ∧ N.go ≠ N.gi

section
variable {w w' : World} {N : NetS} {n : Nat} {X : Nat → List Arc}

theorem NetAt.lt (h : NetAt w N n X) {k : Nat} (hk : N.has k) : k < w.heap.size := by
  rcases hk with rfl | rfl | rfl | ⟨i, s, a, h1, h2, rfl⟩
  · exact h.head.lt
  · exact h.outs.lt
  · exact h.ins.lt
  · exact (h.row i s h1).lt h2
theorem NetAt.mod {F : Nat → Prop} (h : NetAt w N n X) (hm : Mod F w w') (hF : ∀ k, N.has k → ¬ F k) : NetAt w' N n X where
  head := h.head.mod hm (hF _ (.inl rfl))
  outs := h.outs.mod hm (hF _ (.inr (.inl rfl)))
  ins := h.ins.mod hm (hF _ (.inr (.inr (.inl rfl))))
  len := h.len
  row := fun i s hs => (h.row i s hs).mod hm fun a ha => hF _ (.inr (.inr (.inr ⟨i, s, a, hs, ha, rfl⟩)))
  sep := h.sep
  dis := h.dis
  hd := h.hd
theorem NetAt.keep (h : NetAt w N n X) (hm : Keep w w') : NetAt w' N n X := h.mod hm fun _ _ => id
theorem NetAt.c0 (h : NetAt w N n X) : w.cell? ((⟨N.g, 0, none⟩ : Addr).add 0) = some (sv ⟨some ⟨N.go, 0, none⟩, n, n⟩) := by rw [addr_lit, h.head.cell]; rfl
theorem NetAt.c1 (h : NetAt w N n X) : w.cell? ((⟨N.g, 0, none⟩ : Addr).add 1) = some (sv ⟨some ⟨N.gi, 0, none⟩, n, n⟩) := by rw [addr_lit, h.head.cell]; rfl
theorem NetAt.out (h : NetAt w N n X) {v : Nat} (hv : v < n) : ∃ s, N.rows[v]? = some s ∧ w.cell? ((⟨N.go, 0, none⟩ : Addr).add (v * 1)) = some (sv s) := by
  have hl := h.len
  refine ⟨N.rows[v], List.getElem?_eq_getElem (by omega), ?_⟩
  rw [addr_lit, h.outs.cell]
  simp [List.getElem?_take_of_lt hv, List.getElem?_eq_getElem (show v < N.rows.length by omega)]
theorem NetAt.inn (h : NetAt w N n X) {v : Nat} (hv : v < n) : ∃ s, N.rows[n + v]? = some s ∧ w.cell? ((⟨N.gi, 0, none⟩ : Addr).add (v * 1)) = some (sv s) := by
  have hl := h.len
  refine ⟨N.rows[n + v], List.getElem?_eq_getElem (by omega), ?_⟩
  rw [addr_lit, h.ins.cell]
  simp [List.getElem?_drop, List.getElem?_eq_getElem (show n + v < N.rows.length by omega)]

/-- One row is another one. -/
theorem NetAt.upd (h : NetAt w N n X) {i : Nat} {s s' : Sl} {xs : List Arc} (hs : N.rows[i]? = some s) (hv : Vec w' tArc 4 eArc s' xs) (ho : Own w' N.go tsArc (((N.rows.set i s').take n).map sv)) (hi : Own w' N.gi tsArc (((N.rows.set i s').drop n).map sv))
    (hm : Mod (fun k => (∃ a, s.b = some a ∧ k = a.block) ∨ k = N.go ∨ k = N.gi) w w') (hb : ∀ a, s'.b = some a → s'.b = s.b ∨ w.heap.size ≤ a.block) :
    NetAt w' { N with rows := N.rows.set i s' } n (fun j => if j = i then xs else X j) := by
  have hil : i < N.rows.length := (List.getElem?_eq_some_iff.1 hs).1
  have old : ∀ j u, (N.rows.set i s')[j]? = some u → (j = i ∧ u = s') ∨ (j ≠ i ∧ N.rows[j]? = some u) := by
    intro j u hj
    rw [List.getElem?_set] at hj
    by_cases hji : i = j
    · subst hji; simp [hil] at hj; exact .inl ⟨rfl, hj.symm⟩
    · rw [if_neg hji] at hj; exact .inr ⟨fun h => hji h.symm, hj⟩
  have hnew : ∀ a, s'.b = some a → (s.b = some a) ∨ (∀ k, N.has k → k ≠ a.block) := by
    intro a ha
    rcases hb a ha with h1 | h1
    · exact .inl (h1 ▸ ha)
    · exact .inr fun k hk => by have := h.lt hk; omega
  constructor
  · refine h.head.mod hm ?_
    rintro (⟨a, ha, hk⟩ | hk | hk)
    · exact (h.sep i s a hs ha).1 hk.symm
    · exact h.hd.1 hk
    · exact h.hd.2.1 hk
  · exact ho
  · exact hi
  · simpa using h.len
  · intro j u hj
    rcases old j u hj with ⟨rfl, rfl⟩ | ⟨hne, hj'⟩
    · simpa using hv
    · simp only [hne, if_false]
      refine (h.row j u hj').mod hm fun b hb' => ?_
      rintro (⟨a, ha, hk⟩ | hk | hk)
      · exact hne (h.dis j i u s b a hj' hs hb' ha hk)
      · exact (h.sep j u b hj' hb').2.1 hk
      · exact (h.sep j u b hj' hb').2.2 hk
  · intro j u a hj ha
    rcases old j u hj with ⟨rfl, rfl⟩ | ⟨hne, hj'⟩
    · rcases hnew a ha with h1 | h1
      · exact h.sep j s a hs h1
      · exact ⟨fun e => h1 _ (.inl rfl) e.symm, fun e => h1 _ (.inr (.inl rfl)) e.symm, fun e => h1 _ (.inr (.inr (.inl rfl))) e.symm⟩
    · exact h.sep j u a hj' ha
  · intro j k u x a b hj hk ha hb' he
    rcases old j u hj with ⟨rfl, rfl⟩ | ⟨hne, hj'⟩ <;> rcases old k x hk with ⟨rfl, rfl⟩ | ⟨hne', hk'⟩
    · rfl
    · rcases hnew a ha with h1 | h1
      · exact h.dis j k s x a b hs hk' h1 hb' he
      · exact absurd he.symm (h1 _ (.inr (.inr (.inr ⟨k, x, b, hk', hb', rfl⟩))))
    · rcases hnew b hb' with h1 | h1
      · exact h.dis j k u s a b hj' hs ha h1 he
      · exact absurd he (h1 _ (.inr (.inr (.inr ⟨j, u, a, hj', ha, rfl⟩))))
    · exact h.dis j k u x a b hj' hk' ha hb' he
  · exact h.hd
theorem NetS.has_set {i : Nat} {s s' : Sl} {P : Nat → Prop} (hs : N.rows[i]? = some s) (hb : ∀ a, s'.b = some a → s'.b = s.b ∨ P a.block) {k : Nat} (hk : ({ N with rows := N.rows.set i s' } : NetS).has k) : N.has k ∨ P k := by
  have hil : i < N.rows.length := (List.getElem?_eq_some_iff.1 hs).1
  rcases hk with hk | hk | hk | ⟨j, u, a, hj, ha, rfl⟩
  · exact .inl (.inl hk)
  · exact .inl (.inr (.inl hk))
  · exact .inl (.inr (.inr (.inl hk)))
  · simp only [List.getElem?_set] at hj
    by_cases hji : i = j
    · subst hji
      simp [hil] at hj
      subst hj
      rcases hb a ha with h1 | h1
      · exact .inl (.inr (.inr (.inr ⟨i, s, a, hs, h1 ▸ ha, rfl⟩)))
      · exact .inr h1
    · rw [if_neg hji] at hj
      exact .inl (.inr (.inr (.inr ⟨j, u, a, hj, ha, rfl⟩)))

/-- A row of arcs from a number is laid back. -/
theorem NetAt.putOut (h : NetAt w N n X) {v : Nat} (hv : v < n) {s s' : Sl} {xs : List Arc} (hs : N.rows[v]? = some s) (hvec : Vec w' tArc 4 eArc s' xs) (hm : Mod (fun k => ∃ a, s.b = some a ∧ k = a.block) w w') (hb : s'.b = s.b ∨ (∀ a, s'.b = some a → w.heap.size ≤ a.block))
    {K : World → Prop} (hK : ∀ w2, NetAt w2 { N with rows := N.rows.set v s' } n (fun j => if j = v then xs else X j) → Mod N.has w w2 → w2.heap.size = w'.heap.size → K w2) : storeD Try.prog tsArc ((⟨N.go, 0, none⟩ : Addr).add (v * 1)) (sv s') w' K := by
  have hl := h.len
  have hb' : ∀ a, s'.b = some a → s'.b = s.b ∨ w.heap.size ≤ a.block := fun a ha => hb.imp id fun h => h a ha
  have hns : ∀ k, (∃ a, s.b = some a ∧ k = a.block) → k ≠ N.go ∧ k ≠ N.gi := fun k ⟨a, ha, hk⟩ => by have := h.sep v s a hs ha; rw [hk]; exact this.2
  have ho := h.outs.mod hm fun hk => (hns _ hk).1 rfl
  have hi := h.ins.mod hm fun hk => (hns _ hk).2 rfl
  rw [addr_lit, Nat.zero_add, Nat.mul_one]
  refine storeD1_i ho size_sArc (by simp; omega) rfl rfl fun w2 ho2 hm2 hz => ?_
  have hall : Mod (fun k => (∃ a, s.b = some a ∧ k = a.block) ∨ k = N.go ∨ k = N.gi) w w2 := (hm.mono fun _ _ h => .inl h).tr (hm2.mono fun _ _ h => .inr (.inl h))
  refine hK w2 (h.upd hs (hvec.mod hm2 fun a ha he => ?_) ?_ ?_ hall hb') (hall.mono fun k _ hk => ?_) hz
  · rcases hb' a ha with h1 | h1
    · exact (h.sep v s a hs (h1 ▸ ha)).2.1 he
    · have := h.outs.lt; omega
  · rw [← List.map_set, ← List.take_set] at ho2; exact ho2
  · rw [List.drop_set_of_lt (by omega)]; exact hi.mod hm2 fun e => h.hd.2.2 e.symm
  · rcases hk with ⟨a, ha, hk⟩ | hk | hk
    · exact .inr (.inr (.inr ⟨v, s, a, hs, ha, hk.symm⟩))
    · exact .inr (.inl hk)
    · exact .inr (.inr (.inl hk))
theorem NetAt.putIn (h : NetAt w N n X) {v : Nat} (hv : v < n) {s s' : Sl} {xs : List Arc} (hs : N.rows[n + v]? = some s) (hvec : Vec w' tArc 4 eArc s' xs) (hm : Mod (fun k => ∃ a, s.b = some a ∧ k = a.block) w w') (hb : s'.b = s.b ∨ (∀ a, s'.b = some a → w.heap.size ≤ a.block))
    {K : World → Prop} (hK : ∀ w2, NetAt w2 { N with rows := N.rows.set (n + v) s' } n (fun j => if j = n + v then xs else X j) → Mod N.has w w2 → w2.heap.size = w'.heap.size → K w2) : storeD Try.prog tsArc ((⟨N.gi, 0, none⟩ : Addr).add (v * 1)) (sv s') w' K := by
  have hl := h.len
  have hb' : ∀ a, s'.b = some a → s'.b = s.b ∨ w.heap.size ≤ a.block := fun a ha => hb.imp id fun h => h a ha
  have hns : ∀ k, (∃ a, s.b = some a ∧ k = a.block) → k ≠ N.go ∧ k ≠ N.gi := fun k ⟨a, ha, hk⟩ => by have := h.sep (n + v) s a hs ha; rw [hk]; exact this.2
  have ho := h.outs.mod hm fun hk => (hns _ hk).1 rfl
  have hi := h.ins.mod hm fun hk => (hns _ hk).2 rfl
  rw [addr_lit, Nat.zero_add, Nat.mul_one]
  refine storeD1_i hi size_sArc (by simp; omega) rfl rfl fun w2 ho2 hm2 hz => ?_
  have hall : Mod (fun k => (∃ a, s.b = some a ∧ k = a.block) ∨ k = N.go ∨ k = N.gi) w w2 := (hm.mono fun _ _ h => .inl h).tr (hm2.mono fun _ _ h => .inr (.inr h))
  refine hK w2 (h.upd hs (hvec.mod hm2 fun a ha he => ?_) ?_ ?_ hall hb') (hall.mono fun k _ hk => ?_) hz
  · rcases hb' a ha with h1 | h1
    · exact (h.sep (n + v) s a hs (h1 ▸ ha)).2.2 he
    · have := h.ins.lt; omega
  · rw [List.take_set_of_le (by omega)]; exact ho.mod hm2 h.hd.2.2
  · rw [← List.map_set] at ho2
    have : (N.rows.drop n).set v s' = (N.rows.set (n + v) s').drop n := by rw [List.drop_set]; simp; omega
    rwa [this] at ho2
  · rcases hk with ⟨a, ha, hk⟩ | hk | hk
    · exact .inr (.inr (.inr ⟨n + v, s, a, hs, ha, hk.symm⟩))
    · exact .inr (.inl hk)
    · exact .inr (.inr (.inl hk))
end

/-! ### What may be -/

theorem isV_i {x : Int} {n : Nat} {b : Nat} {w : World} {K : Value → World → Prop} (hn : Own w b tInt [.int .i64 (n : Int)]) (hK : ∀ r : Bool, (r = true ↔ 0 ≤ x ∧ x < n) → K (.bool r) w) :
    callV Try.prog (.func (.func fn_net_Net_may_c1) #[] #[.pointer (some ⟨b, 0, none⟩)]) [.int .i64 x] w K := by
  refine callV_i S_net_Net_may_c1 (by kernel_rfl) (decK_intro (ks := [.c (.int .i64), .c .ptr]) (t := (x, some ⟨b, 0, none⟩, ())) ?_)
  show F_net_Net_may_c1 x (some ⟨b, 0, none⟩) w fun r w' => K (.bool r) w'
  unfold F_net_Net_may_c1
  refine cond_d (fun h => ?_) (fun h => ?_)
  · refine onSome_i rfl (ld1_i (k := .int .i64) (n : Int) (by rw [hn.cell]; rfl) (hK _ ?_))
    simp; omega
  · exact hK false (by simp; omega)

theorem may_i {g n : Nat} {si : Value} {o1 : Option Addr} {c1 : Nat} {a : Arc} {w : World} {Q : Bool → World → Prop} (hh : Own w g tNet [.slice o1 n c1, si]) (hQ : ∀ w' (r : Bool), Keep w w' → (r = true ↔ mayA n a) → Q r w') :
    F_net_Net_may (some ⟨g, 0, none⟩) (tupA a) w Q := by
  unfold F_net_Net_may
  simp only [allocD]
  have k1 := Keep.alloc w (.cells #[Value.int .i64 a.f, Value.int .i64 a.t, Value.int .i64 a.w, Value.int .i64 a.m] 42)
  have o1' : Own (w.alloc (.cells #[Value.int .i64 a.f, Value.int .i64 a.t, Value.int .i64 a.w, Value.int .i64 a.m] 42)) w.heap.size 42 (eArc a) := Own.alloc' w _ 42
  generalize hw1 : w.alloc (.cells #[Value.int .i64 a.f, Value.int .i64 a.t, Value.int .i64 a.w, Value.int .i64 a.m] 42) = w1 at *
  generalize hb1 : w.heap.size = b1 at *
  refine onSome_i rfl (ld1_i (k := .slice) ⟨o1, n, c1⟩ (by rw [addr_lit, (hh.mod k1 id).cell]; rfl) ?_)
  have k2 := Keep.alloc w1 (.cells #[Value.int .i64 0] 3)
  have o2 := Own.alloc' w1 #[Value.int .i64 0] 3
  have hlt : b1 < w1.heap.size := o1'.lt
  have o1'' := o1'.mod k2 id
  generalize w1.alloc (.cells #[Value.int .i64 0] 3) = w2 at *
  generalize hb2 : w1.heap.size = b2 at *
  refine storeD1_i o2 size_Int (by simp) rfl rfl fun w3 o3 m3 _ => ?_
  have oa := o1''.mod m3 (by omega)
  have on : Own w3 b2 tInt [.int .i64 (n : Int)] := o3
  have hk : Keep w w3 := Mod.fresh (k1.tr k2) m3 fun k hk => by omega
  have l0 : w3.cell? ((⟨b1, 0, none⟩ : Addr).add 0) = some (.int .i64 a.f) := by rw [addr_lit, oa.cell]; rfl
  have l1 : w3.cell? ((⟨b1, 0, none⟩ : Addr).add 1) = some (.int .i64 a.t) := by rw [addr_lit, oa.cell]; rfl
  have l2 : w3.cell? ((⟨b1, 0, none⟩ : Addr).add 2) = some (.int .i64 a.w) := by rw [addr_lit, oa.cell]; rfl
  have l3 : w3.cell? ((⟨b1, 0, none⟩ : Addr).add 3) = some (.int .i64 a.m) := by rw [addr_lit, oa.cell]; rfl
  intro J hJ
  have no : ¬ mayA n a → Q false w3 := fun h => hQ w3 false hk ⟨fun h => by simp at h, fun h' => absurd h' h⟩
  have hJ' : ∀ mid : Bool, (mid = true ↔ (a.m = -1 ∨ (0 ≤ a.m ∧ a.m < n ∧ a.m ≠ a.f ∧ a.m ≠ a.t))) → J (mid, ()) w3 := by
    intro mid hmid
    apply hJ
    refine ld1_i (k := .int .i64) a.f l0 ?_
    refine isV_i on fun r hr => ⟨r, rfl, ?_⟩
    refine cond_i (fun h => ?_) (fun h => no fun hm => ?_)
    · have h1 := hr.1 h
      refine ld1_i (k := .int .i64) a.t l1 ?_
      refine isV_i on fun r' hr' => ⟨r', rfl, ?_⟩
      refine cond_i (fun h => ?_) (fun h => no fun hm => ?_)
      · have h2 := hr'.1 h
        refine ld1_i (k := .int .i64) a.f l0 (ld1_i (k := .int .i64) a.t l1 ?_)
        refine cond_i (fun h => ?_) (fun h => no fun hm => ?_)
        · have h3 : a.f ≠ a.t := by simpa using h
          refine ld1_i (k := .int .i64) a.w l2 ?_
          refine cond_d (fun h4 => ?_) (fun h => no fun hm => ?_)
          · refine ld1_i (k := .int .i64) a.w l2 ?_
            refine cond_d (fun h5 => ?_) (fun h => no fun hm => ?_)
            · refine hQ w3 mid hk ?_
              rw [hmid]
              exact ⟨fun h => ⟨h1.1, h1.2, h2.1, h2.2, h3, h4, h5, h⟩, fun h => h.2.2.2.2.2.2.2⟩
            · exact h hm.2.2.2.2.2.2.1
          · exact h hm.2.2.2.2.2.1
        · have : a.f = a.t := by simpa using h
          exact hm.2.2.2.2.1 this
      · rw [hr'.2 ⟨hm.2.2.1, hm.2.2.2.1⟩] at h; cases h
    · rw [hr.2 ⟨hm.1, hm.2.1⟩] at h; cases h
  refine ld1_i (k := .int .i64) a.m l3 ?_
  refine cond_i (fun h => hJ' true ⟨fun _ => .inl (by simpa using h), fun _ => rfl⟩) (fun h => ?_)
  have hm1 : a.m ≠ -1 := by simpa using h
  refine ld1_i (k := .int .i64) a.m l3 ?_
  refine isV_i on fun r hr => ⟨r, rfl, ?_⟩
  refine cond_i (fun h => ?_) (fun h => hJ' false ⟨fun h => by simp at h, fun h' => ?_⟩)
  · have h1 := hr.1 h
    refine ld1_i (k := .int .i64) a.m l3 (ld1_i (k := .int .i64) a.f l0 ?_)
    refine cond_i (fun h => ?_) (fun h => hJ' false ⟨fun h => by simp at h, fun h' => ?_⟩)
    · have h2 : a.m ≠ a.f := by simpa using h
      refine ld1_i (k := .int .i64) a.m l3 (ld1_i (k := .int .i64) a.t l1 (hJ' _ ?_))
      constructor
      · intro h; exact .inr ⟨h1.1, h1.2, h2, by simpa using h⟩
      · rintro (h | h)
        · exact absurd h hm1
        · simpa using h.2.2.2
    · have h2 : a.m = a.f := by simpa using h
      rcases h' with h' | h'
      · exact absurd h' hm1
      · exact absurd h2 h'.2.2.1
  · rcases h' with h' | h'
    · exact absurd h' hm1
    · rw [hr.2 ⟨h'.1, h'.2.1⟩] at h; cases h

/-! ### The net -/

def rowsOf (n : Nat) (l : List Arc) (i : Nat) : List Arc := if i < n then outL l (i : Int) else inL l ((i : Int) - n)
structure NetIs (w : World) (N : NetS) (n : Nat) (l : List Arc) : Prop where
  at_ : NetAt w N n (rowsOf n l)
  ok : OkL n l
  sz : n ≤ 512

theorem NetIs.keep {w w' : World} {N : NetS} {n : Nat} {l : List Arc} (h : NetIs w N n l) (k : Keep w w') : NetIs w' N n l := ⟨h.at_.keep k, h.ok, h.sz⟩
theorem NetIs.mod {F : Nat → Prop} {w w' : World} {N : NetS} {n : Nat} {l : List Arc} (h : NetIs w N n l) (k : Mod F w w') (hF : ∀ k, N.has k → ¬ F k) : NetIs w' N n l := ⟨h.at_.mod k hF, h.ok, h.sz⟩
end Go.Proofs.Ytadacfoiphklgaa
