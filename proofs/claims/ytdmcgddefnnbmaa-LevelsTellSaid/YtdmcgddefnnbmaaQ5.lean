/-
  Chapter 16's laws: what 'LevelsTell' computes is true.
-/
import Derived.Test.YtdmcgddefnnbmaaQ4
import Derived.Test.YtdmcgddefnnbmaaQ1
import Derived.Test.YtdmcgddefnnbmaaA3
import Derived.Test.YtdmcgddefnnbmaaQ3
namespace Go.Proofs.Ytdmcgddefnnbmaa
open Go Go.Den

theorem awake16_i {w : World} {Q : Bool → World → Prop} (hQ : ∀ w', Keep w w' → Q true w') : F_law16_awake w Q := by
  unfold F_law16_awake
  simp only [allocD]
  have k1 := Keep.alloc w (.cells #[Value.int .i64 (0 : Int), Value.int .i64 (1 : Int), Value.int .i64 (0 : Int), Value.int .i64 (1 : Int), Value.int .i64 (2 : Int), Value.int .i64 (0 : Int)] 55)
  refine built_i (by omega) (by omega) (rd_r3 (rows := [(0, 1, 0), (1, 2, 0)]) rfl 2 rfl (by omega)) (by simp) fun w2 H RH g s hH _ _ k2 _ => ?_
  have K2 := k1.tr k2
  have e1 : rankOf (bldN (3 : Int).toNat (netOf 3 [(0, 1, 0), (1, 2, 0)]) (3 : Int).toNat).rank 0 = 0 := by decide +kernel
  have e2 : rankOf (bldN (3 : Int).toNat (netOf 3 [(0, 1, 0), (1, 2, 0)]) (3 : Int).toNat).rank 5 = -1 := by decide +kernel
  have e3 : (upL (bldN (3 : Int).toNat (netOf 3 [(0, 1, 0), (1, 2, 0)]) (3 : Int).toNat).all (bldN (3 : Int).toNat (netOf 3 [(0, 1, 0), (1, 2, 0)]) (3 : Int).toNat).rank 0).length = 1 := by decide +kernel
  have e4 : 2 ≤ (bldN (3 : Int).toNat (netOf 3 [(0, 1, 0), (1, 2, 0)]) (3 : Int).toNat).all.length := by decide +kernel
  generalize (bldN (3 : Int).toNat (netOf 3 [(0, 1, 0), (1, 2, 0)]) (3 : Int).toNat).all = A at *
  generalize (bldN (3 : Int).toNat (netOf 3 [(0, 1, 0), (1, 2, 0)]) (3 : Int).toNat).rank = R at *
  refine cond_i (fun h => by simp at h) (fun _ => ?_)
  refine Rank_i hH ?_
  rw [e1]
  refine cond_i (fun _ => ?_) (fun h => by simp at h)
  refine Rank_i hH ?_
  rw [e2]
  refine cond_i (fun _ => ?_) (fun h => by simp at h)
  refine Up_i hH fun s1 w5 v5 k5 _ => ?_
  have l5 := v5.len
  refine cond_i (fun _ => ?_) (fun h => by rw [l5, e3] at h; simp at h)
  have h5 := hH.keep k5
  refine onSome_i rfl (ld1_i (k := .ptr) (some ⟨H.N.g, 0, none⟩) h5.c0 ?_)
  refine All_i h5.net (by have := h5.net.ok.len h5.net.sz; omega) fun s2 w6 v6 k6 _ => ?_
  have l6 := v6.len
  refine cond_d (fun _ => ?_) (fun h => by omega)
  refine Build_none ?_
  refine cond_i (fun _ => ?_) (fun h => by simp at h)
  refine Rank_none ?_
  refine cond_i (fun _ => ?_) (fun h => by simp at h)
  refine Up_none fun w9 k9 => ?_
  refine cond_i (fun _ => ?_) (fun h => by simp at h)
  refine Cuts_none ?_
  exact hQ w9 (((K2.tr k5).tr k6).tr k9)

theorem LevelsTell_i {n odd : Int} {l : Sl} {rows : List R3} {W : World} {Q : Bool → World → Prop} (hl : Rd W l 3 eR3 rows) (hQ : ∀ w', Keep W w' → Q true w') : F_law16_LevelsTell n l odd W Q := by
  unfold F_law16_LevelsTell
  have hll := hl.len
  refine cond_d (fun h => awake16_i hQ) (fun h1 => ?_)
  refine cond_d (fun h => awake16_i hQ) (fun h2 => ?_)
  refine cond_d (fun h => awake16_i hQ) (fun h3 => ?_)
  refine built_i (by omega) (by omega) hl (by omega) fun w4 H RH g s hH hRH hR k4 fH => ?_
  refine cond_i (fun h => by simp at h) (fun _ => ?_)
  refine made_i (by omega) (by omega) (hl.mod k4 eR3_ne fun _ _ => id) (by omega) fun w5 N g5 s5 hN _ _ k5 _ _ => ?_
  have hwt := fun e he => (netOf_w (n := n) (rows := rows) e he).1
  generalize netOf n rows = L at *
  obtain ⟨m, rfl⟩ : ∃ m : Nat, n = (m : Int) := ⟨n.toNat, by omega⟩
  simp only [Int.toNat_natCast] at *
  have hLl := hN.ok.len hN.sz
  have hAl := hH.net.ok.len hH.net.sz
  have hm512 := hN.sz
  generalize hA : (bldN m L m).all = A at *
  generalize hRk : (bldN m L m).rank = R at *
  refine cond_i (fun h => by simp at h) (fun _ => ?_)
  have d5 : Keep w5 w5.drew := Mod.drew (Mod.refl _ w5)
  have K5 := k5.tr d5
  refine Build_i (hN.keep d5) (by omega) hwt fun w6 H6 _ k6 _ => ?_
  refine cond_i (fun h => by simp at h) (fun _ => ?_)
  have K46 := K5.tr k6
  have hR6 := hR.keep K46
  refine onSome_i rfl (ld1_i (k := .slice) s hR6.c1 ?_)
  refine All_i ((hN.keep d5).keep k6) (by omega) fun s2 w7 v7 k7 _ => ?_
  have hR7 := hR6.keep k7
  refine ⟨hR7.c1, ?_⟩
  refine ArcsSame_i (v7.rd lenA) (hR7.vec.rd lenA) (by omega) fun r w8 k8 hr => ?_
  refine cond_i (fun hb => by rw [hr.2 rfl] at hb; cases hb) (fun _ => ?_)
  have K48 := (K46.tr k7).tr k8
  have h8 := hH.keep K48
  have r8 := hRH.keep K48
  have K8 := k4.tr K48
  refine loop_i (fun c t w9 => ∃ (i : Nat), i ≤ m ∧ c = m - i ∧ t = ((i : Int), ()) ∧ Keep w8 w9) m ⟨0, Nat.zero_le _, rfl, rfl, Mod.refl _ _⟩ ?_
  rintro c t w9 ⟨i, hi, rfl, rfl, k9⟩ X hX
  dsimp only
  have h9 := h8.keep k9
  have r9 := r8.keep k9
  refine cond_d (fun hlt => ?_) (fun hge => ?_)
  · have hi' : i < m := by omega
    have ul : (upL A R (i : Int)).length < 1099511627776 := by
      have h1 : (upL A R (i : Int)).length ≤ (outL A (i : Int)).length := List.length_filter_le _ _
      have h2 := hH.net.ok.out_len (i : Int)
      omega
    have dl : (downL A R (i : Int)).length < 1099511627776 := by
      have h1 : (downL A R (i : Int)).length ≤ (inL A (i : Int)).length := List.length_filter_le _ _
      have h2 := hH.net.ok.in_len (i : Int)
      omega
    refine Rank_i h9 (rRank_i r9 ?_)
    refine cond_i (fun h => by simp at h) (fun _ => ?_)
    refine Up_i h9 fun s3 w12 v12 k12 _ => ?_
    refine rUp_i (r9.keep k12) (by omega) (by omega) fun s4 w13 v13 k13 _ => ?_
    refine ArcsSame_i ((v12.mod k13 fun _ _ => id).rd lenA) (v13.rd lenA) ul fun r w14 k14 hr => ?_
    refine cond_i (fun hb => by rw [hr.2 rfl] at hb; cases hb) (fun _ => ?_)
    have K14 := (k12.tr k13).tr k14
    refine Down_i (h9.keep K14) fun s5 w15 v15 k15 _ => ?_
    refine rDown_i ((r9.keep K14).keep k15) (by omega) (by omega) fun s6 w16 v16 k16 _ => ?_
    refine ArcsSame_i ((v15.mod k16 fun _ _ => id).rd lenA) (v16.rd lenA) dl fun r w17 k17 hr => ?_
    refine cond_i (fun hb => by rw [hr.2 rfl] at hb; cases hb) (fun _ => ?_)
    rw [wi_ i (by omega)]
    exact hX _ _ _ (by omega) ⟨i + 1, hi', rfl, rfl, (((k9.tr K14).tr k15).tr k16).tr k17⟩
  · have d9 : Keep w9 w9.drew := Mod.drew (Mod.refl _ w9)
    have hd := h9.keep d9
    have rd := r9.keep d9
    refine onSome_i rfl (ld1_i (k := .ptr) (some ⟨H.N.g, 0, none⟩) hd.c0 (onSome_i rfl (ld1_i (k := .ptr) (some ⟨RH.g, 0, none⟩) rd.c0 (onSome_i rfl (ld1_i (k := .slice) RH.s rd.net.c1 ?_)))))
    refine All_i hd.net (by omega) fun s8 w18 v18 k18 _ => ?_
    have r18 := rd.keep k18
    refine ⟨r18.net.c1, r18.c0, ?_⟩
    refine ArcsSame_i (v18.rd lenA) (r18.net.vec.rd lenA) (by omega) fun r w19 k19 hr => ?_
    refine cond_i (fun _ => ?_) (fun hb => by rw [hr.2 rfl] at hb; cases hb)
    have h19 := (hd.keep k18).keep k19
    have r19 := r18.keep k19
    refine Cuts_i h19 fun w20 k20 => ?_
    have r20 := r19.keep k20
    refine rCuts_i r20 ?_
    refine cond_i (fun _ => ?_) (fun h => by simp at h)
    have h20 := h19.keep k20
    refine Rank_i h20 (rRank_i r20 ?_)
    refine cond_i (fun _ => ?_) (fun h => by simp at h)
    refine onSome_i rfl (ld1_i (k := .ptr) (some ⟨H.N.g, 0, none⟩) h20.c0 (Len_i h20.net ?_))
    refine cond_i (fun _ => ?_) (fun h => by simp at h)
    exact awake16_i fun w' k' => hQ w' ((((((K8.tr k9).tr d9).tr k18).tr k19).tr k20).tr k')
end Go.Proofs.Ytdmcgddefnnbmaa

/-
  The words that each of the seat's proofs opens with.
-/
namespace Go.Proofs.Ytdmcgddefnnbmaa
open Go Go.Den Go.ChangeShapes Go.WideShapes Go.ChangeAt Go.RowKit

theorem own : ownKnob Try.prog.godebug = none := by kernel_rfl
theorem laid : laidOutB Try.prog = true := by kernel_rfl
theorem call_of {g : FuncId} {T : Tr} (hS : Sound Try.prog g T) {args : List Value} {W : World} (h : T args W fun v w' => v = .bool true ∧ Since W w') : Calls Try.prog g args.toArray W fun e w' => e = .returned (.bool true) ∧ Since W w' :=
  (hS args W _ h).mono fun e w' ⟨v, he, hv, hs⟩ => ⟨by rw [he, hv], hs⟩
def arcOf : List Int → Arc
  | [f, t, w, m] => ⟨f, t, w, m⟩
  | _ => ⟨0, 0, 0, 0⟩
theorem arcOf_enc {r : List Int} (h : r.length = 4) : eArc (arcOf r) = r.map (Value.int .i64) := by
  match r, h with
  | [f, t, w, m], _ => rfl
set_option maxRecDepth 100000 in
theorem arg_arcs {H : Type} {enc : TypeId × Value → H} {W : World} {t b : Nat} {v : Value} {d : DataW H} {ps : List MemPlace} (ht : Try.prog.underlying t = some (.slice tArc)) (hval : Value.okWide Try.prog W .any b t v) (h : DataW.Trod enc Try.prog W 0 (fun _ => true) true t v d ps) :
    ∃ (s : Sl) (xs : List Arc), v = .slice s.b s.l s.c ∧ Rd W s 4 eArc xs := by
  obtain ⟨s, rows, rfl, hr, hl⟩ := arg_rows (m := 4) ht (by kernel_rfl) (by kernel_rfl) hval h
  exact ⟨s, rows.map arcOf, rfl, hr.map arcOf fun r hr => arcOf_enc (hl r hr)⟩
end Go.Proofs.Ytdmcgddefnnbmaa

/-
  Arguments: rows of three, of five, and whole numbers.
-/
namespace Go.Proofs.Ytdmcgddefnnbmaa
open Go Go.Den Go.ChangeShapes Go.WideShapes Go.ChangeAt Go.RowKit

def r3Of : List Int → R3
  | [x, y, z] => (x, y, z)
  | _ => (0, 0, 0)
theorem r3Of_enc {r : List Int} (h : r.length = 3) : eR3 (r3Of r) = r.map (Value.int .i64) := by
  match r, h with
  | [x, y, z], _ => rfl
def i1Of : List Int → Int
  | [x] => x
  | _ => 0
theorem i1Of_enc {r : List Int} (h : r.length = 1) : eI (i1Of r) = r.map (Value.int .i64) := by
  match r, h with
  | [x], _ => rfl
set_option maxRecDepth 100000 in
theorem arg_r3 {H : Type} {enc : TypeId × Value → H} {W : World} {t b : Nat} {v : Value} {d : DataW H} {ps : List MemPlace} (ht : Try.prog.underlying t = some (.slice tArr3)) (hval : Value.okWide Try.prog W .any b t v) (h : DataW.Trod enc Try.prog W 0 (fun _ => true) true t v d ps) :
    ∃ (s : Sl) (xs : List R3), v = .slice s.b s.l s.c ∧ Rd W s 3 eR3 xs := by
  obtain ⟨s, rows, rfl, hr, hl⟩ := arg_rows (m := 3) ht (by kernel_rfl) (by kernel_rfl) hval h
  exact ⟨s, rows.map r3Of, rfl, hr.map r3Of fun r hr => r3Of_enc (hl r hr)⟩
set_option maxRecDepth 100000 in
theorem arg_is {H : Type} {enc : TypeId × Value → H} {W : World} {t b : Nat} {v : Value} {d : DataW H} {ps : List MemPlace} (ht : Try.prog.underlying t = some (.slice tInt)) (hval : Value.okWide Try.prog W .any b t v) (h : DataW.Trod enc Try.prog W 0 (fun _ => true) true t v d ps) :
    ∃ (s : Sl) (xs : List Int), v = .slice s.b s.l s.c ∧ Rd W s 1 eI xs := by
  obtain ⟨s, rows, rfl, hr, hl⟩ := arg_rows (m := 1) ht (by kernel_rfl) (by kernel_rfl) hval h
  exact ⟨s, rows.map i1Of, rfl, hr.map i1Of fun r hr => i1Of_enc (hl r hr)⟩
end Go.Proofs.Ytdmcgddefnnbmaa

/-
  Arguments: bools.
-/
namespace Go.Proofs.Ytdmcgddefnnbmaa
open Go Go.Den Go.ChangeShapes Go.WideShapes Go.ChangeAt Go.RowKit
set_option maxRecDepth 100000 in
theorem arg_bs {H : Type} {enc : TypeId × Value → H} {W : World} {t b : Nat} {v : Value} {d : DataW H} {ps : List MemPlace} (ht : Try.prog.underlying t = some (.slice tBool)) (hval : Value.okWide Try.prog W .any b t v) (h : DataW.Trod enc Try.prog W 0 (fun _ => true) true t v d ps) :
    ∃ (s : Sl) (xs : List Bool), v = .slice s.b s.l s.c ∧ Rd W s 1 eB xs := arg_bools ht (by kernel_rfl) (by kernel_rfl) hval h
end Go.Proofs.Ytdmcgddefnnbmaa
