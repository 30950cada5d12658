/-
  CheckEnds: what it computes.
-/
import Derived.Test.YtllhelkaligbdaaT
namespace Go.Proofs.Ytllhelkaligbdaa
open Go Go.Den

/-- A literal of bytes, and what was appended to it. -/
theorem join_i {w : World} {x y : Sl} {xs ys : List (BitVec 8)} (hx : Rd w x 1 eB xs) (hy : Rd w y 1 eB ys) (hl : xs.length + ys.length ≤ 9000) {K : Sl → World → Prop}
    (hK : ∀ s w', Since w w' → Rd w' s 1 eB (xs ++ ys) → K s w') :
    appendD Try.prog 22 22 ⟨some ⟨w.heap.size, 0, none⟩, 0, 0⟩ (.slice x.b x.l x.c) (w.alloc (.cells #[] 5)) fun s2 w2 => appendD Try.prog 22 22 s2 (.slice y.b y.l y.c) w2 K := by
  have k1 := Keep.alloc w (.cells #[] 5)
  have v0 : Vec (w.alloc (.cells #[] 5)) 5 1 eB ⟨some ⟨w.heap.size, 0, none⟩, 0, 0⟩ [] := Vec.lit w 5 eB (fun _ => rfl) [] #[] rfl (by simp)
  refine append_i elem22 (fun _ => rfl) (by simp [Value.oneCell']) v0 (hx.mod k1 (by simp) (fun _ _ => id)) (by simp; omega) (by simp; omega) fun s2 w2 hv2 hm2 hr2 _ => ?_
  have s1 : Since w w2 := k1.mod.trans hm2 fun j _ ⟨a, ha, hj⟩ => by cases ha; rw [hj]; exact Nat.le_refl _
  refine append_i elem22 (fun _ => rfl) (by simp [Value.oneCell']) hv2 (hy.later s1 (by simp)) (by simp; omega) (by simp; omega) fun s3 w3 hv3 hm3 hr3 _ => ?_
  refine hK _ _ (s1.trans hm3 fun j _ ⟨a, ha, hj⟩ => ?_) (by simpa using hv3.rd (fun _ => rfl))
  rw [hj]
  rcases hr2 with h | ⟨a', ha', hlt⟩
  · rw [ha] at h; cases h; exact Nat.le_refl _
  · rw [ha] at ha'; cases ha'; have := k1.size; omega

def byteAt (x : BitVec 32) (k : Nat) : BitVec 8 := BitVec.ofNat 8 (x.toNat / 2 ^ k)
theorem byteAt_int (x : BitVec 32) (k : Nat) (hk : k ≤ 32) : IntKind.wrap .u8 (Int.fdiv (x.toNat : Int) (2 ^ (min (Int.toNat (k : Int)) (IntKind.bits .u32)))) = (((byteAt x k).toNat : Nat) : Int) := by
  rw [IntKind.wrap_u8, byteAt, BitVec.toNat_ofNat]
  have : min (Int.toNat (k : Int)) (IntKind.bits .u32) = k := by simp [IntKind.bits]; omega
  rw [this, Int.fdiv_eq_ediv_of_nonneg _ (by exact Int.pow_nonneg (by omega))]
  rw [Int.natCast_emod, Int.natCast_ediv, Int.natCast_pow]
  rfl
theorem byteAt_int0 (x : BitVec 32) : IntKind.wrap .u8 (x.toNat : Int) = (((byteAt x 0).toNat : Nat) : Int) := by
  rw [IntKind.wrap_u8, byteAt, BitVec.toNat_ofNat]
  rw [Nat.pow_zero, Nat.div_one, Int.natCast_emod]
  rfl
def bytesOf (x : BitVec 32) : List (BitVec 8) := [byteAt x 24, byteAt x 16, byteAt x 8, byteAt x 0]
theorem bytesOf_inj {x y : BitVec 32} (h : sumOf (bytesOf x) = sumOf (bytesOf y)) : x = y := by
  obtain ⟨h1, h2, h3, h4⟩ := sumOf_four h
  have e : ∀ k, byteAt x k = byteAt y k → x.toNat / 2 ^ k % 256 = y.toNat / 2 ^ k % 256 := fun k hk => by
    have := congrArg BitVec.toNat hk
    simpa [byteAt] using this
  have a := e _ h1
  have b := e _ h2
  have c := e _ h3
  have d := e _ h4
  apply BitVec.eq_of_toNat_eq
  have := x.isLt
  have := y.isLt
  simp only [Nat.reducePow] at *
  omega

theorem CheckEnds_i {b : Sl} {n : Int} {x y : BitVec 32} {W : World} {Q : Bool → World → Prop} {bs : List (BitVec 8)} (hb : Rd W b 1 eB bs)
    (hQ : ∀ w', Since W w' → Q true w') : F_law2_CheckEnds b n (x.toNat : Int) (y.toNat : Int) W Q := by
  unfold F_law2_CheckEnds
  have hbl := hb.len
  refine cond_d (fun h => awake_i fun w' k => hQ _ k.mod) (fun hb1 => ?_)
  refine cond_d (fun h => awake_i fun w' k => hQ _ k.mod) (fun hn1 => ?_)
  refine cond_d (fun h => awake_i fun w' k => hQ _ k.mod) (fun hn2 => ?_)
  obtain ⟨m, rfl⟩ : ∃ m : Nat, n = (m : Int) := ⟨n.toNat, by omega⟩
  refine make_i elem22 (enc := eB) 0#8 rfl (fun _ => rfl) (by omega) (Int.le_refl _) (by omega) (by omega) fun w4 hz k4 => ?_
  generalize hs1 : (⟨some ⟨W.heap.size, 0, none⟩, (m : Int).toNat, (m : Int).toNat⟩ : Sl) = z at hz ⊢
  have rz := hz.rd (fun _ => rfl)
  clear hz hs1
  refine ⟨by omega, by omega, by omega, ?_⟩
  simp only [allocD]
  rw [show (24 : Int) = ((24 : Nat) : Int) from rfl, show (16 : Int) = ((16 : Nat) : Int) from rfl, show (8 : Int) = ((8 : Nat) : Int) from rfl]
  simp only [byteAt_int _ _ (show 24 ≤ 32 by omega), byteAt_int _ _ (show 16 ≤ 32 by omega), byteAt_int _ _ (show 8 ≤ 32 by omega), byteAt_int0]
  refine ⟨by omega, by omega, by omega, ?_⟩
  generalize hC5 : (#[Value.int .u8 (((byteAt x 24).toNat : Nat) : Int), Value.int .u8 (((byteAt x 16).toNat : Nat) : Int), Value.int .u8 (((byteAt x 8).toNat : Nat) : Int), Value.int .u8 (((byteAt x 0).toNat : Nat) : Int)] : Array Value) = C5
  generalize hC6 : (#[Value.int .u8 (((byteAt y 24).toNat : Nat) : Int), Value.int .u8 (((byteAt y 16).toNat : Nat) : Int), Value.int .u8 (((byteAt y 8).toNat : Nat) : Int), Value.int .u8 (((byteAt y 0).toNat : Nat) : Int)] : Array Value) = C6
  have k5 := Keep.alloc w4 (.cells C5 5)
  have rp : Rd (w4.alloc (.cells C5 5)) ⟨some ⟨w4.heap.size, 0, none⟩, 4, 4⟩ 1 eB (bytesOf x) := rd_row1 (alloc_new w4 _) (xs := bytesOf x) (Nat.le_refl _) (by subst hC5; rfl)
  generalize w4.alloc (.cells C5 5) = w5 at k5 rp ⊢
  have k6 := Keep.alloc w5 (.cells C6 5)
  have rq : Rd (w5.alloc (.cells C6 5)) ⟨some ⟨w5.heap.size, 0, none⟩, 4, 4⟩ 1 eB (bytesOf y) := rd_row1 (alloc_new w5 _) (xs := bytesOf y) (Nat.le_refl _) (by subst hC6; rfl)
  generalize w5.alloc (.cells C6 5) = w6 at k6 rq ⊢
  have rz6 := (rz.mod k5 (by simp) (fun _ _ => id)).mod k6 (by simp) (fun _ _ => id)
  have rp6 := rp.mod k6 (by simp) (fun _ _ => id)
  have k06 := (k4.tr k5).tr k6
  have rb6 := hb.mod k06 (by simp) (fun _ _ => id)
  generalize hp : (⟨some ⟨w4.heap.size, 0, none⟩, 4, 4⟩ : Sl) = p at rp6
  generalize hq : (⟨some ⟨w5.heap.size, 0, none⟩, 4, 4⟩ : Sl) = q at rq
  clear rz rp k5 k6 k4 hC5 hC6
  have k7 := Keep.alloc w6 (.cells #[Value.slice b.b b.l b.c, Value.slice z.b z.l z.c] 22)
  refine check_Sum_i (parts_i [(b, bs), (z, List.replicate m 0#8)] rfl) (fun r hr => ?_) (by simp) (fun r hr => ?_) ?_
  · simp at hr; rcases hr with rfl | rfl
    · exact rb6.mod k7 (by simp) (fun _ _ => id)
    · exact rz6.mod k7 (by simp) (fun _ _ => id)
  · simp at hr; rcases hr with rfl | rfl <;> simp <;> omega
  refine join_i (rb6.mod k7 (by simp) (fun _ _ => id)) (rz6.mod k7 (by simp) (fun _ _ => id)) (by simp; omega) fun s3 w8 t8 r3 => ?_
  refine ref1_Sum_i r3 (by simp; omega) ?_
  refine cond_i (fun _ => ?_) (fun h => by simp at h)
  have t8' : Since w6 w8 := k7.mod.trans t8 fun j hj h => Nat.le_trans k7.size h
  have k9 := Keep.alloc w8 (.cells #[Value.slice z.b z.l z.c, Value.slice b.b b.l b.c] 22)
  have rb8 := rb6.later t8' (by simp)
  have rz8 := rz6.later t8' (by simp)
  refine check_Sum_i (parts_i [(z, List.replicate m 0#8), (b, bs)] rfl) (fun r hr => ?_) (by simp) (fun r hr => ?_) ?_
  · simp at hr; rcases hr with rfl | rfl
    · exact rz8.mod k9 (by simp) (fun _ _ => id)
    · exact rb8.mod k9 (by simp) (fun _ _ => id)
  · simp at hr; rcases hr with rfl | rfl <;> simp <;> omega
  refine join_i (rz8.mod k9 (by simp) (fun _ _ => id)) (rb8.mod k9 (by simp) (fun _ _ => id)) (by simp; omega) fun s5 w10 t10 r5 => ?_
  refine ref1_Sum_i r5 (by simp; omega) ?_
  refine cond_i (fun _ => ?_) (fun h => by simp at h)
  have t10' : Since w6 w10 := (t8'.keep k9).trans t10 fun j hj h => Nat.le_trans (t8'.keep k9).size h
  have k11 := Keep.alloc w10 (.cells #[Value.slice p.b p.l p.c] 22)
  have rp10 := rp6.later t10' (by simp)
  have rq10 := rq.later t10' (by simp)
  subst hp
  refine check_Sum_i (parts_i [((⟨some ⟨w4.heap.size, 0, none⟩, 4, 4⟩ : Sl), bytesOf x)] rfl) (fun r hr => ?_) (by simp) (fun r hr => ?_) ?_
  · simp at hr; subst hr; exact rp10.mod k11 (by simp) (fun _ _ => id)
  · simp at hr; subst hr; simp [bytesOf]
  have k12 := Keep.alloc (w10.alloc (.cells #[Value.slice (some ⟨w4.heap.size, 0, none⟩) 4 4] 22)) (.cells #[Value.slice q.b q.l q.c] 22)
  subst hq
  refine check_Sum_i (parts_i [((⟨some ⟨w5.heap.size, 0, none⟩, 4, 4⟩ : Sl), bytesOf y)] rfl) (fun r hr => ?_) (by simp) (fun r hr => ?_) ?_
  · simp at hr; subst hr; exact (rq10.mod k11 (by simp) (fun _ _ => id)).mod k12 (by simp) (fun _ _ => id)
  · simp at hr; subst hr; simp [bytesOf]
  have tW : Since W ((w10.alloc (.cells #[Value.slice (some ⟨w4.heap.size, 0, none⟩) 4 4] 22)).alloc (.cells #[Value.slice (some ⟨w5.heap.size, 0, none⟩) 4 4] 22)) :=
    (Keep.mod k06).trans ((t10'.keep k11).keep k12) fun j hj h => Nat.le_trans k06.size h
  refine cond_i (fun _ => ?_) (fun h => ?_)
  · exact awake_i fun w' k => hQ _ (tW.keep k)
  · exfalso
    by_cases hxy : x = y
    · subst hxy; simp at h
    · have h1 : sumOf (bytesOf x) ≠ sumOf (bytesOf y) := fun h => hxy (bytesOf_inj h)
      have h2 : (sumOf (bytesOf x)).toNat ≠ (sumOf (bytesOf y)).toNat := fun h => h1 (BitVec.eq_of_toNat_eq h)
      have h3 : x.toNat ≠ y.toNat := fun h => hxy (BitVec.eq_of_toNat_eq h)
      have e1 : (((sumOf (bytesOf x)).toNat : Int) == ((sumOf (bytesOf y)).toNat : Int)) = false := by simpa using fun h : ((sumOf (bytesOf x)).toNat : Int) = _ => h2 (by omega)
      have e2 : ((x.toNat : Int) == (y.toNat : Int)) = false := by simpa using fun h : (x.toNat : Int) = _ => h3 (by omega)
      simp only [List.flatMap_cons, List.flatMap_nil, List.append_nil, e1, e2] at h
      simp at h

end Go.Proofs.Ytllhelkaligbdaa
