/-
  The numbers of the seat's types.
-/
import Derived.Test.YtlflndnfgeeieaaFBase
import Derived.Test.YtlflndnfgeeieaaMpRaw
namespace Go.Proofs.Ytlflndnfgeeieaa
open Go Go.Den
abbrev tInt : TypeId := 3
abbrev tBool : TypeId := 4
abbrev tArc : TypeId := 37
abbrev tsArc : TypeId := 45
abbrev tssArc : TypeId := 56
abbrev tNet : TypeId := 58
abbrev tRNet : TypeId := 49
abbrev tsInt : TypeId := 30
abbrev tArr3 : TypeId := 41
abbrev tsArr3 : TypeId := 22
abbrev tItem : TypeId := 75
abbrev tsItem : TypeId := 62
abbrev tHeap : TypeId := 65
theorem size_Int : (Try.prog.info? 3).map (·.size) = some 1 := by kernel_rfl
theorem size_Bool : (Try.prog.info? 4).map (·.size) = some 1 := by kernel_rfl
theorem size_Arc : (Try.prog.info? 37).map (·.size) = some 4 := by kernel_rfl
theorem elem_sArc : Elem Try.prog 45 37 4 32 [(Value.int .i64 (0 : Int)), (Value.int .i64 (0 : Int)), (Value.int .i64 (0 : Int)), (Value.int .i64 (0 : Int))] := ⟨by kernel_rfl, by kernel_rfl, by decide, rfl⟩
theorem size_sArc : (Try.prog.info? 45).map (·.size) = some 1 := by kernel_rfl
theorem elem_ssArc : Elem Try.prog 56 45 1 24 [(Value.slice none 0 0)] := ⟨by kernel_rfl, by kernel_rfl, by decide, rfl⟩
theorem size_ssArc : (Try.prog.info? 56).map (·.size) = some 1 := by kernel_rfl
theorem size_Net : (Try.prog.info? 58).map (·.size) = some 2 := by kernel_rfl
theorem size_RNet : (Try.prog.info? 49).map (·.size) = some 2 := by kernel_rfl
theorem elem_sInt : Elem Try.prog 30 3 1 8 [(Value.int .i64 (0 : Int))] := ⟨by kernel_rfl, by kernel_rfl, by decide, rfl⟩
theorem size_sInt : (Try.prog.info? 30).map (·.size) = some 1 := by kernel_rfl
theorem size_Arr3 : (Try.prog.info? 41).map (·.size) = some 3 := by kernel_rfl
theorem elem_sArr3 : Elem Try.prog 22 41 3 24 [(Value.int .i64 (0 : Int)), (Value.int .i64 (0 : Int)), (Value.int .i64 (0 : Int))] := ⟨by kernel_rfl, by kernel_rfl, by decide, rfl⟩
theorem size_sArr3 : (Try.prog.info? 22).map (·.size) = some 1 := by kernel_rfl
theorem size_Item : (Try.prog.info? 75).map (·.size) = some 2 := by kernel_rfl
theorem elem_sItem : Elem Try.prog 62 75 2 16 [(Value.int .i64 (0 : Int)), (Value.int .i64 (0 : Int))] := ⟨by kernel_rfl, by kernel_rfl, by decide, rfl⟩
theorem size_sItem : (Try.prog.info? 62).map (·.size) = some 1 := by kernel_rfl
theorem size_Heap : (Try.prog.info? 65).map (·.size) = some 2 := by kernel_rfl
abbrev fn_witness_Find_c1 : FuncId := 20
abbrev fn_witness_Far_c1 : FuncId := 21
abbrev fn_net_byTo_c1 : FuncId := 34
abbrev fn_net_Net_may_c1 : FuncId := 36
abbrev fn_net_byFrom_c1 : FuncId := 45
theorem no_overlap_Arc {w : World} {ga gb oa ob la ca lb cb : Nat} {ea eb : TypeId} {xa xb : List Value} (ha : Own w ga ea xa) (hb : Own w gb eb xb) (hne : ga ≠ gb) (hpos : xb.length ≠ 0) {K : Bool → World → Prop} (hK : K false w) :
    extD Try.prog (.c .bool) 48 [.slice (some ⟨ga, oa, none⟩) la ca, .slice (some ⟨gb, ob, none⟩) lb cb] w K :=
  overlaps_no (t := 45) (tR := 4) (e := 37) (n := 4) Try.func48 (by kernel_rfl) (by kernel_rfl) (by kernel_rfl) (by kernel_rfl) (by kernel_rfl) (by kernel_rfl) ha hb hne hpos hK
theorem und_int : Try.prog.underlying 3 = some (.int .i64) := by kernel_rfl
theorem und_bool : Try.prog.underlying 4 = some .bool := by kernel_rfl
end Go.Proofs.Ytlflndnfgeeieaa
