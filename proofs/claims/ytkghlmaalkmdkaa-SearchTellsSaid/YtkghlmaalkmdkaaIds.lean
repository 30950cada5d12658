/-
  The numbers of the seat's types.
-/
import Derived.Test.YtkghlmaalkmdkaaFBase
import Derived.Test.YtkghlmaalkmdkaaA2
namespace Go.Proofs.Ytkghlmaalkmdkaa
open Go Go.Den
abbrev tInt : TypeId := 3
abbrev tBool : TypeId := 4
abbrev tArc : TypeId := 38
abbrev tsArc : TypeId := 39
abbrev tssArc : TypeId := 89
abbrev tNet : TypeId := 91
abbrev tRNet : TypeId := 41
abbrev tsInt : TypeId := 23
abbrev tsBool : TypeId := 75
abbrev tArr3 : TypeId := 51
abbrev tArr2 : TypeId := 110
abbrev tsArr3 : TypeId := 22
abbrev tsArr2 : TypeId := 111
abbrev tItem : TypeId := 132
abbrev tsItem : TypeId := 103
abbrev tHeap : TypeId := 105
abbrev tKey : TypeId := 125
abbrev tsKey : TypeId := 121
abbrev tRHeap : TypeId := 123
abbrev tLev : TypeId := 69
abbrev tpLev : TypeId := 25
abbrev tRLev : TypeId := 83
abbrev tTree : TypeId := 61
theorem size_Int : (Try.prog.info? 3).map (·.size) = some 1 := by kernel_rfl
theorem size_Bool : (Try.prog.info? 4).map (·.size) = some 1 := by kernel_rfl
theorem size_Arc : (Try.prog.info? 38).map (·.size) = some 4 := by kernel_rfl
theorem elem_sArc : Elem Try.prog 39 38 4 32 [(Value.int .i64 (0 : Int)), (Value.int .i64 (0 : Int)), (Value.int .i64 (0 : Int)), (Value.int .i64 (0 : Int))] := ⟨by kernel_rfl, by kernel_rfl, by decide, rfl⟩
theorem size_sArc : (Try.prog.info? 39).map (·.size) = some 1 := by kernel_rfl
theorem elem_ssArc : Elem Try.prog 89 39 1 24 [(Value.slice none 0 0)] := ⟨by kernel_rfl, by kernel_rfl, by decide, rfl⟩
theorem size_ssArc : (Try.prog.info? 89).map (·.size) = some 1 := by kernel_rfl
theorem size_Net : (Try.prog.info? 91).map (·.size) = some 2 := by kernel_rfl
theorem size_RNet : (Try.prog.info? 41).map (·.size) = some 2 := by kernel_rfl
theorem elem_sInt : Elem Try.prog 23 3 1 8 [(Value.int .i64 (0 : Int))] := ⟨by kernel_rfl, by kernel_rfl, by decide, rfl⟩
theorem size_sInt : (Try.prog.info? 23).map (·.size) = some 1 := by kernel_rfl
theorem elem_sBool : Elem Try.prog 75 4 1 1 [(Value.bool false)] := ⟨by kernel_rfl, by kernel_rfl, by decide, rfl⟩
theorem size_sBool : (Try.prog.info? 75).map (·.size) = some 1 := by kernel_rfl
theorem size_Arr3 : (Try.prog.info? 51).map (·.size) = some 3 := by kernel_rfl
theorem size_Arr2 : (Try.prog.info? 110).map (·.size) = some 2 := by kernel_rfl
theorem elem_sArr3 : Elem Try.prog 22 51 3 24 [(Value.int .i64 (0 : Int)), (Value.int .i64 (0 : Int)), (Value.int .i64 (0 : Int))] := ⟨by kernel_rfl, by kernel_rfl, by decide, rfl⟩
theorem size_sArr3 : (Try.prog.info? 22).map (·.size) = some 1 := by kernel_rfl
theorem elem_sArr2 : Elem Try.prog 111 110 2 16 [(Value.int .i64 (0 : Int)), (Value.int .i64 (0 : Int))] := ⟨by kernel_rfl, by kernel_rfl, by decide, rfl⟩
theorem size_sArr2 : (Try.prog.info? 111).map (·.size) = some 1 := by kernel_rfl
theorem size_Item : (Try.prog.info? 132).map (·.size) = some 2 := by kernel_rfl
theorem elem_sItem : Elem Try.prog 103 132 2 16 [(Value.int .i64 (0 : Int)), (Value.int .i64 (0 : Int))] := ⟨by kernel_rfl, by kernel_rfl, by decide, rfl⟩
theorem size_sItem : (Try.prog.info? 103).map (·.size) = some 1 := by kernel_rfl
theorem size_Heap : (Try.prog.info? 105).map (·.size) = some 2 := by kernel_rfl
theorem size_Key : (Try.prog.info? 125).map (·.size) = some 2 := by kernel_rfl
theorem elem_sKey : Elem Try.prog 121 125 2 16 [(Value.int .i64 (0 : Int)), (Value.int .i64 (0 : Int))] := ⟨by kernel_rfl, by kernel_rfl, by decide, rfl⟩
theorem size_sKey : (Try.prog.info? 121).map (·.size) = some 1 := by kernel_rfl
theorem size_RHeap : (Try.prog.info? 123).map (·.size) = some 1 := by kernel_rfl
theorem size_Lev : (Try.prog.info? 69).map (·.size) = some 2 := by kernel_rfl
theorem size_pLev : (Try.prog.info? 25).map (·.size) = some 1 := by kernel_rfl
theorem size_RLev : (Try.prog.info? 83).map (·.size) = some 2 := by kernel_rfl
theorem size_Tree : (Try.prog.info? 61).map (·.size) = some 2 := by kernel_rfl
abbrev fn_search_up_c1 : FuncId := 47
abbrev fn_search_down_c1 : FuncId := 49
abbrev fn_levels_Levels_Up_c1 : FuncId := 75
abbrev fn_levels_Levels_Down_c1 : FuncId := 76
abbrev fn_net_Net_may_c1 : FuncId := 78
abbrev fn_witness_Find_c1 : FuncId := 82
abbrev fn_net_byTo_c1 : FuncId := 84
abbrev fn_net_byFrom_c1 : FuncId := 87
theorem no_overlap_Arc {w : World} {ga gb oa ob la ca lb cb : Nat} {ea eb : TypeId} {xa xb : List Value} (ha : Own w ga ea xa) (hb : Own w gb eb xb) (hne : ga ≠ gb) (hpos : xb.length ≠ 0) {K : Bool → World → Prop} (hK : K false w) :
    extD Try.prog (.c .bool) 95 [.slice (some ⟨ga, oa, none⟩) la ca, .slice (some ⟨gb, ob, none⟩) lb cb] w K :=
  overlaps_no (t := 39) (tR := 4) (e := 38) (n := 4) Try.func95 (by kernel_rfl) (by kernel_rfl) (by kernel_rfl) (by kernel_rfl) (by kernel_rfl) (by kernel_rfl) ha hb hne hpos hK
theorem und_int : Try.prog.underlying 3 = some (.int .i64) := by kernel_rfl
theorem und_bool : Try.prog.underlying 4 = some .bool := by kernel_rfl
end Go.Proofs.Ytkghlmaalkmdkaa
