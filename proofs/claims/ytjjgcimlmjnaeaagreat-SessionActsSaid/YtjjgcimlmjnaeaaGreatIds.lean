import Derived.Test.YtjjgcimlmjnaeaaGreatFBase
import Derived.Test.YtjjgcimlmjnaeaaGreatA4
namespace Go.Proofs.YtjjgcimlmjnaeaaGreat
open Go Go.Den
abbrev tInt : TypeId := 3
abbrev tBool : TypeId := 4
abbrev tArc : TypeId := 91
abbrev tsArc : TypeId := 88
abbrev tssArc : TypeId := 145
abbrev tNet : TypeId := 147
abbrev tsInt : TypeId := 22
abbrev tsBool : TypeId := 54
abbrev tArr2 : TypeId := 109
abbrev tItem : TypeId := 200
abbrev tHeap : TypeId := 181
abbrev tLev : TypeId := 151
abbrev tTree : TypeId := 196
abbrev tNode : TypeId := 108
abbrev tsNode : TypeId := 24
abbrev tEdge : TypeId := 49
abbrev tsEdge : TypeId := 25
abbrev tBan : TypeId := 111
abbrev tsBan : TypeId := 26
abbrev tssInt : TypeId := 82
abbrev tAGraph : TypeId := 28
abbrev tGraph : TypeId := 124
abbrev tTurns : TypeId := 84
abbrev tEngine : TypeId := 80
abbrev tAns : TypeId := 126
abbrev tRAns : TypeId := 130
abbrev tMsg : TypeId := 47
abbrev tHint : TypeId := 45
abbrev tSess : TypeId := 86
abbrev tRShuts : TypeId := 99
abbrev tRSess : TypeId := 67
abbrev tAct : TypeId := 61
abbrev tsMsg : TypeId := 34
theorem size_Int : (Tryz.prog.info? 3).map (·.size) = some 1 := by kernel_rfl
theorem size_Bool : (Tryz.prog.info? 4).map (·.size) = some 1 := by kernel_rfl
theorem size_Arc : (Tryz.prog.info? 91).map (·.size) = some 4 := by kernel_rfl
theorem elem_sArc : Elem Tryz.prog 88 91 4 32 [(.int .i64 0), (.int .i64 0), (.int .i64 0), (.int .i64 0)] := ⟨by kernel_rfl, by kernel_rfl, by decide, rfl⟩
theorem size_sArc : (Tryz.prog.info? 88).map (·.size) = some 1 := by kernel_rfl
theorem elem_ssArc : Elem Tryz.prog 145 88 1 24 [(Value.slice none 0 0)] := ⟨by kernel_rfl, by kernel_rfl, by decide, rfl⟩
theorem elem_sInt : Elem Tryz.prog 22 3 1 8 [(.int .i64 0)] := ⟨by kernel_rfl, by kernel_rfl, by decide, rfl⟩
theorem size_sInt : (Tryz.prog.info? 22).map (·.size) = some 1 := by kernel_rfl
theorem elem_sBool : Elem Tryz.prog 54 4 1 1 [(Value.bool false)] := ⟨by kernel_rfl, by kernel_rfl, by decide, rfl⟩
theorem size_Arr2 : (Tryz.prog.info? 109).map (·.size) = some 2 := by kernel_rfl
theorem size_Item : (Tryz.prog.info? 200).map (·.size) = some 2 := by kernel_rfl
theorem elem_sItem : Elem Tryz.prog 178 200 2 16 [(.int .i64 0), (.int .i64 0)] := ⟨by kernel_rfl, by kernel_rfl, by decide, rfl⟩
theorem size_sItem : (Tryz.prog.info? 178).map (·.size) = some 1 := by kernel_rfl
theorem size_Tree : (Tryz.prog.info? 196).map (·.size) = some 2 := by kernel_rfl
theorem size_Node : (Tryz.prog.info? 108).map (·.size) = some 2 := by kernel_rfl
theorem elem_sNode : Elem Tryz.prog 24 108 2 16 [(.int .i64 0), (.int .i64 0)] := ⟨by kernel_rfl, by kernel_rfl, by decide, rfl⟩
theorem size_sNode : (Tryz.prog.info? 24).map (·.size) = some 1 := by kernel_rfl
theorem size_Edge : (Tryz.prog.info? 49).map (·.size) = some 3 := by kernel_rfl
theorem elem_sEdge : Elem Tryz.prog 25 49 3 24 [(.int .i64 0), (.int .i64 0), (.int .i64 0)] := ⟨by kernel_rfl, by kernel_rfl, by decide, rfl⟩
theorem size_sEdge : (Tryz.prog.info? 25).map (·.size) = some 1 := by kernel_rfl
theorem size_Ban : (Tryz.prog.info? 111).map (·.size) = some 2 := by kernel_rfl
theorem elem_sBan : Elem Tryz.prog 26 111 2 16 [(.int .i64 0), (.int .i64 0)] := ⟨by kernel_rfl, by kernel_rfl, by decide, rfl⟩
theorem size_sBan : (Tryz.prog.info? 26).map (·.size) = some 1 := by kernel_rfl
theorem elem_ssInt : Elem Tryz.prog 82 22 1 24 [(Value.slice none 0 0)] := ⟨by kernel_rfl, by kernel_rfl, by decide, rfl⟩
theorem size_AGraph : (Tryz.prog.info? 28).map (·.size) = some 3 := by kernel_rfl
theorem size_Ans : (Tryz.prog.info? 126).map (·.size) = some 4 := by kernel_rfl
theorem size_RAns : (Tryz.prog.info? 130).map (·.size) = some 4 := by kernel_rfl
theorem size_Hint : (Tryz.prog.info? 45).map (·.size) = some 4 := by kernel_rfl
theorem size_Act : (Tryz.prog.info? 61).map (·.size) = some 3 := by kernel_rfl
theorem elem_sMsg : Elem Tryz.prog 34 47 9 88 [(.int .i64 0), (.int .i64 0), (.int .i64 0), (Value.slice none 0 0), (.int .i64 0), (.int .i64 0), (.int .i64 0), (.int .i64 0), (.int .i64 0)] := ⟨by kernel_rfl, by kernel_rfl, by decide, rfl⟩
abbrev fn_eE_Way_c1 : FuncId := 87
abbrev fn_graph_order : FuncId := 98
abbrev fn_nN_may_c1 : FuncId := 100
abbrev fn_lL_Up_c1 : FuncId := 137
abbrev fn_lL_Down_c1 : FuncId := 158
theorem no_overlap_Arc {w : World} {ga gb oa ob la ca lb cb : Nat} {ea eb : TypeId} {xa xb : List Value} (ha : Own w ga ea xa) (hb : Own w gb eb xb) (hne : ga ≠ gb) (hpos : xb.length ≠ 0) {K : Bool → World → Prop} (hK : K false w) :
  extD Tryz.prog (.c .bool) 146 [.slice (some ⟨ga, oa, none⟩) la ca, .slice (some ⟨gb, ob, none⟩) lb cb] w K :=
 overlaps_no (t := 88) (tR := 4) (e := 91) (n := 4) Tryz.func146 (by kernel_rfl) (by kernel_rfl) (by kernel_rfl) (by kernel_rfl) (by kernel_rfl) (by kernel_rfl) ha hb hne hpos hK
theorem und_int : Tryz.prog.underlying 3 = some (.int .i64) := by kernel_rfl
end Go.Proofs.YtjjgcimlmjnaeaaGreat
