/-
  The numbers of the seat's types.
-/
import Derived.Test.YtljiijljeipdhaaGreatFBase
import Derived.Test.YtljiijljeipdhaaGreatA4
namespace Go.Proofs.YtljiijljeipdhaaGreat
open Go Go.Den
abbrev tInt : TypeId := 3
abbrev tBool : TypeId := 4
abbrev tArc : TypeId := 82
abbrev tsArc : TypeId := 79
abbrev tssArc : TypeId := 99
abbrev tNet : TypeId := 101
abbrev tsInt : TypeId := 22
abbrev tsBool : TypeId := 36
abbrev tArr2 : TypeId := 39
abbrev tsArr2 : TypeId := 23
abbrev tItem : TypeId := 154
abbrev tsItem : TypeId := 130
abbrev tHeap : TypeId := 133
abbrev tLev : TypeId := 58
abbrev tpLev : TypeId := 53
abbrev tTree : TypeId := 105
abbrev tNode : TypeId := 71
abbrev tsNode : TypeId := 26
abbrev tEdge : TypeId := 60
abbrev tsEdge : TypeId := 27
abbrev tBan : TypeId := 73
abbrev tsBan : TypeId := 28
abbrev tssInt : TypeId := 24
abbrev tAGraph : TypeId := 30
abbrev tGraph : TypeId := 108
abbrev tTurns : TypeId := 68
abbrev tEngine : TypeId := 65
abbrev tAns : TypeId := 42
abbrev tRAns : TypeId := 44
abbrev tpGraph : TypeId := 66
abbrev tpTurns : TypeId := 63
theorem size_Int : (Tryz.prog.info? 3).map (·.size) = some 1 := by kernel_rfl
theorem size_Bool : (Tryz.prog.info? 4).map (·.size) = some 1 := by kernel_rfl
theorem size_Arc : (Tryz.prog.info? 82).map (·.size) = some 4 := by kernel_rfl
theorem elem_sArc : Elem Tryz.prog 79 82 4 32 [(Value.int .i64 (0 : Int)), (Value.int .i64 (0 : Int)), (Value.int .i64 (0 : Int)), (Value.int .i64 (0 : Int))] := ⟨by kernel_rfl, by kernel_rfl, by decide, rfl⟩
theorem size_sArc : (Tryz.prog.info? 79).map (·.size) = some 1 := by kernel_rfl
theorem elem_ssArc : Elem Tryz.prog 99 79 1 24 [(Value.slice none 0 0)] := ⟨by kernel_rfl, by kernel_rfl, by decide, rfl⟩
theorem size_ssArc : (Tryz.prog.info? 99).map (·.size) = some 1 := by kernel_rfl
theorem size_Net : (Tryz.prog.info? 101).map (·.size) = some 2 := by kernel_rfl
theorem elem_sInt : Elem Tryz.prog 22 3 1 8 [(Value.int .i64 (0 : Int))] := ⟨by kernel_rfl, by kernel_rfl, by decide, rfl⟩
theorem size_sInt : (Tryz.prog.info? 22).map (·.size) = some 1 := by kernel_rfl
theorem elem_sBool : Elem Tryz.prog 36 4 1 1 [(Value.bool false)] := ⟨by kernel_rfl, by kernel_rfl, by decide, rfl⟩
theorem size_sBool : (Tryz.prog.info? 36).map (·.size) = some 1 := by kernel_rfl
theorem size_Arr2 : (Tryz.prog.info? 39).map (·.size) = some 2 := by kernel_rfl
theorem elem_sArr2 : Elem Tryz.prog 23 39 2 16 [(Value.int .i64 (0 : Int)), (Value.int .i64 (0 : Int))] := ⟨by kernel_rfl, by kernel_rfl, by decide, rfl⟩
theorem size_sArr2 : (Tryz.prog.info? 23).map (·.size) = some 1 := by kernel_rfl
theorem size_Item : (Tryz.prog.info? 154).map (·.size) = some 2 := by kernel_rfl
theorem elem_sItem : Elem Tryz.prog 130 154 2 16 [(Value.int .i64 (0 : Int)), (Value.int .i64 (0 : Int))] := ⟨by kernel_rfl, by kernel_rfl, by decide, rfl⟩
theorem size_sItem : (Tryz.prog.info? 130).map (·.size) = some 1 := by kernel_rfl
theorem size_Heap : (Tryz.prog.info? 133).map (·.size) = some 2 := by kernel_rfl
theorem size_Lev : (Tryz.prog.info? 58).map (·.size) = some 2 := by kernel_rfl
theorem size_pLev : (Tryz.prog.info? 53).map (·.size) = some 1 := by kernel_rfl
theorem size_Tree : (Tryz.prog.info? 105).map (·.size) = some 2 := by kernel_rfl
theorem size_Node : (Tryz.prog.info? 71).map (·.size) = some 2 := by kernel_rfl
theorem elem_sNode : Elem Tryz.prog 26 71 2 16 [(Value.int .i64 (0 : Int)), (Value.int .i64 (0 : Int))] := ⟨by kernel_rfl, by kernel_rfl, by decide, rfl⟩
theorem size_sNode : (Tryz.prog.info? 26).map (·.size) = some 1 := by kernel_rfl
theorem size_Edge : (Tryz.prog.info? 60).map (·.size) = some 3 := by kernel_rfl
theorem elem_sEdge : Elem Tryz.prog 27 60 3 24 [(Value.int .i64 (0 : Int)), (Value.int .i64 (0 : Int)), (Value.int .i64 (0 : Int))] := ⟨by kernel_rfl, by kernel_rfl, by decide, rfl⟩
theorem size_sEdge : (Tryz.prog.info? 27).map (·.size) = some 1 := by kernel_rfl
theorem size_Ban : (Tryz.prog.info? 73).map (·.size) = some 2 := by kernel_rfl
theorem elem_sBan : Elem Tryz.prog 28 73 2 16 [(Value.int .i64 (0 : Int)), (Value.int .i64 (0 : Int))] := ⟨by kernel_rfl, by kernel_rfl, by decide, rfl⟩
theorem size_sBan : (Tryz.prog.info? 28).map (·.size) = some 1 := by kernel_rfl
theorem elem_ssInt : Elem Tryz.prog 24 22 1 24 [(Value.slice none 0 0)] := ⟨by kernel_rfl, by kernel_rfl, by decide, rfl⟩
theorem size_ssInt : (Tryz.prog.info? 24).map (·.size) = some 1 := by kernel_rfl
theorem size_AGraph : (Tryz.prog.info? 30).map (·.size) = some 3 := by kernel_rfl
theorem size_Graph : (Tryz.prog.info? 108).map (·.size) = some 7 := by kernel_rfl
theorem size_Turns : (Tryz.prog.info? 68).map (·.size) = some 3 := by kernel_rfl
theorem size_Engine : (Tryz.prog.info? 65).map (·.size) = some 3 := by kernel_rfl
theorem size_Ans : (Tryz.prog.info? 42).map (·.size) = some 4 := by kernel_rfl
theorem size_RAns : (Tryz.prog.info? 44).map (·.size) = some 4 := by kernel_rfl
theorem size_pGraph : (Tryz.prog.info? 66).map (·.size) = some 1 := by kernel_rfl
theorem size_pTurns : (Tryz.prog.info? 63).map (·.size) = some 1 := by kernel_rfl
abbrev fn_engine_New_c1 : FuncId := 28
abbrev fn_engine_Engine_Way_c1 : FuncId := 36
abbrev fn_graph_New_c1 : FuncId := 53
abbrev fn_graph_New_c2 : FuncId := 54
abbrev fn_search_up_c1 : FuncId := 83
abbrev fn_search_down_c1 : FuncId := 85
abbrev fn_graph_order : FuncId := 87
abbrev fn_net_Net_may_c1 : FuncId := 90
abbrev fn_levels_Levels_Up_c1 : FuncId := 102
abbrev fn_levels_Levels_Down_c1 : FuncId := 108
abbrev fn_net_byTo_c1 : FuncId := 112
abbrev fn_net_byFrom_c1 : FuncId := 114
abbrev fn_witness_Find_c1 : FuncId := 118
theorem no_overlap_Arc {w : World} {ga gb oa ob la ca lb cb : Nat} {ea eb : TypeId} {xa xb : List Value} (ha : Own w ga ea xa) (hb : Own w gb eb xb) (hne : ga ≠ gb) (hpos : xb.length ≠ 0) {K : Bool → World → Prop} (hK : K false w) :
    extD Tryz.prog (.c .bool) 123 [.slice (some ⟨ga, oa, none⟩) la ca, .slice (some ⟨gb, ob, none⟩) lb cb] w K :=
  overlaps_no (t := 79) (tR := 4) (e := 82) (n := 4) Tryz.func123 (by kernel_rfl) (by kernel_rfl) (by kernel_rfl) (by kernel_rfl) (by kernel_rfl) (by kernel_rfl) ha hb hne hpos hK
theorem und_int : Tryz.prog.underlying 3 = some (.int .i64) := by kernel_rfl
theorem und_bool : Tryz.prog.underlying 4 = some .bool := by kernel_rfl
end Go.Proofs.YtljiijljeipdhaaGreat
