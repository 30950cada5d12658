/-
  The numbers of the seat's types.
-/
import Derived.Test.YtdmcgddefnnbmaaFBase
import Derived.Test.YtdmcgddefnnbmaaA2
namespace Go.Proofs.Ytdmcgddefnnbmaa
open Go Go.Den
abbrev tInt : TypeId := 3
abbrev tBool : TypeId := 4
abbrev tArc : TypeId := 49
abbrev tsArc : TypeId := 34
abbrev tssArc : TypeId := 67
abbrev tNet : TypeId := 69
abbrev tRNet : TypeId := 37
abbrev tsInt : TypeId := 40
abbrev tsBool : TypeId := 47
abbrev tArr3 : TypeId := 55
abbrev tsArr3 : TypeId := 22
abbrev tItem : TypeId := 111
abbrev tsItem : TypeId := 102
abbrev tHeap : TypeId := 105
abbrev tKey : TypeId := 98
abbrev tsKey : TypeId := 94
abbrev tRHeap : TypeId := 96
abbrev tLev : TypeId := 42
abbrev tpLev : TypeId := 24
abbrev tRLev : TypeId := 44
theorem size_Int : (Try.prog.info? 3).map (·.size) = some 1 := by kernel_rfl
theorem size_Bool : (Try.prog.info? 4).map (·.size) = some 1 := by kernel_rfl
theorem size_Arc : (Try.prog.info? 49).map (·.size) = some 4 := by kernel_rfl
theorem elem_sArc : Elem Try.prog 34 49 4 32 [(Value.int .i64 (0 : Int)), (Value.int .i64 (0 : Int)), (Value.int .i64 (0 : Int)), (Value.int .i64 (0 : Int))] := ⟨by kernel_rfl, by kernel_rfl, by decide, rfl⟩
theorem size_sArc : (Try.prog.info? 34).map (·.size) = some 1 := by kernel_rfl
theorem elem_ssArc : Elem Try.prog 67 34 1 24 [(Value.slice none 0 0)] := ⟨by kernel_rfl, by kernel_rfl, by decide, rfl⟩
theorem size_ssArc : (Try.prog.info? 67).map (·.size) = some 1 := by kernel_rfl
theorem size_Net : (Try.prog.info? 69).map (·.size) = some 2 := by kernel_rfl
theorem size_RNet : (Try.prog.info? 37).map (·.size) = some 2 := by kernel_rfl
theorem elem_sInt : Elem Try.prog 40 3 1 8 [(Value.int .i64 (0 : Int))] := ⟨by kernel_rfl, by kernel_rfl, by decide, rfl⟩
theorem size_sInt : (Try.prog.info? 40).map (·.size) = some 1 := by kernel_rfl
theorem elem_sBool : Elem Try.prog 47 4 1 1 [(Value.bool false)] := ⟨by kernel_rfl, by kernel_rfl, by decide, rfl⟩
theorem size_sBool : (Try.prog.info? 47).map (·.size) = some 1 := by kernel_rfl
theorem size_Arr3 : (Try.prog.info? 55).map (·.size) = some 3 := by kernel_rfl
theorem elem_sArr3 : Elem Try.prog 22 55 3 24 [(Value.int .i64 (0 : Int)), (Value.int .i64 (0 : Int)), (Value.int .i64 (0 : Int))] := ⟨by kernel_rfl, by kernel_rfl, by decide, rfl⟩
theorem size_sArr3 : (Try.prog.info? 22).map (·.size) = some 1 := by kernel_rfl
theorem size_Item : (Try.prog.info? 111).map (·.size) = some 2 := by kernel_rfl
theorem elem_sItem : Elem Try.prog 102 111 2 16 [(Value.int .i64 (0 : Int)), (Value.int .i64 (0 : Int))] := ⟨by kernel_rfl, by kernel_rfl, by decide, rfl⟩
theorem size_sItem : (Try.prog.info? 102).map (·.size) = some 1 := by kernel_rfl
theorem size_Heap : (Try.prog.info? 105).map (·.size) = some 2 := by kernel_rfl
theorem size_Key : (Try.prog.info? 98).map (·.size) = some 2 := by kernel_rfl
theorem elem_sKey : Elem Try.prog 94 98 2 16 [(Value.int .i64 (0 : Int)), (Value.int .i64 (0 : Int))] := ⟨by kernel_rfl, by kernel_rfl, by decide, rfl⟩
theorem size_sKey : (Try.prog.info? 94).map (·.size) = some 1 := by kernel_rfl
theorem size_RHeap : (Try.prog.info? 96).map (·.size) = some 1 := by kernel_rfl
theorem size_Lev : (Try.prog.info? 42).map (·.size) = some 2 := by kernel_rfl
theorem size_pLev : (Try.prog.info? 24).map (·.size) = some 1 := by kernel_rfl
theorem size_RLev : (Try.prog.info? 44).map (·.size) = some 2 := by kernel_rfl
abbrev fn_levels_Levels_Up_c1 : FuncId := 36
abbrev fn_levels_Levels_Down_c1 : FuncId := 39
abbrev fn_net_byTo_c1 : FuncId := 60
abbrev fn_net_Net_may_c1 : FuncId := 64
abbrev fn_witness_Find_c1 : FuncId := 67
abbrev fn_net_byFrom_c1 : FuncId := 69
theorem no_overlap_Arc {w : World} {ga gb oa ob la ca lb cb : Nat} {ea eb : TypeId} {xa xb : List Value} (ha : Own w ga ea xa) (hb : Own w gb eb xb) (hne : ga ≠ gb) (hpos : xb.length ≠ 0) {K : Bool → World → Prop} (hK : K false w) :
    extD Try.prog (.c .bool) 76 [.slice (some ⟨ga, oa, none⟩) la ca, .slice (some ⟨gb, ob, none⟩) lb cb] w K :=
  overlaps_no (t := 34) (tR := 4) (e := 49) (n := 4) Try.func76 (by kernel_rfl) (by kernel_rfl) (by kernel_rfl) (by kernel_rfl) (by kernel_rfl) (by kernel_rfl) ha hb hne hpos hK
theorem und_int : Try.prog.underlying 3 = some (.int .i64) := by kernel_rfl
theorem und_bool : Try.prog.underlying 4 = some .bool := by kernel_rfl
end Go.Proofs.Ytdmcgddefnnbmaa
