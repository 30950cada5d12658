/-
  The numbers of the seat's types.
-/
import Derived.Test.YtkdilapijegogaaFBase
import Derived.Test.YtkdilapijegogaaA2
namespace Go.Proofs.Ytkdilapijegogaa
open Go Go.Den
abbrev tInt : TypeId := 3
abbrev tBool : TypeId := 4
abbrev tArc : TypeId := 45
abbrev tsArc : TypeId := 39
abbrev tssArc : TypeId := 67
abbrev tNet : TypeId := 69
abbrev tRNet : TypeId := 49
abbrev tsInt : TypeId := 23
abbrev tsBool : TypeId := 77
abbrev tArr3 : TypeId := 54
abbrev tArr2 : TypeId := 59
abbrev tsArr3 : TypeId := 22
abbrev tsArr2 : TypeId := 60
abbrev tItem : TypeId := 118
abbrev tsItem : TypeId := 108
abbrev tHeap : TypeId := 111
abbrev tKey : TypeId := 103
abbrev tsKey : TypeId := 99
abbrev tRHeap : TypeId := 101
abbrev tLev : TypeId := 43
abbrev tpLev : TypeId := 25
abbrev tRLev : TypeId := 65
theorem size_Int : (Try.prog.info? 3).map (·.size) = some 1 := by kernel_rfl
theorem size_Bool : (Try.prog.info? 4).map (·.size) = some 1 := by kernel_rfl
theorem size_Arc : (Try.prog.info? 45).map (·.size) = some 4 := by kernel_rfl
theorem elem_sArc : Elem Try.prog 39 45 4 32 [(Value.int .i64 (0 : Int)), (Value.int .i64 (0 : Int)), (Value.int .i64 (0 : Int)), (Value.int .i64 (0 : Int))] := ⟨by kernel_rfl, by kernel_rfl, by decide, rfl⟩
theorem size_sArc : (Try.prog.info? 39).map (·.size) = some 1 := by kernel_rfl
theorem elem_ssArc : Elem Try.prog 67 39 1 24 [(Value.slice none 0 0)] := ⟨by kernel_rfl, by kernel_rfl, by decide, rfl⟩
theorem size_ssArc : (Try.prog.info? 67).map (·.size) = some 1 := by kernel_rfl
theorem size_Net : (Try.prog.info? 69).map (·.size) = some 2 := by kernel_rfl
theorem size_RNet : (Try.prog.info? 49).map (·.size) = some 2 := by kernel_rfl
theorem elem_sInt : Elem Try.prog 23 3 1 8 [(Value.int .i64 (0 : Int))] := ⟨by kernel_rfl, by kernel_rfl, by decide, rfl⟩
theorem size_sInt : (Try.prog.info? 23).map (·.size) = some 1 := by kernel_rfl
theorem elem_sBool : Elem Try.prog 77 4 1 1 [(Value.bool false)] := ⟨by kernel_rfl, by kernel_rfl, by decide, rfl⟩
theorem size_sBool : (Try.prog.info? 77).map (·.size) = some 1 := by kernel_rfl
theorem size_Arr3 : (Try.prog.info? 54).map (·.size) = some 3 := by kernel_rfl
theorem size_Arr2 : (Try.prog.info? 59).map (·.size) = some 2 := by kernel_rfl
theorem elem_sArr3 : Elem Try.prog 22 54 3 24 [(Value.int .i64 (0 : Int)), (Value.int .i64 (0 : Int)), (Value.int .i64 (0 : Int))] := ⟨by kernel_rfl, by kernel_rfl, by decide, rfl⟩
theorem size_sArr3 : (Try.prog.info? 22).map (·.size) = some 1 := by kernel_rfl
theorem elem_sArr2 : Elem Try.prog 60 59 2 16 [(Value.int .i64 (0 : Int)), (Value.int .i64 (0 : Int))] := ⟨by kernel_rfl, by kernel_rfl, by decide, rfl⟩
theorem size_sArr2 : (Try.prog.info? 60).map (·.size) = some 1 := by kernel_rfl
theorem size_Item : (Try.prog.info? 118).map (·.size) = some 2 := by kernel_rfl
theorem elem_sItem : Elem Try.prog 108 118 2 16 [(Value.int .i64 (0 : Int)), (Value.int .i64 (0 : Int))] := ⟨by kernel_rfl, by kernel_rfl, by decide, rfl⟩
theorem size_sItem : (Try.prog.info? 108).map (·.size) = some 1 := by kernel_rfl
theorem size_Heap : (Try.prog.info? 111).map (·.size) = some 2 := by kernel_rfl
theorem size_Key : (Try.prog.info? 103).map (·.size) = some 2 := by kernel_rfl
theorem elem_sKey : Elem Try.prog 99 103 2 16 [(Value.int .i64 (0 : Int)), (Value.int .i64 (0 : Int))] := ⟨by kernel_rfl, by kernel_rfl, by decide, rfl⟩
theorem size_sKey : (Try.prog.info? 99).map (·.size) = some 1 := by kernel_rfl
theorem size_RHeap : (Try.prog.info? 101).map (·.size) = some 1 := by kernel_rfl
theorem size_Lev : (Try.prog.info? 43).map (·.size) = some 2 := by kernel_rfl
theorem size_pLev : (Try.prog.info? 25).map (·.size) = some 1 := by kernel_rfl
theorem size_RLev : (Try.prog.info? 65).map (·.size) = some 2 := by kernel_rfl
abbrev fn_net_byTo_c1 : FuncId := 53
abbrev fn_net_Net_may_c1 : FuncId := 55
abbrev fn_witness_Find_c1 : FuncId := 58
abbrev fn_net_byFrom_c1 : FuncId := 60
theorem no_overlap_Arc {w : World} {ga gb oa ob la ca lb cb : Nat} {ea eb : TypeId} {xa xb : List Value} (ha : Own w ga ea xa) (hb : Own w gb eb xb) (hne : ga ≠ gb) (hpos : xb.length ≠ 0) {K : Bool → World → Prop} (hK : K false w) :
    extD Try.prog (.c .bool) 67 [.slice (some ⟨ga, oa, none⟩) la ca, .slice (some ⟨gb, ob, none⟩) lb cb] w K :=
  overlaps_no (t := 39) (tR := 4) (e := 45) (n := 4) Try.func67 (by kernel_rfl) (by kernel_rfl) (by kernel_rfl) (by kernel_rfl) (by kernel_rfl) (by kernel_rfl) ha hb hne hpos hK
theorem und_int : Try.prog.underlying 3 = some (.int .i64) := by kernel_rfl
theorem und_bool : Try.prog.underlying 4 = some .bool := by kernel_rfl
end Go.Proofs.Ytkdilapijegogaa
