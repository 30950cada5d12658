/-
  The numbers of the seat's types.
-/
import Derived.Test.YtadacfoiphklgaaFBase
import Derived.Test.YtadacfoiphklgaaMpRaw
namespace Go.Proofs.Ytadacfoiphklgaa
open Go Go.Den
abbrev tInt : TypeId := 3
abbrev tBool : TypeId := 4
abbrev tArc : TypeId := 42
abbrev tsArc : TypeId := 30
abbrev tssArc : TypeId := 63
abbrev tNet : TypeId := 65
abbrev tRNet : TypeId := 57
abbrev tsInt : TypeId := 44
abbrev tsBool : TypeId := 23
abbrev tArr3 : TypeId := 47
abbrev tsArr3 : TypeId := 22
abbrev tItem : TypeId := 93
abbrev tsItem : TypeId := 83
abbrev tHeap : TypeId := 86
abbrev tKey : TypeId := 76
abbrev tsKey : TypeId := 72
abbrev tRHeap : TypeId := 74
theorem size_Int : (Try.prog.info? 3).map (·.size) = some 1 := by kernel_rfl
theorem size_Bool : (Try.prog.info? 4).map (·.size) = some 1 := by kernel_rfl
theorem size_Arc : (Try.prog.info? 42).map (·.size) = some 4 := by kernel_rfl
theorem elem_sArc : Elem Try.prog 30 42 4 32 [(Value.int .i64 (0 : Int)), (Value.int .i64 (0 : Int)), (Value.int .i64 (0 : Int)), (Value.int .i64 (0 : Int))] := ⟨by kernel_rfl, by kernel_rfl, by decide, rfl⟩
theorem size_sArc : (Try.prog.info? 30).map (·.size) = some 1 := by kernel_rfl
theorem elem_ssArc : Elem Try.prog 63 30 1 24 [(Value.slice none 0 0)] := ⟨by kernel_rfl, by kernel_rfl, by decide, rfl⟩
theorem size_ssArc : (Try.prog.info? 63).map (·.size) = some 1 := by kernel_rfl
theorem size_Net : (Try.prog.info? 65).map (·.size) = some 2 := by kernel_rfl
theorem size_RNet : (Try.prog.info? 57).map (·.size) = some 2 := by kernel_rfl
theorem elem_sInt : Elem Try.prog 44 3 1 8 [(Value.int .i64 (0 : Int))] := ⟨by kernel_rfl, by kernel_rfl, by decide, rfl⟩
theorem size_sInt : (Try.prog.info? 44).map (·.size) = some 1 := by kernel_rfl
theorem elem_sBool : Elem Try.prog 23 4 1 1 [(Value.bool false)] := ⟨by kernel_rfl, by kernel_rfl, by decide, rfl⟩
theorem size_sBool : (Try.prog.info? 23).map (·.size) = some 1 := by kernel_rfl
theorem size_Arr3 : (Try.prog.info? 47).map (·.size) = some 3 := by kernel_rfl
theorem elem_sArr3 : Elem Try.prog 22 47 3 24 [(Value.int .i64 (0 : Int)), (Value.int .i64 (0 : Int)), (Value.int .i64 (0 : Int))] := ⟨by kernel_rfl, by kernel_rfl, by decide, rfl⟩
theorem size_sArr3 : (Try.prog.info? 22).map (·.size) = some 1 := by kernel_rfl
theorem size_Item : (Try.prog.info? 93).map (·.size) = some 2 := by kernel_rfl
theorem elem_sItem : Elem Try.prog 83 93 2 16 [(Value.int .i64 (0 : Int)), (Value.int .i64 (0 : Int))] := ⟨by kernel_rfl, by kernel_rfl, by decide, rfl⟩
theorem size_sItem : (Try.prog.info? 83).map (·.size) = some 1 := by kernel_rfl
theorem size_Heap : (Try.prog.info? 86).map (·.size) = some 2 := by kernel_rfl
theorem size_Key : (Try.prog.info? 76).map (·.size) = some 2 := by kernel_rfl
theorem elem_sKey : Elem Try.prog 72 76 2 16 [(Value.int .i64 (0 : Int)), (Value.int .i64 (0 : Int))] := ⟨by kernel_rfl, by kernel_rfl, by decide, rfl⟩
theorem size_sKey : (Try.prog.info? 72).map (·.size) = some 1 := by kernel_rfl
theorem size_RHeap : (Try.prog.info? 74).map (·.size) = some 1 := by kernel_rfl
abbrev fn_witness_Find_c1 : FuncId := 45
abbrev fn_net_byFrom_c1 : FuncId := 49
abbrev fn_net_byTo_c1 : FuncId := 51
abbrev fn_net_Net_may_c1 : FuncId := 52
theorem no_overlap_Arc {w : World} {ga gb oa ob la ca lb cb : Nat} {ea eb : TypeId} {xa xb : List Value} (ha : Own w ga ea xa) (hb : Own w gb eb xb) (hne : ga ≠ gb) (hpos : xb.length ≠ 0) {K : Bool → World → Prop} (hK : K false w) :
    extD Try.prog (.c .bool) 62 [.slice (some ⟨ga, oa, none⟩) la ca, .slice (some ⟨gb, ob, none⟩) lb cb] w K :=
  overlaps_no (t := 30) (tR := 4) (e := 42) (n := 4) Try.func62 (by kernel_rfl) (by kernel_rfl) (by kernel_rfl) (by kernel_rfl) (by kernel_rfl) (by kernel_rfl) ha hb hne hpos hK
theorem und_int : Try.prog.underlying 3 = some (.int .i64) := by kernel_rfl
theorem und_bool : Try.prog.underlying 4 = some .bool := by kernel_rfl
end Go.Proofs.Ytadacfoiphklgaa
