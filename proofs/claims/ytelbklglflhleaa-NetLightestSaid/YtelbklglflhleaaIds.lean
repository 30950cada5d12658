/-
  The numbers of the seat's types.
-/
import Derived.Test.YtelbklglflhleaaFBase
import Derived.Test.YtelbklglflhleaaMpRaw
namespace Go.Proofs.Ytelbklglflhleaa
open Go Go.Den
abbrev tInt : TypeId := 3
abbrev tBool : TypeId := 4
abbrev tArc : TypeId := 32
abbrev tsArc : TypeId := 22
abbrev tssArc : TypeId := 60
abbrev tNet : TypeId := 62
abbrev tRNet : TypeId := 42
abbrev tsInt : TypeId := 56
abbrev tsBool : TypeId := 57
abbrev tArr3 : TypeId := 69
abbrev tArr2 : TypeId := 54
abbrev tsArr3 : TypeId := 49
theorem size_Int : (Try.prog.info? 3).map (·.size) = some 1 := by kernel_rfl
theorem size_Bool : (Try.prog.info? 4).map (·.size) = some 1 := by kernel_rfl
theorem size_Arc : (Try.prog.info? 32).map (·.size) = some 4 := by kernel_rfl
theorem elem_sArc : Elem Try.prog 22 32 4 32 [(Value.int .i64 (0 : Int)), (Value.int .i64 (0 : Int)), (Value.int .i64 (0 : Int)), (Value.int .i64 (0 : Int))] := ⟨by kernel_rfl, by kernel_rfl, by decide, rfl⟩
theorem size_sArc : (Try.prog.info? 22).map (·.size) = some 1 := by kernel_rfl
theorem elem_ssArc : Elem Try.prog 60 22 1 24 [(Value.slice none 0 0)] := ⟨by kernel_rfl, by kernel_rfl, by decide, rfl⟩
theorem size_ssArc : (Try.prog.info? 60).map (·.size) = some 1 := by kernel_rfl
theorem size_Net : (Try.prog.info? 62).map (·.size) = some 2 := by kernel_rfl
theorem size_RNet : (Try.prog.info? 42).map (·.size) = some 2 := by kernel_rfl
theorem elem_sInt : Elem Try.prog 56 3 1 8 [(Value.int .i64 (0 : Int))] := ⟨by kernel_rfl, by kernel_rfl, by decide, rfl⟩
theorem size_sInt : (Try.prog.info? 56).map (·.size) = some 1 := by kernel_rfl
theorem elem_sBool : Elem Try.prog 57 4 1 1 [(Value.bool false)] := ⟨by kernel_rfl, by kernel_rfl, by decide, rfl⟩
theorem size_sBool : (Try.prog.info? 57).map (·.size) = some 1 := by kernel_rfl
theorem size_Arr3 : (Try.prog.info? 69).map (·.size) = some 3 := by kernel_rfl
theorem size_Arr2 : (Try.prog.info? 54).map (·.size) = some 2 := by kernel_rfl
theorem elem_sArr3 : Elem Try.prog 49 69 3 24 [(Value.int .i64 (0 : Int)), (Value.int .i64 (0 : Int)), (Value.int .i64 (0 : Int))] := ⟨by kernel_rfl, by kernel_rfl, by decide, rfl⟩
theorem size_sArr3 : (Try.prog.info? 49).map (·.size) = some 1 := by kernel_rfl
abbrev fn_net_Net_may_c1 : FuncId := 35
abbrev fn_net_byTo_c1 : FuncId := 37
abbrev fn_net_byFrom_c1 : FuncId := 40
theorem no_overlap_Arc {w : World} {ga gb oa ob la ca lb cb : Nat} {ea eb : TypeId} {xa xb : List Value} (ha : Own w ga ea xa) (hb : Own w gb eb xb) (hne : ga ≠ gb) (hpos : xb.length ≠ 0) {K : Bool → World → Prop} (hK : K false w) :
    extD Try.prog (.c .bool) 42 [.slice (some ⟨ga, oa, none⟩) la ca, .slice (some ⟨gb, ob, none⟩) lb cb] w K :=
  overlaps_no (t := 22) (tR := 4) (e := 32) (n := 4) Try.func42 (by kernel_rfl) (by kernel_rfl) (by kernel_rfl) (by kernel_rfl) (by kernel_rfl) (by kernel_rfl) ha hb hne hpos hK
theorem und_int : Try.prog.underlying 3 = some (.int .i64) := by kernel_rfl
theorem und_bool : Try.prog.underlying 4 = some .bool := by kernel_rfl
end Go.Proofs.Ytelbklglflhleaa
