/-
  No cell of these rows narrows 'for every input' (looked for: loops, veiled, ifaces, maps, wideKeys, modest, calm, conditions, laid).
  DERIVED. THE GIVEN ROWS OF THIS SEAT. 5 by the template 'for every input the law returns true; each argument reads behind the call as it read before'; 0 by the template 'total and deterministic' (their statements: YtjjgcimlmjnaeaaGreatTotals.lean).
  GIVEN WITH THE SEED: the statements are not yours to turn. If you find one false, say at which input.
  Laid BY PROGRAM, IN A SANDBOX (cutbox-rows.mjs): the forced cells as the released guide's own fill.sh prints them over the translation 6483f1f2daf8cf61… (all of the seat's roots in one cut). By AI agents, Wed Nov 11 2026. No macro, syntax, notation, axiom, sorry.
-/
import Derived.Test.YtjjgcimlmjnaeaaGreatChecked
import GoSem.Claim
import GoSem.ClaimJoined
import GoSem.ClaimMapViews
import Derived.JoinedTies
import Derived.KernelRfl
namespace Go.Proofs.YtjjgcimlmjnaeaaGreat
/- THE CELL 'sum', in the pinned program and in every row, IS THE sha256 OF THE DUMP (.gsa) THAT YtjjgcimlmjnaeaaGreatProg.lean LOADS. Nothing in Lean hashes anything: it is a label: what it is worth is what the hold of that sum in a sandbox is worth. -/
noncomputable def Tryz.pinned : Pinned := { name := "ytjjgcimlmjnaeaagreat", sum := "6483f1f2daf8cf61af3a77e762b124453592bfad3d4bee53cb88b5c68f59778d", checked := Tryz.checked }
namespace Rows
def none {H : Type} : Left H := { results := [], args := [] }

/-- 'milepostlaw28.SessionFalls': WHATEVER THE INPUT: true; the input reads as it did. -/
def sessionFallsSpec : ChangeSpec := { name := "sessionFalls", fn := fun _ => fun
  | [d1, d2, d3, d4] => { results := [.lit (.bool true)], args := [d1, d2, d3, d4] }
  | _ => none }
def sessionFallsRow : OpenClaim := { program := "ytjjgcimlmjnaeaagreat", sum := "6483f1f2daf8cf61af3a77e762b124453592bfad3d4bee53cb88b5c68f59778d", func := "milepost/milepostlaw28.SessionFalls", spec := "sessionFalls", inPlace := ["slices.overlaps[milepost/api.Arc]"], unfollowed := true, recurses := true, apart := false }
def SessionFallsSaid : Prop := sessionFallsRow.holds Tryz.pinned (OpenSpec.ofChange sessionFallsSpec)

/-- ITS FALSE NEIGHBOUR: 'it returns false'. Refute it at one input. -/
def sessionFallsWrong : ChangeSpec := { name := "sessionFalls", fn := fun _ => fun
  | [d1, d2, d3, d4] => { results := [.lit (.bool false)], args := [d1, d2, d3, d4] }
  | _ => none }
def SessionFallsWrongFalsely : Prop := sessionFallsRow.holds Tryz.pinned (OpenSpec.ofChange sessionFallsWrong)

/-- 'milepostlaw28.SessionActs': WHATEVER THE INPUT: true; the input reads as it did. -/
def sessionActsSpec : ChangeSpec := { name := "sessionActs", fn := fun _ => fun
  | [d1, d2, d3, d4] => { results := [.lit (.bool true)], args := [d1, d2, d3, d4] }
  | _ => none }
def sessionActsRow : OpenClaim := { program := "ytjjgcimlmjnaeaagreat", sum := "6483f1f2daf8cf61af3a77e762b124453592bfad3d4bee53cb88b5c68f59778d", func := "milepost/milepostlaw28.SessionActs", spec := "sessionActs", inPlace := ["slices.overlaps[milepost/api.Arc]"], unfollowed := true, recurses := true, apart := false }
def SessionActsSaid : Prop := sessionActsRow.holds Tryz.pinned (OpenSpec.ofChange sessionActsSpec)

/-- ITS FALSE NEIGHBOUR: 'it returns false'. Refute it at one input. -/
def sessionActsWrong : ChangeSpec := { name := "sessionActs", fn := fun _ => fun
  | [d1, d2, d3, d4] => { results := [.lit (.bool false)], args := [d1, d2, d3, d4] }
  | _ => none }
def SessionActsWrongFalsely : Prop := sessionActsRow.holds Tryz.pinned (OpenSpec.ofChange sessionActsWrong)

/-- 'milepostlaw28.SessionChanges': WHATEVER THE INPUT: true; the input reads as it did. -/
def sessionChangesSpec : ChangeSpec := { name := "sessionChanges", fn := fun _ => fun
  | [d1, d2, d3, d4] => { results := [.lit (.bool true)], args := [d1, d2, d3, d4] }
  | _ => none }
def sessionChangesRow : OpenClaim := { program := "ytjjgcimlmjnaeaagreat", sum := "6483f1f2daf8cf61af3a77e762b124453592bfad3d4bee53cb88b5c68f59778d", func := "milepost/milepostlaw28.SessionChanges", spec := "sessionChanges", inPlace := ["slices.overlaps[milepost/api.Arc]"], unfollowed := true, recurses := true, apart := false }
def SessionChangesSaid : Prop := sessionChangesRow.holds Tryz.pinned (OpenSpec.ofChange sessionChangesSpec)

/-- ITS FALSE NEIGHBOUR: 'it returns false'. Refute it at one input. -/
def sessionChangesWrong : ChangeSpec := { name := "sessionChanges", fn := fun _ => fun
  | [d1, d2, d3, d4] => { results := [.lit (.bool false)], args := [d1, d2, d3, d4] }
  | _ => none }
def SessionChangesWrongFalsely : Prop := sessionChangesRow.holds Tryz.pinned (OpenSpec.ofChange sessionChangesWrong)

/-- 'milepostlaw28.SessionStays': WHATEVER THE INPUT: true; the input reads as it did. -/
def sessionStaysSpec : ChangeSpec := { name := "sessionStays", fn := fun _ => fun
  | [d1, d2, d3, d4] => { results := [.lit (.bool true)], args := [d1, d2, d3, d4] }
  | _ => none }
def sessionStaysRow : OpenClaim := { program := "ytjjgcimlmjnaeaagreat", sum := "6483f1f2daf8cf61af3a77e762b124453592bfad3d4bee53cb88b5c68f59778d", func := "milepost/milepostlaw28.SessionStays", spec := "sessionStays", inPlace := ["slices.overlaps[milepost/api.Arc]"], unfollowed := true, recurses := true, apart := false }
def SessionStaysSaid : Prop := sessionStaysRow.holds Tryz.pinned (OpenSpec.ofChange sessionStaysSpec)

/-- ITS FALSE NEIGHBOUR: 'it returns false'. Refute it at one input. -/
def sessionStaysWrong : ChangeSpec := { name := "sessionStays", fn := fun _ => fun
  | [d1, d2, d3, d4] => { results := [.lit (.bool false)], args := [d1, d2, d3, d4] }
  | _ => none }
def SessionStaysWrongFalsely : Prop := sessionStaysRow.holds Tryz.pinned (OpenSpec.ofChange sessionStaysWrong)

/-- 'milepostlaw28.SessionMasks': WHATEVER THE INPUT: true; the input reads as it did. -/
def sessionMasksSpec : ChangeSpec := { name := "sessionMasks", fn := fun _ => fun
  | [d1, d2, d3, d4] => { results := [.lit (.bool true)], args := [d1, d2, d3, d4] }
  | _ => none }
def sessionMasksRow : OpenClaim := { program := "ytjjgcimlmjnaeaagreat", sum := "6483f1f2daf8cf61af3a77e762b124453592bfad3d4bee53cb88b5c68f59778d", func := "milepost/milepostlaw28.SessionMasks", spec := "sessionMasks", inPlace := ["slices.overlaps[milepost/api.Arc]"], unfollowed := true, recurses := true, apart := false }
def SessionMasksSaid : Prop := sessionMasksRow.holds Tryz.pinned (OpenSpec.ofChange sessionMasksSpec)

/-- ITS FALSE NEIGHBOUR: 'it returns false'. Refute it at one input. -/
def sessionMasksWrong : ChangeSpec := { name := "sessionMasks", fn := fun _ => fun
  | [d1, d2, d3, d4] => { results := [.lit (.bool false)], args := [d1, d2, d3, d4] }
  | _ => none }
def SessionMasksWrongFalsely : Prop := sessionMasksRow.holds Tryz.pinned (OpenSpec.ofChange sessionMasksWrong)

/- THE SECOND FORM. 'bulk': how many values and letters a reading holds, each counted each time it is reached (what is shared counts as often as it is met; a slice's spare places count too). A statement '..UptoSaid' is the law's where the arguments, and the package variables that the reading takes, are together of bulk at most 1048576: NARROWER than '..Said'. Prove '..Said' where nothing that the law and all that it calls make is longer than what came in: it says more and counts as full. Else prove '..UptoSaid'. A law counts once. -/
mutual
def uptoBulk {H : Type} : DataW H → Nat
  | .lit (.string bytes) => bytes.length + 1
  | .lit _ => 1
  | .nil => 1
  | .ptr d => uptoBulk d + 1
  | .slice elems spare => uptoBulkAll elems + uptoBulkAll spare + 1
  | .agg parts => uptoBulkAll parts + 1
  | .iface _ d => uptoBulk d + 1
  | .map entries => uptoBulkEntries entries + 1
  | .held _ => 1
def uptoBulkAll {H : Type} : List (DataW H) → Nat
  | [] => 0
  | d :: r => uptoBulk d + uptoBulkAll r
def uptoBulkEntries {H : Type} : List (Lit × DataW H) → Nat
  | [] => 0
  | x :: r => uptoBulkEntry x + uptoBulkEntries r
def uptoBulkEntry {H : Type} : Lit × DataW H → Nat
  | (.string bytes, d) => bytes.length + uptoBulk d + 1
  | (_, d) => uptoBulk d + 1
 end
def uptoSmall : (H : Type) → List (DataW H) → Bool := fun _ ds => decide (uptoBulkAll ds ≤ 1048576)
def OpenSpec.upto (s : _root_.Go.ChangeSpec) : _root_.Go.OpenSpec := { _root_.Go.OpenSpec.ofChange s with cond := some uptoSmall }

/-- 'milepostlaw28.SessionFalls', WHERE WHAT IT READS IS OF BULK AT MOST 1048576: true; the input reads as it did. -/
def sessionFallsUptoRow : OpenClaim := { program := "ytjjgcimlmjnaeaagreat", sum := "6483f1f2daf8cf61af3a77e762b124453592bfad3d4bee53cb88b5c68f59778d", func := "milepost/milepostlaw28.SessionFalls", spec := "sessionFalls", inPlace := ["slices.overlaps[milepost/api.Arc]"], unfollowed := true, recurses := true, apart := false, narrowed := true }
def SessionFallsUptoSaid : Prop := sessionFallsUptoRow.holds Tryz.pinned (OpenSpec.upto sessionFallsSpec)

/-- 'milepostlaw28.SessionActs', WHERE WHAT IT READS IS OF BULK AT MOST 1048576: true; the input reads as it did. -/
def sessionActsUptoRow : OpenClaim := { program := "ytjjgcimlmjnaeaagreat", sum := "6483f1f2daf8cf61af3a77e762b124453592bfad3d4bee53cb88b5c68f59778d", func := "milepost/milepostlaw28.SessionActs", spec := "sessionActs", inPlace := ["slices.overlaps[milepost/api.Arc]"], unfollowed := true, recurses := true, apart := false, narrowed := true }
def SessionActsUptoSaid : Prop := sessionActsUptoRow.holds Tryz.pinned (OpenSpec.upto sessionActsSpec)

/-- 'milepostlaw28.SessionChanges', WHERE WHAT IT READS IS OF BULK AT MOST 1048576: true; the input reads as it did. -/
def sessionChangesUptoRow : OpenClaim := { program := "ytjjgcimlmjnaeaagreat", sum := "6483f1f2daf8cf61af3a77e762b124453592bfad3d4bee53cb88b5c68f59778d", func := "milepost/milepostlaw28.SessionChanges", spec := "sessionChanges", inPlace := ["slices.overlaps[milepost/api.Arc]"], unfollowed := true, recurses := true, apart := false, narrowed := true }
def SessionChangesUptoSaid : Prop := sessionChangesUptoRow.holds Tryz.pinned (OpenSpec.upto sessionChangesSpec)

/-- 'milepostlaw28.SessionStays', WHERE WHAT IT READS IS OF BULK AT MOST 1048576: true; the input reads as it did. -/
def sessionStaysUptoRow : OpenClaim := { program := "ytjjgcimlmjnaeaagreat", sum := "6483f1f2daf8cf61af3a77e762b124453592bfad3d4bee53cb88b5c68f59778d", func := "milepost/milepostlaw28.SessionStays", spec := "sessionStays", inPlace := ["slices.overlaps[milepost/api.Arc]"], unfollowed := true, recurses := true, apart := false, narrowed := true }
def SessionStaysUptoSaid : Prop := sessionStaysUptoRow.holds Tryz.pinned (OpenSpec.upto sessionStaysSpec)

/-- 'milepostlaw28.SessionMasks', WHERE WHAT IT READS IS OF BULK AT MOST 1048576: true; the input reads as it did. -/
def sessionMasksUptoRow : OpenClaim := { program := "ytjjgcimlmjnaeaagreat", sum := "6483f1f2daf8cf61af3a77e762b124453592bfad3d4bee53cb88b5c68f59778d", func := "milepost/milepostlaw28.SessionMasks", spec := "sessionMasks", inPlace := ["slices.overlaps[milepost/api.Arc]"], unfollowed := true, recurses := true, apart := false, narrowed := true }
def SessionMasksUptoSaid : Prop := sessionMasksUptoRow.holds Tryz.pinned (OpenSpec.upto sessionMasksSpec)

end Rows
end Go.Proofs.YtjjgcimlmjnaeaaGreat
