/-
  No cell of these rows narrows 'for every input' (looked for: loops, veiled, ifaces, maps, wideKeys, modest, calm, conditions, laid).
  DERIVED. THE GIVEN ROWS OF THIS SEAT. 3 by the template 'for every input the law returns true; each argument reads behind the call as it read before'; 0 by the template 'total and deterministic' (their statements: YtljiijljeipdhaaGreatTotals.lean).
  GIVEN WITH THE SEED: the statements are not yours to turn. If you find one false, say at which input.
  Laid BY PROGRAM, IN A SANDBOX (cutbox-rows.mjs): the forced cells as the released guide's own fill.sh prints them over the translation 43f1ccada1f891b5… (all of the seat's roots in one cut). By AI agents, Wed Nov 11 2026. No macro, syntax, notation, axiom, sorry.
-/
import Derived.Test.YtljiijljeipdhaaGreatChecked
import GoSem.Claim
import GoSem.ClaimJoined
import GoSem.ClaimMapViews
import Derived.JoinedTies
import Derived.KernelRfl
namespace Go.Proofs.YtljiijljeipdhaaGreat
/- THE CELL 'sum', in the pinned program and in every row, IS THE sha256 OF THE DUMP (.gsa) THAT YtljiijljeipdhaaGreatProg.lean LOADS. Nothing in Lean hashes anything: it is a label: what it is worth is what the hold of that sum in a sandbox is worth. -/
noncomputable def Tryz.pinned : Pinned := { name := "ytljiijljeipdhaagreat", sum := "43f1ccada1f891b5d2f5686261206b02db8f2eb46ef5b9e83035ad4ff299d4a8", checked := Tryz.checked }
namespace Rows
def none {H : Type} : Left H := { results := [], args := [] }

/-- 'milepostlaw20.EngineTells': WHATEVER THE INPUT: true; the input reads as it did. -/
def engineTellsSpec : ChangeSpec := { name := "engineTells", fn := fun _ => fun
  | [d1, d2, d3] => { results := [.lit (.bool true)], args := [d1, d2, d3] }
  | _ => none }
def engineTellsRow : OpenClaim := { program := "ytljiijljeipdhaagreat", sum := "43f1ccada1f891b5d2f5686261206b02db8f2eb46ef5b9e83035ad4ff299d4a8", func := "milepost/milepostlaw20.EngineTells", spec := "engineTells", inPlace := ["slices.overlaps[milepost/api.Arc]"], unfollowed := true, recurses := true, apart := false }
def EngineTellsSaid : Prop := engineTellsRow.holds Tryz.pinned (OpenSpec.ofChange engineTellsSpec)

/-- ITS FALSE NEIGHBOUR: 'it returns false'. Refute it at one input. -/
def engineTellsWrong : ChangeSpec := { name := "engineTells", fn := fun _ => fun
  | [d1, d2, d3] => { results := [.lit (.bool false)], args := [d1, d2, d3] }
  | _ => none }
def EngineTellsWrongFalsely : Prop := engineTellsRow.holds Tryz.pinned (OpenSpec.ofChange engineTellsWrong)

/-- 'milepostlaw20.EngineWays': WHATEVER THE INPUT: true; the input reads as it did. -/
def engineWaysSpec : ChangeSpec := { name := "engineWays", fn := fun _ => fun
  | [d1, d2, d3, d4, d5] => { results := [.lit (.bool true)], args := [d1, d2, d3, d4, d5] }
  | _ => none }
def engineWaysRow : OpenClaim := { program := "ytljiijljeipdhaagreat", sum := "43f1ccada1f891b5d2f5686261206b02db8f2eb46ef5b9e83035ad4ff299d4a8", func := "milepost/milepostlaw20.EngineWays", spec := "engineWays", inPlace := ["slices.overlaps[milepost/api.Arc]"], unfollowed := true, recurses := true, apart := false }
def EngineWaysSaid : Prop := engineWaysRow.holds Tryz.pinned (OpenSpec.ofChange engineWaysSpec)

/-- ITS FALSE NEIGHBOUR: 'it returns false'. Refute it at one input. -/
def engineWaysWrong : ChangeSpec := { name := "engineWays", fn := fun _ => fun
  | [d1, d2, d3, d4, d5] => { results := [.lit (.bool false)], args := [d1, d2, d3, d4, d5] }
  | _ => none }
def EngineWaysWrongFalsely : Prop := engineWaysRow.holds Tryz.pinned (OpenSpec.ofChange engineWaysWrong)

/-- 'milepostlaw20.EngineLevels': WHATEVER THE INPUT: true; the input reads as it did. -/
def engineLevelsSpec : ChangeSpec := { name := "engineLevels", fn := fun _ => fun
  | [d1, d2, d3, d4] => { results := [.lit (.bool true)], args := [d1, d2, d3, d4] }
  | _ => none }
def engineLevelsRow : OpenClaim := { program := "ytljiijljeipdhaagreat", sum := "43f1ccada1f891b5d2f5686261206b02db8f2eb46ef5b9e83035ad4ff299d4a8", func := "milepost/milepostlaw20.EngineLevels", spec := "engineLevels", inPlace := ["slices.overlaps[milepost/api.Arc]"], unfollowed := true, recurses := true, apart := false }
def EngineLevelsSaid : Prop := engineLevelsRow.holds Tryz.pinned (OpenSpec.ofChange engineLevelsSpec)

/-- ITS FALSE NEIGHBOUR: 'it returns false'. Refute it at one input. -/
def engineLevelsWrong : ChangeSpec := { name := "engineLevels", fn := fun _ => fun
  | [d1, d2, d3, d4] => { results := [.lit (.bool false)], args := [d1, d2, d3, d4] }
  | _ => none }
def EngineLevelsWrongFalsely : Prop := engineLevelsRow.holds Tryz.pinned (OpenSpec.ofChange engineLevelsWrong)

/- THE SECOND FORM. 'bulk': how many values and letters a reading holds, each counted each time it is reached (what is shared counts as often as it is met; a slice's spare places count too). A statement '..UptoSaid' is the law's where the arguments, and the package variables that the reading takes, are together of bulk at most 1048576: NARROWER than '..Said'. Prove '..Said' where nothing that the law and all that it calls make is longer than what came in: it says more and counts as full. Else prove '..UptoSaid'. A law counts once. -/
mutual
def uptoBulk {H : Type} : DataW H → Nat
  | .lit (.string bytes) => bytes.length + 1
  | .lit _ => 1
  | .nil => 1
  | .ptr d => uptoBulk d + 1
  | .slice elems spare => uptoBulkAll elems + uptoBulkAll spare + 1
  | .agg parts => uptoBulkAll parts + 1
  | .iface _ d => uptoBulk d + 1
  | .map entries => uptoBulkEntries entries + 1
  | .held _ => 1
def uptoBulkAll {H : Type} : List (DataW H) → Nat
  | [] => 0
  | d :: r => uptoBulk d + uptoBulkAll r
def uptoBulkEntries {H : Type} : List (Lit × DataW H) → Nat
  | [] => 0
  | x :: r => uptoBulkEntry x + uptoBulkEntries r
def uptoBulkEntry {H : Type} : Lit × DataW H → Nat
  | (.string bytes, d) => bytes.length + uptoBulk d + 1
  | (_, d) => uptoBulk d + 1
 end
def uptoSmall : (H : Type) → List (DataW H) → Bool := fun _ ds => decide (uptoBulkAll ds ≤ 1048576)
def OpenSpec.upto (s : _root_.Go.ChangeSpec) : _root_.Go.OpenSpec := { _root_.Go.OpenSpec.ofChange s with cond := some uptoSmall }

/-- 'milepostlaw20.EngineTells', WHERE WHAT IT READS IS OF BULK AT MOST 1048576: true; the input reads as it did. -/
def engineTellsUptoRow : OpenClaim := { program := "ytljiijljeipdhaagreat", sum := "43f1ccada1f891b5d2f5686261206b02db8f2eb46ef5b9e83035ad4ff299d4a8", func := "milepost/milepostlaw20.EngineTells", spec := "engineTells", inPlace := ["slices.overlaps[milepost/api.Arc]"], unfollowed := true, recurses := true, apart := false, narrowed := true }
def EngineTellsUptoSaid : Prop := engineTellsUptoRow.holds Tryz.pinned (OpenSpec.upto engineTellsSpec)

/-- 'milepostlaw20.EngineWays', WHERE WHAT IT READS IS OF BULK AT MOST 1048576: true; the input reads as it did. -/
def engineWaysUptoRow : OpenClaim := { program := "ytljiijljeipdhaagreat", sum := "43f1ccada1f891b5d2f5686261206b02db8f2eb46ef5b9e83035ad4ff299d4a8", func := "milepost/milepostlaw20.EngineWays", spec := "engineWays", inPlace := ["slices.overlaps[milepost/api.Arc]"], unfollowed := true, recurses := true, apart := false, narrowed := true }
def EngineWaysUptoSaid : Prop := engineWaysUptoRow.holds Tryz.pinned (OpenSpec.upto engineWaysSpec)

/-- 'milepostlaw20.EngineLevels', WHERE WHAT IT READS IS OF BULK AT MOST 1048576: true; the input reads as it did. -/
def engineLevelsUptoRow : OpenClaim := { program := "ytljiijljeipdhaagreat", sum := "43f1ccada1f891b5d2f5686261206b02db8f2eb46ef5b9e83035ad4ff299d4a8", func := "milepost/milepostlaw20.EngineLevels", spec := "engineLevels", inPlace := ["slices.overlaps[milepost/api.Arc]"], unfollowed := true, recurses := true, apart := false, narrowed := true }
def EngineLevelsUptoSaid : Prop := engineLevelsUptoRow.holds Tryz.pinned (OpenSpec.upto engineLevelsSpec)

end Rows
end Go.Proofs.YtljiijljeipdhaaGreat
