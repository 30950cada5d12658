/-
  No cell of these rows narrows 'for every input' (looked for: loops, veiled, ifaces, maps, wideKeys, modest, calm, conditions, laid).
  DERIVED. THE GIVEN ROWS OF THIS SEAT. 3 by the template 'for every input the law returns true; each argument reads behind the call as it read before'; 0 by the template 'total and deterministic' (their statements: YtdmcgddefnnbmaaTotals.lean).
  GIVEN WITH THE SEED: the statements are not yours to turn. If you find one false, say at which input.
  Laid BY PROGRAM, IN A SANDBOX (cutbox-rows.mjs): the forced cells as the released guide's own fill.sh prints them over the translation 0b00b502a7b18315… (all of the seat's roots in one cut). By AI agents, Wed Nov 11 2026. No macro, syntax, notation, axiom, sorry.
-/
import Derived.Test.YtdmcgddefnnbmaaChecked
import GoSem.Claim
import GoSem.ClaimJoined
import GoSem.ClaimMapViews
import Derived.JoinedTies
import Derived.KernelRfl
namespace Go.Proofs.Ytdmcgddefnnbmaa
/- THE CELL 'sum', in the pinned program and in every row, IS THE sha256 OF THE DUMP (.gsa) THAT YtdmcgddefnnbmaaProg.lean LOADS. Nothing in Lean hashes anything: it is a label: what it is worth is what the hold of that sum in a sandbox is worth. -/
noncomputable def Try.pinned : Pinned := { name := "ytdmcgddefnnbmaa", sum := "0b00b502a7b183151b751d3fabf8be4c73a7c46f0664239cc5b97343a9570b57", checked := Try.checked }
namespace Rows
def none {H : Type} : Left H := { results := [], args := [] }

/-- 'milepostlaw16.LevelsTell': WHATEVER THE INPUT: true; the input reads as it did. -/
def levelsTellSpec : ChangeSpec := { name := "levelsTell", fn := fun _ => fun
  | [d1, d2, d3] => { results := [.lit (.bool true)], args := [d1, d2, d3] }
  | _ => none }
def levelsTellRow : OpenClaim := { program := "ytdmcgddefnnbmaa", sum := "0b00b502a7b183151b751d3fabf8be4c73a7c46f0664239cc5b97343a9570b57", func := "milepost/milepostlaw16.LevelsTell", spec := "levelsTell", inPlace := ["slices.overlaps[milepost/api.Arc]"], unfollowed := true, recurses := true, apart := false }
def LevelsTellSaid : Prop := levelsTellRow.holds Try.pinned (OpenSpec.ofChange levelsTellSpec)

/-- ITS FALSE NEIGHBOUR: 'it returns false'. Refute it at one input. -/
def levelsTellWrong : ChangeSpec := { name := "levelsTell", fn := fun _ => fun
  | [d1, d2, d3] => { results := [.lit (.bool false)], args := [d1, d2, d3] }
  | _ => none }
def LevelsTellWrongFalsely : Prop := levelsTellRow.holds Try.pinned (OpenSpec.ofChange levelsTellWrong)

/-- 'milepostlaw16.LevelsFar': WHATEVER THE INPUT: true; the input reads as it did. -/
def levelsFarSpec : ChangeSpec := { name := "levelsFar", fn := fun _ => fun
  | [d1, d2] => { results := [.lit (.bool true)], args := [d1, d2] }
  | _ => none }
def levelsFarRow : OpenClaim := { program := "ytdmcgddefnnbmaa", sum := "0b00b502a7b183151b751d3fabf8be4c73a7c46f0664239cc5b97343a9570b57", func := "milepost/milepostlaw16.LevelsFar", spec := "levelsFar", inPlace := ["slices.overlaps[milepost/api.Arc]"], unfollowed := true, recurses := true, apart := false }
def LevelsFarSaid : Prop := levelsFarRow.holds Try.pinned (OpenSpec.ofChange levelsFarSpec)

/-- ITS FALSE NEIGHBOUR: 'it returns false'. Refute it at one input. -/
def levelsFarWrong : ChangeSpec := { name := "levelsFar", fn := fun _ => fun
  | [d1, d2] => { results := [.lit (.bool false)], args := [d1, d2] }
  | _ => none }
def LevelsFarWrongFalsely : Prop := levelsFarRow.holds Try.pinned (OpenSpec.ofChange levelsFarWrong)

/-- 'milepostlaw16.LevelsOwn': WHATEVER THE INPUT: true; the input reads as it did. -/
def levelsOwnSpec : ChangeSpec := { name := "levelsOwn", fn := fun _ => fun
  | [d1, d2] => { results := [.lit (.bool true)], args := [d1, d2] }
  | _ => none }
def levelsOwnRow : OpenClaim := { program := "ytdmcgddefnnbmaa", sum := "0b00b502a7b183151b751d3fabf8be4c73a7c46f0664239cc5b97343a9570b57", func := "milepost/milepostlaw16.LevelsOwn", spec := "levelsOwn", inPlace := ["slices.overlaps[milepost/api.Arc]"], unfollowed := true, recurses := true, apart := false }
def LevelsOwnSaid : Prop := levelsOwnRow.holds Try.pinned (OpenSpec.ofChange levelsOwnSpec)

/-- ITS FALSE NEIGHBOUR: 'it returns false'. Refute it at one input. -/
def levelsOwnWrong : ChangeSpec := { name := "levelsOwn", fn := fun _ => fun
  | [d1, d2] => { results := [.lit (.bool false)], args := [d1, d2] }
  | _ => none }
def LevelsOwnWrongFalsely : Prop := levelsOwnRow.holds Try.pinned (OpenSpec.ofChange levelsOwnWrong)

/- THE SECOND FORM. 'bulk': how many values and letters a reading holds, each counted each time it is reached (what is shared counts as often as it is met; a slice's spare places count too). A statement '..UptoSaid' is the law's where the arguments, and the package variables that the reading takes, are together of bulk at most 1048576: NARROWER than '..Said'. Prove '..Said' where nothing that the law and all that it calls make is longer than what came in: it says more and counts as full. Else prove '..UptoSaid'. A law counts once. -/
mutual
def uptoBulk {H : Type} : DataW H → Nat
  | .lit (.string bytes) => bytes.length + 1
  | .lit _ => 1
  | .nil => 1
  | .ptr d => uptoBulk d + 1
  | .slice elems spare => uptoBulkAll elems + uptoBulkAll spare + 1
  | .agg parts => uptoBulkAll parts + 1
  | .iface _ d => uptoBulk d + 1
  | .map entries => uptoBulkEntries entries + 1
  | .held _ => 1
def uptoBulkAll {H : Type} : List (DataW H) → Nat
  | [] => 0
  | d :: r => uptoBulk d + uptoBulkAll r
def uptoBulkEntries {H : Type} : List (Lit × DataW H) → Nat
  | [] => 0
  | x :: r => uptoBulkEntry x + uptoBulkEntries r
def uptoBulkEntry {H : Type} : Lit × DataW H → Nat
  | (.string bytes, d) => bytes.length + uptoBulk d + 1
  | (_, d) => uptoBulk d + 1
 end
def uptoSmall : (H : Type) → List (DataW H) → Bool := fun _ ds => decide (uptoBulkAll ds ≤ 1048576)
def OpenSpec.upto (s : _root_.Go.ChangeSpec) : _root_.Go.OpenSpec := { _root_.Go.OpenSpec.ofChange s with cond := some uptoSmall }

/-- 'milepostlaw16.LevelsTell', WHERE WHAT IT READS IS OF BULK AT MOST 1048576: true; the input reads as it did. -/
def levelsTellUptoRow : OpenClaim := { program := "ytdmcgddefnnbmaa", sum := "0b00b502a7b183151b751d3fabf8be4c73a7c46f0664239cc5b97343a9570b57", func := "milepost/milepostlaw16.LevelsTell", spec := "levelsTell", inPlace := ["slices.overlaps[milepost/api.Arc]"], unfollowed := true, recurses := true, apart := false, narrowed := true }
def LevelsTellUptoSaid : Prop := levelsTellUptoRow.holds Try.pinned (OpenSpec.upto levelsTellSpec)

/-- 'milepostlaw16.LevelsFar', WHERE WHAT IT READS IS OF BULK AT MOST 1048576: true; the input reads as it did. -/
def levelsFarUptoRow : OpenClaim := { program := "ytdmcgddefnnbmaa", sum := "0b00b502a7b183151b751d3fabf8be4c73a7c46f0664239cc5b97343a9570b57", func := "milepost/milepostlaw16.LevelsFar", spec := "levelsFar", inPlace := ["slices.overlaps[milepost/api.Arc]"], unfollowed := true, recurses := true, apart := false, narrowed := true }
def LevelsFarUptoSaid : Prop := levelsFarUptoRow.holds Try.pinned (OpenSpec.upto levelsFarSpec)

/-- 'milepostlaw16.LevelsOwn', WHERE WHAT IT READS IS OF BULK AT MOST 1048576: true; the input reads as it did. -/
def levelsOwnUptoRow : OpenClaim := { program := "ytdmcgddefnnbmaa", sum := "0b00b502a7b183151b751d3fabf8be4c73a7c46f0664239cc5b97343a9570b57", func := "milepost/milepostlaw16.LevelsOwn", spec := "levelsOwn", inPlace := ["slices.overlaps[milepost/api.Arc]"], unfollowed := true, recurses := true, apart := false, narrowed := true }
def LevelsOwnUptoSaid : Prop := levelsOwnUptoRow.holds Try.pinned (OpenSpec.upto levelsOwnSpec)

end Rows
end Go.Proofs.Ytdmcgddefnnbmaa
