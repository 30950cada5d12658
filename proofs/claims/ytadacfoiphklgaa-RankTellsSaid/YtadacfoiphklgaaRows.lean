/-
  No cell of these rows narrows 'for every input' (looked for: loops, veiled, ifaces, maps, wideKeys, modest, calm, conditions, laid).
  DERIVED. THE GIVEN ROWS OF THIS SEAT. 5 by the template 'for every input the law returns true; each argument reads behind the call as it read before'; 0 by the template 'total and deterministic' (their statements: YtadacfoiphklgaaTotals.lean).
  GIVEN WITH THE SEED: the statements are not yours to turn. If you find one false, say at which input.
  Laid BY PROGRAM, IN A SANDBOX (cutbox-rows.mjs): the forced cells as the released guide's own fill.sh prints them over the translation fe97ba09ef878c34… (all of the seat's roots in one cut). By AI agents, Wed Nov 11 2026. No macro, syntax, notation, axiom, sorry.
-/
import Derived.Test.YtadacfoiphklgaaChecked
import GoSem.Claim
import GoSem.ClaimJoined
import GoSem.ClaimMapViews
import Derived.JoinedTies
import Derived.KernelRfl
namespace Go.Proofs.Ytadacfoiphklgaa
/- THE CELL 'sum', in the pinned program and in every row, IS THE sha256 OF THE DUMP (.gsa) THAT YtadacfoiphklgaaProg.lean LOADS. Nothing in Lean hashes anything: it is a label: what it is worth is what the hold of that sum in a sandbox is worth. -/
noncomputable def Try.pinned : Pinned := { name := "ytadacfoiphklgaa", sum := "fe97ba09ef878c34c38c87c7de21a8634dd22895f305ca3efa2dc9ec1d582243", checked := Try.checked }
namespace Rows
def none {H : Type} : Left H := { results := [], args := [] }

/-- 'milepostlaw15.RankTells': WHATEVER THE INPUT: true; the input reads as it did. -/
def rankTellsSpec : ChangeSpec := { name := "rankTells", fn := fun _ => fun
  | [d1, d2, d3] => { results := [.lit (.bool true)], args := [d1, d2, d3] }
  | _ => none }
def rankTellsRow : OpenClaim := { program := "ytadacfoiphklgaa", sum := "fe97ba09ef878c34c38c87c7de21a8634dd22895f305ca3efa2dc9ec1d582243", func := "milepost/milepostlaw15.RankTells", spec := "rankTells", inPlace := ["slices.overlaps[milepost/api.Arc]"], unfollowed := true, recurses := true, apart := false }
def RankTellsSaid : Prop := rankTellsRow.holds Try.pinned (OpenSpec.ofChange rankTellsSpec)

/-- ITS FALSE NEIGHBOUR: 'it returns false'. Refute it at one input. -/
def rankTellsWrong : ChangeSpec := { name := "rankTells", fn := fun _ => fun
  | [d1, d2, d3] => { results := [.lit (.bool false)], args := [d1, d2, d3] }
  | _ => none }
def RankTellsWrongFalsely : Prop := rankTellsRow.holds Try.pinned (OpenSpec.ofChange rankTellsWrong)

/-- 'milepostlaw15.RankKeeps': WHATEVER THE INPUT: true; the input reads as it did. -/
def rankKeepsSpec : ChangeSpec := { name := "rankKeeps", fn := fun _ => fun
  | [d1, d2, d3] => { results := [.lit (.bool true)], args := [d1, d2, d3] }
  | _ => none }
def rankKeepsRow : OpenClaim := { program := "ytadacfoiphklgaa", sum := "fe97ba09ef878c34c38c87c7de21a8634dd22895f305ca3efa2dc9ec1d582243", func := "milepost/milepostlaw15.RankKeeps", spec := "rankKeeps", inPlace := ["slices.overlaps[milepost/api.Arc]"], unfollowed := true, recurses := true, apart := false }
def RankKeepsSaid : Prop := rankKeepsRow.holds Try.pinned (OpenSpec.ofChange rankKeepsSpec)

/-- ITS FALSE NEIGHBOUR: 'it returns false'. Refute it at one input. -/
def rankKeepsWrong : ChangeSpec := { name := "rankKeeps", fn := fun _ => fun
  | [d1, d2, d3] => { results := [.lit (.bool false)], args := [d1, d2, d3] }
  | _ => none }
def RankKeepsWrongFalsely : Prop := rankKeepsRow.holds Try.pinned (OpenSpec.ofChange rankKeepsWrong)

/-- 'milepostlaw15.RankFirst': WHATEVER THE INPUT: true; the input reads as it did. -/
def rankFirstSpec : ChangeSpec := { name := "rankFirst", fn := fun _ => fun
  | [d1, d2, d3] => { results := [.lit (.bool true)], args := [d1, d2, d3] }
  | _ => none }
def rankFirstRow : OpenClaim := { program := "ytadacfoiphklgaa", sum := "fe97ba09ef878c34c38c87c7de21a8634dd22895f305ca3efa2dc9ec1d582243", func := "milepost/milepostlaw15.RankFirst", spec := "rankFirst", inPlace := ["slices.overlaps[milepost/api.Arc]"], unfollowed := true, recurses := true, apart := false }
def RankFirstSaid : Prop := rankFirstRow.holds Try.pinned (OpenSpec.ofChange rankFirstSpec)

/-- ITS FALSE NEIGHBOUR: 'it returns false'. Refute it at one input. -/
def rankFirstWrong : ChangeSpec := { name := "rankFirst", fn := fun _ => fun
  | [d1, d2, d3] => { results := [.lit (.bool false)], args := [d1, d2, d3] }
  | _ => none }
def RankFirstWrongFalsely : Prop := rankFirstRow.holds Try.pinned (OpenSpec.ofChange rankFirstWrong)

/-- 'milepostlaw15.RankNeeds': WHATEVER THE INPUT: true; the input reads as it did. -/
def rankNeedsSpec : ChangeSpec := { name := "rankNeeds", fn := fun _ => fun
  | [d1, d2, d3] => { results := [.lit (.bool true)], args := [d1, d2, d3] }
  | _ => none }
def rankNeedsRow : OpenClaim := { program := "ytadacfoiphklgaa", sum := "fe97ba09ef878c34c38c87c7de21a8634dd22895f305ca3efa2dc9ec1d582243", func := "milepost/milepostlaw15.RankNeeds", spec := "rankNeeds", inPlace := ["slices.overlaps[milepost/api.Arc]"], unfollowed := true, recurses := true, apart := false }
def RankNeedsSaid : Prop := rankNeedsRow.holds Try.pinned (OpenSpec.ofChange rankNeedsSpec)

/-- ITS FALSE NEIGHBOUR: 'it returns false'. Refute it at one input. -/
def rankNeedsWrong : ChangeSpec := { name := "rankNeeds", fn := fun _ => fun
  | [d1, d2, d3] => { results := [.lit (.bool false)], args := [d1, d2, d3] }
  | _ => none }
def RankNeedsWrongFalsely : Prop := rankNeedsRow.holds Try.pinned (OpenSpec.ofChange rankNeedsWrong)

/-- 'milepostlaw15.RankLone': WHATEVER THE INPUT: true; the input reads as it did. -/
def rankLoneSpec : ChangeSpec := { name := "rankLone", fn := fun _ => fun
  | [d1, d2, d3] => { results := [.lit (.bool true)], args := [d1, d2, d3] }
  | _ => none }
def rankLoneRow : OpenClaim := { program := "ytadacfoiphklgaa", sum := "fe97ba09ef878c34c38c87c7de21a8634dd22895f305ca3efa2dc9ec1d582243", func := "milepost/milepostlaw15.RankLone", spec := "rankLone", inPlace := ["slices.overlaps[milepost/api.Arc]"], unfollowed := true, recurses := true, apart := false }
def RankLoneSaid : Prop := rankLoneRow.holds Try.pinned (OpenSpec.ofChange rankLoneSpec)

/-- ITS FALSE NEIGHBOUR: 'it returns false'. Refute it at one input. -/
def rankLoneWrong : ChangeSpec := { name := "rankLone", fn := fun _ => fun
  | [d1, d2, d3] => { results := [.lit (.bool false)], args := [d1, d2, d3] }
  | _ => none }
def RankLoneWrongFalsely : Prop := rankLoneRow.holds Try.pinned (OpenSpec.ofChange rankLoneWrong)

/- THE SECOND FORM. 'bulk': how many values and letters a reading holds, each counted each time it is reached (what is shared counts as often as it is met; a slice's spare places count too). A statement '..UptoSaid' is the law's where the arguments, and the package variables that the reading takes, are together of bulk at most 1048576: NARROWER than '..Said'. Prove '..Said' where nothing that the law and all that it calls make is longer than what came in: it says more and counts as full. Else prove '..UptoSaid'. A law counts once. -/
mutual
def uptoBulk {H : Type} : DataW H → Nat
  | .lit (.string bytes) => bytes.length + 1
  | .lit _ => 1
  | .nil => 1
  | .ptr d => uptoBulk d + 1
  | .slice elems spare => uptoBulkAll elems + uptoBulkAll spare + 1
  | .agg parts => uptoBulkAll parts + 1
  | .iface _ d => uptoBulk d + 1
  | .map entries => uptoBulkEntries entries + 1
  | .held _ => 1
def uptoBulkAll {H : Type} : List (DataW H) → Nat
  | [] => 0
  | d :: r => uptoBulk d + uptoBulkAll r
def uptoBulkEntries {H : Type} : List (Lit × DataW H) → Nat
  | [] => 0
  | x :: r => uptoBulkEntry x + uptoBulkEntries r
def uptoBulkEntry {H : Type} : Lit × DataW H → Nat
  | (.string bytes, d) => bytes.length + uptoBulk d + 1
  | (_, d) => uptoBulk d + 1
 end
def uptoSmall : (H : Type) → List (DataW H) → Bool := fun _ ds => decide (uptoBulkAll ds ≤ 1048576)
def OpenSpec.upto (s : _root_.Go.ChangeSpec) : _root_.Go.OpenSpec := { _root_.Go.OpenSpec.ofChange s with cond := some uptoSmall }

/-- 'milepostlaw15.RankTells', WHERE WHAT IT READS IS OF BULK AT MOST 1048576: true; the input reads as it did. -/
def rankTellsUptoRow : OpenClaim := { program := "ytadacfoiphklgaa", sum := "fe97ba09ef878c34c38c87c7de21a8634dd22895f305ca3efa2dc9ec1d582243", func := "milepost/milepostlaw15.RankTells", spec := "rankTells", inPlace := ["slices.overlaps[milepost/api.Arc]"], unfollowed := true, recurses := true, apart := false, narrowed := true }
def RankTellsUptoSaid : Prop := rankTellsUptoRow.holds Try.pinned (OpenSpec.upto rankTellsSpec)

/-- 'milepostlaw15.RankKeeps', WHERE WHAT IT READS IS OF BULK AT MOST 1048576: true; the input reads as it did. -/
def rankKeepsUptoRow : OpenClaim := { program := "ytadacfoiphklgaa", sum := "fe97ba09ef878c34c38c87c7de21a8634dd22895f305ca3efa2dc9ec1d582243", func := "milepost/milepostlaw15.RankKeeps", spec := "rankKeeps", inPlace := ["slices.overlaps[milepost/api.Arc]"], unfollowed := true, recurses := true, apart := false, narrowed := true }
def RankKeepsUptoSaid : Prop := rankKeepsUptoRow.holds Try.pinned (OpenSpec.upto rankKeepsSpec)

/-- 'milepostlaw15.RankFirst', WHERE WHAT IT READS IS OF BULK AT MOST 1048576: true; the input reads as it did. -/
def rankFirstUptoRow : OpenClaim := { program := "ytadacfoiphklgaa", sum := "fe97ba09ef878c34c38c87c7de21a8634dd22895f305ca3efa2dc9ec1d582243", func := "milepost/milepostlaw15.RankFirst", spec := "rankFirst", inPlace := ["slices.overlaps[milepost/api.Arc]"], unfollowed := true, recurses := true, apart := false, narrowed := true }
def RankFirstUptoSaid : Prop := rankFirstUptoRow.holds Try.pinned (OpenSpec.upto rankFirstSpec)

/-- 'milepostlaw15.RankNeeds', WHERE WHAT IT READS IS OF BULK AT MOST 1048576: true; the input reads as it did. -/
def rankNeedsUptoRow : OpenClaim := { program := "ytadacfoiphklgaa", sum := "fe97ba09ef878c34c38c87c7de21a8634dd22895f305ca3efa2dc9ec1d582243", func := "milepost/milepostlaw15.RankNeeds", spec := "rankNeeds", inPlace := ["slices.overlaps[milepost/api.Arc]"], unfollowed := true, recurses := true, apart := false, narrowed := true }
def RankNeedsUptoSaid : Prop := rankNeedsUptoRow.holds Try.pinned (OpenSpec.upto rankNeedsSpec)

/-- 'milepostlaw15.RankLone', WHERE WHAT IT READS IS OF BULK AT MOST 1048576: true; the input reads as it did. -/
def rankLoneUptoRow : OpenClaim := { program := "ytadacfoiphklgaa", sum := "fe97ba09ef878c34c38c87c7de21a8634dd22895f305ca3efa2dc9ec1d582243", func := "milepost/milepostlaw15.RankLone", spec := "rankLone", inPlace := ["slices.overlaps[milepost/api.Arc]"], unfollowed := true, recurses := true, apart := false, narrowed := true }
def RankLoneUptoSaid : Prop := rankLoneUptoRow.holds Try.pinned (OpenSpec.upto rankLoneSpec)

end Rows
end Go.Proofs.Ytadacfoiphklgaa
