/-
  No cell of these rows narrows 'for every input' (looked for: loops, veiled, ifaces, maps, wideKeys, modest, calm, conditions, laid).
  DERIVED. THE GIVEN ROWS OF THIS SEAT. 4 by the template 'for every input the law returns true; each argument reads behind the call as it read before'; 0 by the template 'total and deterministic' (their statements: YtkghlmaalkmdkaaTotals.lean).
  GIVEN WITH THE SEED: the statements are not yours to turn. If you find one false, say at which input.
  Laid BY PROGRAM, IN A SANDBOX (cutbox-rows.mjs): the forced cells as the released guide's own fill.sh prints them over the translation 57a99a5fdd12a947… (all of the seat's roots in one cut). By AI agents, Wed Nov 11 2026. No macro, syntax, notation, axiom, sorry.
-/
import Derived.Test.YtkghlmaalkmdkaaChecked
import GoSem.Claim
import GoSem.ClaimJoined
import GoSem.ClaimMapViews
import Derived.JoinedTies
import Derived.KernelRfl
namespace Go.Proofs.Ytkghlmaalkmdkaa
/- THE CELL 'sum', in the pinned program and in every row, IS THE sha256 OF THE DUMP (.gsa) THAT YtkghlmaalkmdkaaProg.lean LOADS. Nothing in Lean hashes anything: it is a label: what it is worth is what the hold of that sum in a sandbox is worth. -/
noncomputable def Try.pinned : Pinned := { name := "ytkghlmaalkmdkaa", sum := "57a99a5fdd12a947eb7e96b7bd81b33c2edb148c7df707a3f6472a47fd12f7d2", checked := Try.checked }
namespace Rows
def none {H : Type} : Left H := { results := [], args := [] }

/-- 'milepostlaw18.SearchFar': WHATEVER THE INPUT: true; the input reads as it did. -/
def searchFarSpec : ChangeSpec := { name := "searchFar", fn := fun _ => fun
  | [d1, d2, d3, d4] => { results := [.lit (.bool true)], args := [d1, d2, d3, d4] }
  | _ => none }
def searchFarRow : OpenClaim := { program := "ytkghlmaalkmdkaa", sum := "57a99a5fdd12a947eb7e96b7bd81b33c2edb148c7df707a3f6472a47fd12f7d2", func := "milepost/milepostlaw18.SearchFar", spec := "searchFar", inPlace := ["slices.overlaps[milepost/api.Arc]"], unfollowed := true, recurses := true, apart := false }
def SearchFarSaid : Prop := searchFarRow.holds Try.pinned (OpenSpec.ofChange searchFarSpec)

/-- ITS FALSE NEIGHBOUR: 'it returns false'. Refute it at one input. -/
def searchFarWrong : ChangeSpec := { name := "searchFar", fn := fun _ => fun
  | [d1, d2, d3, d4] => { results := [.lit (.bool false)], args := [d1, d2, d3, d4] }
  | _ => none }
def SearchFarWrongFalsely : Prop := searchFarRow.holds Try.pinned (OpenSpec.ofChange searchFarWrong)

/-- 'milepostlaw18.SearchNearest': WHATEVER THE INPUT: true; the input reads as it did. -/
def searchNearestSpec : ChangeSpec := { name := "searchNearest", fn := fun _ => fun
  | [d1, d2, d3, d4, d5] => { results := [.lit (.bool true)], args := [d1, d2, d3, d4, d5] }
  | _ => none }
def searchNearestRow : OpenClaim := { program := "ytkghlmaalkmdkaa", sum := "57a99a5fdd12a947eb7e96b7bd81b33c2edb148c7df707a3f6472a47fd12f7d2", func := "milepost/milepostlaw18.SearchNearest", spec := "searchNearest", inPlace := ["slices.overlaps[milepost/api.Arc]"], unfollowed := true, recurses := true, apart := false }
def SearchNearestSaid : Prop := searchNearestRow.holds Try.pinned (OpenSpec.ofChange searchNearestSpec)

/-- ITS FALSE NEIGHBOUR: 'it returns false'. Refute it at one input. -/
def searchNearestWrong : ChangeSpec := { name := "searchNearest", fn := fun _ => fun
  | [d1, d2, d3, d4, d5] => { results := [.lit (.bool false)], args := [d1, d2, d3, d4, d5] }
  | _ => none }
def SearchNearestWrongFalsely : Prop := searchNearestRow.holds Try.pinned (OpenSpec.ofChange searchNearestWrong)

/-- 'milepostlaw18.SearchTells': WHATEVER THE INPUT: true; the input reads as it did. -/
def searchTellsSpec : ChangeSpec := { name := "searchTells", fn := fun _ => fun
  | [d1, d2, d3, d4] => { results := [.lit (.bool true)], args := [d1, d2, d3, d4] }
  | _ => none }
def searchTellsRow : OpenClaim := { program := "ytkghlmaalkmdkaa", sum := "57a99a5fdd12a947eb7e96b7bd81b33c2edb148c7df707a3f6472a47fd12f7d2", func := "milepost/milepostlaw18.SearchTells", spec := "searchTells", inPlace := ["slices.overlaps[milepost/api.Arc]"], unfollowed := true, recurses := true, apart := false }
def SearchTellsSaid : Prop := searchTellsRow.holds Try.pinned (OpenSpec.ofChange searchTellsSpec)

/-- ITS FALSE NEIGHBOUR: 'it returns false'. Refute it at one input. -/
def searchTellsWrong : ChangeSpec := { name := "searchTells", fn := fun _ => fun
  | [d1, d2, d3, d4] => { results := [.lit (.bool false)], args := [d1, d2, d3, d4] }
  | _ => none }
def SearchTellsWrongFalsely : Prop := searchTellsRow.holds Try.pinned (OpenSpec.ofChange searchTellsWrong)

/-- 'milepostlaw18.SearchUps': WHATEVER THE INPUT: true; the input reads as it did. -/
def searchUpsSpec : ChangeSpec := { name := "searchUps", fn := fun _ => fun
  | [d1, d2, d3] => { results := [.lit (.bool true)], args := [d1, d2, d3] }
  | _ => none }
def searchUpsRow : OpenClaim := { program := "ytkghlmaalkmdkaa", sum := "57a99a5fdd12a947eb7e96b7bd81b33c2edb148c7df707a3f6472a47fd12f7d2", func := "milepost/milepostlaw18.SearchUps", spec := "searchUps", inPlace := ["slices.overlaps[milepost/api.Arc]"], unfollowed := true, recurses := true, apart := false }
def SearchUpsSaid : Prop := searchUpsRow.holds Try.pinned (OpenSpec.ofChange searchUpsSpec)

/-- ITS FALSE NEIGHBOUR: 'it returns false'. Refute it at one input. -/
def searchUpsWrong : ChangeSpec := { name := "searchUps", fn := fun _ => fun
  | [d1, d2, d3] => { results := [.lit (.bool false)], args := [d1, d2, d3] }
  | _ => none }
def SearchUpsWrongFalsely : Prop := searchUpsRow.holds Try.pinned (OpenSpec.ofChange searchUpsWrong)

/- THE SECOND FORM. 'bulk': how many values and letters a reading holds, each counted each time it is reached (what is shared counts as often as it is met; a slice's spare places count too). A statement '..UptoSaid' is the law's where the arguments, and the package variables that the reading takes, are together of bulk at most 1048576: NARROWER than '..Said'. Prove '..Said' where nothing that the law and all that it calls make is longer than what came in: it says more and counts as full. Else prove '..UptoSaid'. A law counts once. -/
mutual
def uptoBulk {H : Type} : DataW H → Nat
  | .lit (.string bytes) => bytes.length + 1
  | .lit _ => 1
  | .nil => 1
  | .ptr d => uptoBulk d + 1
  | .slice elems spare => uptoBulkAll elems + uptoBulkAll spare + 1
  | .agg parts => uptoBulkAll parts + 1
  | .iface _ d => uptoBulk d + 1
  | .map entries => uptoBulkEntries entries + 1
  | .held _ => 1
def uptoBulkAll {H : Type} : List (DataW H) → Nat
  | [] => 0
  | d :: r => uptoBulk d + uptoBulkAll r
def uptoBulkEntries {H : Type} : List (Lit × DataW H) → Nat
  | [] => 0
  | x :: r => uptoBulkEntry x + uptoBulkEntries r
def uptoBulkEntry {H : Type} : Lit × DataW H → Nat
  | (.string bytes, d) => bytes.length + uptoBulk d + 1
  | (_, d) => uptoBulk d + 1
 end
def uptoSmall : (H : Type) → List (DataW H) → Bool := fun _ ds => decide (uptoBulkAll ds ≤ 1048576)
def OpenSpec.upto (s : _root_.Go.ChangeSpec) : _root_.Go.OpenSpec := { _root_.Go.OpenSpec.ofChange s with cond := some uptoSmall }

/-- 'milepostlaw18.SearchFar', WHERE WHAT IT READS IS OF BULK AT MOST 1048576: true; the input reads as it did. -/
def searchFarUptoRow : OpenClaim := { program := "ytkghlmaalkmdkaa", sum := "57a99a5fdd12a947eb7e96b7bd81b33c2edb148c7df707a3f6472a47fd12f7d2", func := "milepost/milepostlaw18.SearchFar", spec := "searchFar", inPlace := ["slices.overlaps[milepost/api.Arc]"], unfollowed := true, recurses := true, apart := false, narrowed := true }
def SearchFarUptoSaid : Prop := searchFarUptoRow.holds Try.pinned (OpenSpec.upto searchFarSpec)

/-- 'milepostlaw18.SearchNearest', WHERE WHAT IT READS IS OF BULK AT MOST 1048576: true; the input reads as it did. -/
def searchNearestUptoRow : OpenClaim := { program := "ytkghlmaalkmdkaa", sum := "57a99a5fdd12a947eb7e96b7bd81b33c2edb148c7df707a3f6472a47fd12f7d2", func := "milepost/milepostlaw18.SearchNearest", spec := "searchNearest", inPlace := ["slices.overlaps[milepost/api.Arc]"], unfollowed := true, recurses := true, apart := false, narrowed := true }
def SearchNearestUptoSaid : Prop := searchNearestUptoRow.holds Try.pinned (OpenSpec.upto searchNearestSpec)

/-- 'milepostlaw18.SearchTells', WHERE WHAT IT READS IS OF BULK AT MOST 1048576: true; the input reads as it did. -/
def searchTellsUptoRow : OpenClaim := { program := "ytkghlmaalkmdkaa", sum := "57a99a5fdd12a947eb7e96b7bd81b33c2edb148c7df707a3f6472a47fd12f7d2", func := "milepost/milepostlaw18.SearchTells", spec := "searchTells", inPlace := ["slices.overlaps[milepost/api.Arc]"], unfollowed := true, recurses := true, apart := false, narrowed := true }
def SearchTellsUptoSaid : Prop := searchTellsUptoRow.holds Try.pinned (OpenSpec.upto searchTellsSpec)

/-- 'milepostlaw18.SearchUps', WHERE WHAT IT READS IS OF BULK AT MOST 1048576: true; the input reads as it did. -/
def searchUpsUptoRow : OpenClaim := { program := "ytkghlmaalkmdkaa", sum := "57a99a5fdd12a947eb7e96b7bd81b33c2edb148c7df707a3f6472a47fd12f7d2", func := "milepost/milepostlaw18.SearchUps", spec := "searchUps", inPlace := ["slices.overlaps[milepost/api.Arc]"], unfollowed := true, recurses := true, apart := false, narrowed := true }
def SearchUpsUptoSaid : Prop := searchUpsUptoRow.holds Try.pinned (OpenSpec.upto searchUpsSpec)

end Rows
end Go.Proofs.Ytkghlmaalkmdkaa
