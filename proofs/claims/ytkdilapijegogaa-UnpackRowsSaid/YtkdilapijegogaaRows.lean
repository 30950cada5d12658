/-
  No cell of these rows narrows 'for every input' (looked for: loops, veiled, ifaces, maps, wideKeys, modest, calm, conditions, laid).
  DERIVED. THE GIVEN ROWS OF THIS SEAT. 3 by the template 'for every input the law returns true; each argument reads behind the call as it read before'; 0 by the template 'total and deterministic' (their statements: YtkdilapijegogaaTotals.lean).
  GIVEN WITH THE SEED: the statements are not yours to turn. If you find one false, say at which input.
  Laid BY PROGRAM, IN A SANDBOX (cutbox-rows.mjs): the forced cells as the released guide's own fill.sh prints them over the translation c0439a6959f8b8ba… (all of the seat's roots in one cut). By AI agents, Wed Nov 11 2026. No macro, syntax, notation, axiom, sorry.
-/
import Derived.Test.YtkdilapijegogaaChecked
import GoSem.Claim
import GoSem.ClaimJoined
import GoSem.ClaimMapViews
import Derived.JoinedTies
import Derived.KernelRfl
namespace Go.Proofs.Ytkdilapijegogaa
/- THE CELL 'sum', in the pinned program and in every row, IS THE sha256 OF THE DUMP (.gsa) THAT YtkdilapijegogaaProg.lean LOADS. Nothing in Lean hashes anything: it is a label: what it is worth is what the hold of that sum in a sandbox is worth. -/
noncomputable def Try.pinned : Pinned := { name := "ytkdilapijegogaa", sum := "c0439a6959f8b8ba3fc2dc255ca7c8d711d31b96f4b574f5356e85ebd6eb153b", checked := Try.checked }
namespace Rows
def none {H : Type} : Left H := { results := [], args := [] }

/-- 'milepostlaw17.UnpackTells': WHATEVER THE INPUT: true; the input reads as it did. -/
def unpackTellsSpec : ChangeSpec := { name := "unpackTells", fn := fun _ => fun
  | [d1, d2, d3] => { results := [.lit (.bool true)], args := [d1, d2, d3] }
  | _ => none }
def unpackTellsRow : OpenClaim := { program := "ytkdilapijegogaa", sum := "c0439a6959f8b8ba3fc2dc255ca7c8d711d31b96f4b574f5356e85ebd6eb153b", func := "milepost/milepostlaw17.UnpackTells", spec := "unpackTells", inPlace := ["slices.overlaps[milepost/api.Arc]"], unfollowed := true, recurses := true, apart := false }
def UnpackTellsSaid : Prop := unpackTellsRow.holds Try.pinned (OpenSpec.ofChange unpackTellsSpec)

/-- ITS FALSE NEIGHBOUR: 'it returns false'. Refute it at one input. -/
def unpackTellsWrong : ChangeSpec := { name := "unpackTells", fn := fun _ => fun
  | [d1, d2, d3] => { results := [.lit (.bool false)], args := [d1, d2, d3] }
  | _ => none }
def UnpackTellsWrongFalsely : Prop := unpackTellsRow.holds Try.pinned (OpenSpec.ofChange unpackTellsWrong)

/-- 'milepostlaw17.UnpackArcs': WHATEVER THE INPUT: true; the input reads as it did. -/
def unpackArcsSpec : ChangeSpec := { name := "unpackArcs", fn := fun _ => fun
  | [d1, d2] => { results := [.lit (.bool true)], args := [d1, d2] }
  | _ => none }
def unpackArcsRow : OpenClaim := { program := "ytkdilapijegogaa", sum := "c0439a6959f8b8ba3fc2dc255ca7c8d711d31b96f4b574f5356e85ebd6eb153b", func := "milepost/milepostlaw17.UnpackArcs", spec := "unpackArcs", inPlace := ["slices.overlaps[milepost/api.Arc]"], unfollowed := true, recurses := true, apart := false }
def UnpackArcsSaid : Prop := unpackArcsRow.holds Try.pinned (OpenSpec.ofChange unpackArcsSpec)

/-- ITS FALSE NEIGHBOUR: 'it returns false'. Refute it at one input. -/
def unpackArcsWrong : ChangeSpec := { name := "unpackArcs", fn := fun _ => fun
  | [d1, d2] => { results := [.lit (.bool false)], args := [d1, d2] }
  | _ => none }
def UnpackArcsWrongFalsely : Prop := unpackArcsRow.holds Try.pinned (OpenSpec.ofChange unpackArcsWrong)

/-- 'milepostlaw17.UnpackRows': WHATEVER THE INPUT: true; the input reads as it did. -/
def unpackRowsSpec : ChangeSpec := { name := "unpackRows", fn := fun _ => fun
  | [d1, d2, d3, d4] => { results := [.lit (.bool true)], args := [d1, d2, d3, d4] }
  | _ => none }
def unpackRowsRow : OpenClaim := { program := "ytkdilapijegogaa", sum := "c0439a6959f8b8ba3fc2dc255ca7c8d711d31b96f4b574f5356e85ebd6eb153b", func := "milepost/milepostlaw17.UnpackRows", spec := "unpackRows", inPlace := ["slices.overlaps[milepost/api.Arc]"], unfollowed := true, recurses := true, apart := false }
def UnpackRowsSaid : Prop := unpackRowsRow.holds Try.pinned (OpenSpec.ofChange unpackRowsSpec)

/-- ITS FALSE NEIGHBOUR: 'it returns false'. Refute it at one input. -/
def unpackRowsWrong : ChangeSpec := { name := "unpackRows", fn := fun _ => fun
  | [d1, d2, d3, d4] => { results := [.lit (.bool false)], args := [d1, d2, d3, d4] }
  | _ => none }
def UnpackRowsWrongFalsely : Prop := unpackRowsRow.holds Try.pinned (OpenSpec.ofChange unpackRowsWrong)

/- THE SECOND FORM. 'bulk': how many values and letters a reading holds, each counted each time it is reached (what is shared counts as often as it is met; a slice's spare places count too). A statement '..UptoSaid' is the law's where the arguments, and the package variables that the reading takes, are together of bulk at most 1048576: NARROWER than '..Said'. Prove '..Said' where nothing that the law and all that it calls make is longer than what came in: it says more and counts as full. Else prove '..UptoSaid'. A law counts once. -/
mutual
def uptoBulk {H : Type} : DataW H → Nat
  | .lit (.string bytes) => bytes.length + 1
  | .lit _ => 1
  | .nil => 1
  | .ptr d => uptoBulk d + 1
  | .slice elems spare => uptoBulkAll elems + uptoBulkAll spare + 1
  | .agg parts => uptoBulkAll parts + 1
  | .iface _ d => uptoBulk d + 1
  | .map entries => uptoBulkEntries entries + 1
  | .held _ => 1
def uptoBulkAll {H : Type} : List (DataW H) → Nat
  | [] => 0
  | d :: r => uptoBulk d + uptoBulkAll r
def uptoBulkEntries {H : Type} : List (Lit × DataW H) → Nat
  | [] => 0
  | x :: r => uptoBulkEntry x + uptoBulkEntries r
def uptoBulkEntry {H : Type} : Lit × DataW H → Nat
  | (.string bytes, d) => bytes.length + uptoBulk d + 1
  | (_, d) => uptoBulk d + 1
 end
def uptoSmall : (H : Type) → List (DataW H) → Bool := fun _ ds => decide (uptoBulkAll ds ≤ 1048576)
def OpenSpec.upto (s : _root_.Go.ChangeSpec) : _root_.Go.OpenSpec := { _root_.Go.OpenSpec.ofChange s with cond := some uptoSmall }

/-- 'milepostlaw17.UnpackTells', WHERE WHAT IT READS IS OF BULK AT MOST 1048576: true; the input reads as it did. -/
def unpackTellsUptoRow : OpenClaim := { program := "ytkdilapijegogaa", sum := "c0439a6959f8b8ba3fc2dc255ca7c8d711d31b96f4b574f5356e85ebd6eb153b", func := "milepost/milepostlaw17.UnpackTells", spec := "unpackTells", inPlace := ["slices.overlaps[milepost/api.Arc]"], unfollowed := true, recurses := true, apart := false, narrowed := true }
def UnpackTellsUptoSaid : Prop := unpackTellsUptoRow.holds Try.pinned (OpenSpec.upto unpackTellsSpec)

/-- 'milepostlaw17.UnpackArcs', WHERE WHAT IT READS IS OF BULK AT MOST 1048576: true; the input reads as it did. -/
def unpackArcsUptoRow : OpenClaim := { program := "ytkdilapijegogaa", sum := "c0439a6959f8b8ba3fc2dc255ca7c8d711d31b96f4b574f5356e85ebd6eb153b", func := "milepost/milepostlaw17.UnpackArcs", spec := "unpackArcs", inPlace := ["slices.overlaps[milepost/api.Arc]"], unfollowed := true, recurses := true, apart := false, narrowed := true }
def UnpackArcsUptoSaid : Prop := unpackArcsUptoRow.holds Try.pinned (OpenSpec.upto unpackArcsSpec)

/-- 'milepostlaw17.UnpackRows', WHERE WHAT IT READS IS OF BULK AT MOST 1048576: true; the input reads as it did. -/
def unpackRowsUptoRow : OpenClaim := { program := "ytkdilapijegogaa", sum := "c0439a6959f8b8ba3fc2dc255ca7c8d711d31b96f4b574f5356e85ebd6eb153b", func := "milepost/milepostlaw17.UnpackRows", spec := "unpackRows", inPlace := ["slices.overlaps[milepost/api.Arc]"], unfollowed := true, recurses := true, apart := false, narrowed := true }
def UnpackRowsUptoSaid : Prop := unpackRowsUptoRow.holds Try.pinned (OpenSpec.upto unpackRowsSpec)

end Rows
end Go.Proofs.Ytkdilapijegogaa
