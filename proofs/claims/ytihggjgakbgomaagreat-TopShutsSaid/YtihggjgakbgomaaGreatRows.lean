/-
  No cell of these rows narrows 'for every input' (looked for: loops, veiled, ifaces, maps, wideKeys, modest, calm, conditions, laid).
  DERIVED. THE GIVEN ROWS OF THIS SEAT. 4 by the template 'for every input the law returns true; each argument reads behind the call as it read before'; 0 by the template 'total and deterministic' (their statements: YtihggjgakbgomaaGreatTotals.lean).
  GIVEN WITH THE SEED: the statements are not yours to turn. If you find one false, say at which input.
  Laid BY PROGRAM, IN A SANDBOX (cutbox-rows.mjs): the forced cells as the released guide's own fill.sh prints them over the translation 9cf6d0c89dfbc411… (all of the seat's roots in one cut). By AI agents, Wed Nov 11 2026. No macro, syntax, notation, axiom, sorry.
-/
import Derived.Test.YtihggjgakbgomaaGreatChecked
import GoSem.Claim
import GoSem.ClaimJoined
import GoSem.ClaimMapViews
import Derived.JoinedTies
import Derived.KernelRfl
namespace Go.Proofs.YtihggjgakbgomaaGreat
/- THE CELL 'sum', in the pinned program and in every row, IS THE sha256 OF THE DUMP (.gsa) THAT YtihggjgakbgomaaGreatProg.lean LOADS. Nothing in Lean hashes anything: it is a label: what it is worth is what the hold of that sum in a sandbox is worth. -/
noncomputable def Tryz.pinned : Pinned := { name := "ytihggjgakbgomaagreat", sum := "9cf6d0c89dfbc411d68df637e64d4f7d09b5c336815cf005db4903acef8c847b", checked := Tryz.checked }
namespace Rows
def none {H : Type} : Left H := { results := [], args := [] }

/-- 'mileposttop.TopBounds': WHATEVER THE INPUT: true; the input reads as it did. -/
def topBoundsSpec : ChangeSpec := { name := "topBounds", fn := fun _ => fun
  | [d1, d2, d3, d4] => { results := [.lit (.bool true)], args := [d1, d2, d3, d4] }
  | _ => none }
def topBoundsRow : OpenClaim := { program := "ytihggjgakbgomaagreat", sum := "9cf6d0c89dfbc411d68df637e64d4f7d09b5c336815cf005db4903acef8c847b", func := "milepost/mileposttop.TopBounds", spec := "topBounds", inPlace := ["slices.overlaps[milepost/api.Arc]"], unfollowed := true, recurses := true, apart := false }
def TopBoundsSaid : Prop := topBoundsRow.holds Tryz.pinned (OpenSpec.ofChange topBoundsSpec)

/-- ITS FALSE NEIGHBOUR: 'it returns false'. Refute it at one input. -/
def topBoundsWrong : ChangeSpec := { name := "topBounds", fn := fun _ => fun
  | [d1, d2, d3, d4] => { results := [.lit (.bool false)], args := [d1, d2, d3, d4] }
  | _ => none }
def TopBoundsWrongFalsely : Prop := topBoundsRow.holds Tryz.pinned (OpenSpec.ofChange topBoundsWrong)

/-- 'mileposttop.TopLevels': WHATEVER THE INPUT: true; the input reads as it did. -/
def topLevelsSpec : ChangeSpec := { name := "topLevels", fn := fun _ => fun
  | [d1, d2, d3, d4] => { results := [.lit (.bool true)], args := [d1, d2, d3, d4] }
  | _ => none }
def topLevelsRow : OpenClaim := { program := "ytihggjgakbgomaagreat", sum := "9cf6d0c89dfbc411d68df637e64d4f7d09b5c336815cf005db4903acef8c847b", func := "milepost/mileposttop.TopLevels", spec := "topLevels", inPlace := ["slices.overlaps[milepost/api.Arc]"], unfollowed := true, recurses := true, apart := false }
def TopLevelsSaid : Prop := topLevelsRow.holds Tryz.pinned (OpenSpec.ofChange topLevelsSpec)

/-- ITS FALSE NEIGHBOUR: 'it returns false'. Refute it at one input. -/
def topLevelsWrong : ChangeSpec := { name := "topLevels", fn := fun _ => fun
  | [d1, d2, d3, d4] => { results := [.lit (.bool false)], args := [d1, d2, d3, d4] }
  | _ => none }
def TopLevelsWrongFalsely : Prop := topLevelsRow.holds Tryz.pinned (OpenSpec.ofChange topLevelsWrong)

/-- 'mileposttop.TopShuts': WHATEVER THE INPUT: true; the input reads as it did. -/
def topShutsSpec : ChangeSpec := { name := "topShuts", fn := fun _ => fun
  | [d1, d2, d3, d4, d5] => { results := [.lit (.bool true)], args := [d1, d2, d3, d4, d5] }
  | _ => none }
def topShutsRow : OpenClaim := { program := "ytihggjgakbgomaagreat", sum := "9cf6d0c89dfbc411d68df637e64d4f7d09b5c336815cf005db4903acef8c847b", func := "milepost/mileposttop.TopShuts", spec := "topShuts", inPlace := ["slices.overlaps[milepost/api.Arc]"], unfollowed := true, recurses := true, apart := false }
def TopShutsSaid : Prop := topShutsRow.holds Tryz.pinned (OpenSpec.ofChange topShutsSpec)

/-- ITS FALSE NEIGHBOUR: 'it returns false'. Refute it at one input. -/
def topShutsWrong : ChangeSpec := { name := "topShuts", fn := fun _ => fun
  | [d1, d2, d3, d4, d5] => { results := [.lit (.bool false)], args := [d1, d2, d3, d4, d5] }
  | _ => none }
def TopShutsWrongFalsely : Prop := topShutsRow.holds Tryz.pinned (OpenSpec.ofChange topShutsWrong)

/-- 'mileposttop.TopExpires': WHATEVER THE INPUT: true; the input reads as it did. -/
def topExpiresSpec : ChangeSpec := { name := "topExpires", fn := fun _ => fun
  | [d1, d2, d3, d4] => { results := [.lit (.bool true)], args := [d1, d2, d3, d4] }
  | _ => none }
def topExpiresRow : OpenClaim := { program := "ytihggjgakbgomaagreat", sum := "9cf6d0c89dfbc411d68df637e64d4f7d09b5c336815cf005db4903acef8c847b", func := "milepost/mileposttop.TopExpires", spec := "topExpires", inPlace := ["slices.overlaps[milepost/api.Arc]"], unfollowed := true, recurses := true, apart := false }
def TopExpiresSaid : Prop := topExpiresRow.holds Tryz.pinned (OpenSpec.ofChange topExpiresSpec)

/-- ITS FALSE NEIGHBOUR: 'it returns false'. Refute it at one input. -/
def topExpiresWrong : ChangeSpec := { name := "topExpires", fn := fun _ => fun
  | [d1, d2, d3, d4] => { results := [.lit (.bool false)], args := [d1, d2, d3, d4] }
  | _ => none }
def TopExpiresWrongFalsely : Prop := topExpiresRow.holds Tryz.pinned (OpenSpec.ofChange topExpiresWrong)

/- THE SECOND FORM. 'bulk': how many values and letters a reading holds, each counted each time it is reached (what is shared counts as often as it is met; a slice's spare places count too). A statement '..UptoSaid' is the law's where the arguments, and the package variables that the reading takes, are together of bulk at most 1048576: NARROWER than '..Said'. Prove '..Said' where nothing that the law and all that it calls make is longer than what came in: it says more and counts as full. Else prove '..UptoSaid'. A law counts once. -/
mutual
def uptoBulk {H : Type} : DataW H → Nat
  | .lit (.string bytes) => bytes.length + 1
  | .lit _ => 1
  | .nil => 1
  | .ptr d => uptoBulk d + 1
  | .slice elems spare => uptoBulkAll elems + uptoBulkAll spare + 1
  | .agg parts => uptoBulkAll parts + 1
  | .iface _ d => uptoBulk d + 1
  | .map entries => uptoBulkEntries entries + 1
  | .held _ => 1
def uptoBulkAll {H : Type} : List (DataW H) → Nat
  | [] => 0
  | d :: r => uptoBulk d + uptoBulkAll r
def uptoBulkEntries {H : Type} : List (Lit × DataW H) → Nat
  | [] => 0
  | x :: r => uptoBulkEntry x + uptoBulkEntries r
def uptoBulkEntry {H : Type} : Lit × DataW H → Nat
  | (.string bytes, d) => bytes.length + uptoBulk d + 1
  | (_, d) => uptoBulk d + 1
 end
def uptoSmall : (H : Type) → List (DataW H) → Bool := fun _ ds => decide (uptoBulkAll ds ≤ 1048576)
def OpenSpec.upto (s : _root_.Go.ChangeSpec) : _root_.Go.OpenSpec := { _root_.Go.OpenSpec.ofChange s with cond := some uptoSmall }

/-- 'mileposttop.TopBounds', WHERE WHAT IT READS IS OF BULK AT MOST 1048576: true; the input reads as it did. -/
def topBoundsUptoRow : OpenClaim := { program := "ytihggjgakbgomaagreat", sum := "9cf6d0c89dfbc411d68df637e64d4f7d09b5c336815cf005db4903acef8c847b", func := "milepost/mileposttop.TopBounds", spec := "topBounds", inPlace := ["slices.overlaps[milepost/api.Arc]"], unfollowed := true, recurses := true, apart := false, narrowed := true }
def TopBoundsUptoSaid : Prop := topBoundsUptoRow.holds Tryz.pinned (OpenSpec.upto topBoundsSpec)

/-- 'mileposttop.TopLevels', WHERE WHAT IT READS IS OF BULK AT MOST 1048576: true; the input reads as it did. -/
def topLevelsUptoRow : OpenClaim := { program := "ytihggjgakbgomaagreat", sum := "9cf6d0c89dfbc411d68df637e64d4f7d09b5c336815cf005db4903acef8c847b", func := "milepost/mileposttop.TopLevels", spec := "topLevels", inPlace := ["slices.overlaps[milepost/api.Arc]"], unfollowed := true, recurses := true, apart := false, narrowed := true }
def TopLevelsUptoSaid : Prop := topLevelsUptoRow.holds Tryz.pinned (OpenSpec.upto topLevelsSpec)

/-- 'mileposttop.TopShuts', WHERE WHAT IT READS IS OF BULK AT MOST 1048576: true; the input reads as it did. -/
def topShutsUptoRow : OpenClaim := { program := "ytihggjgakbgomaagreat", sum := "9cf6d0c89dfbc411d68df637e64d4f7d09b5c336815cf005db4903acef8c847b", func := "milepost/mileposttop.TopShuts", spec := "topShuts", inPlace := ["slices.overlaps[milepost/api.Arc]"], unfollowed := true, recurses := true, apart := false, narrowed := true }
def TopShutsUptoSaid : Prop := topShutsUptoRow.holds Tryz.pinned (OpenSpec.upto topShutsSpec)

/-- 'mileposttop.TopExpires', WHERE WHAT IT READS IS OF BULK AT MOST 1048576: true; the input reads as it did. -/
def topExpiresUptoRow : OpenClaim := { program := "ytihggjgakbgomaagreat", sum := "9cf6d0c89dfbc411d68df637e64d4f7d09b5c336815cf005db4903acef8c847b", func := "milepost/mileposttop.TopExpires", spec := "topExpires", inPlace := ["slices.overlaps[milepost/api.Arc]"], unfollowed := true, recurses := true, apart := false, narrowed := true }
def TopExpiresUptoSaid : Prop := topExpiresUptoRow.holds Tryz.pinned (OpenSpec.upto topExpiresSpec)

end Rows
end Go.Proofs.YtihggjgakbgomaaGreat
