/-
  No cell of these rows narrows 'for every input' (looked for: loops, veiled, ifaces, maps, wideKeys, modest, calm, conditions, laid).
  DERIVED. THE GIVEN ROWS OF THIS SEAT. 3 by the template 'for every input the law returns true; each argument reads behind the call as it read before'; 0 by the template 'total and deterministic' (their statements: YtelbklglflhleaaTotals.lean).
  GIVEN WITH THE SEED: the statements are not yours to turn. If you find one false, say at which input.
  Laid BY PROGRAM, IN A SANDBOX (cutbox-rows.mjs): the forced cells as the released guide's own fill.sh prints them over the translation c5efa17c8a956cf1… (all of the seat's roots in one cut). By AI agents, Wed Nov 11 2026. No macro, syntax, notation, axiom, sorry.
-/
import Derived.Test.YtelbklglflhleaaChecked
import GoSem.Claim
import GoSem.ClaimJoined
import GoSem.ClaimMapViews
import Derived.JoinedTies
import Derived.KernelRfl
namespace Go.Proofs.Ytelbklglflhleaa
/- THE CELL 'sum', in the pinned program and in every row, IS THE sha256 OF THE DUMP (.gsa) THAT YtelbklglflhleaaProg.lean LOADS. Nothing in Lean hashes anything: it is a label: what it is worth is what the hold of that sum in a sandbox is worth. -/
noncomputable def Try.pinned : Pinned := { name := "ytelbklglflhleaa", sum := "c5efa17c8a956cf184cff90c3ba5a6cfe6f12beda779d76416eded7b364f899e", checked := Try.checked }
namespace Rows
def none {H : Type} : Left H := { results := [], args := [] }

/-- 'milepostlaw13.NetActs': WHATEVER THE INPUT: true; the input reads as it did. -/
def netActsSpec : ChangeSpec := { name := "netActs", fn := fun _ => fun
  | [d1, d2, d3] => { results := [.lit (.bool true)], args := [d1, d2, d3] }
  | _ => none }
def netActsRow : OpenClaim := { program := "ytelbklglflhleaa", sum := "c5efa17c8a956cf184cff90c3ba5a6cfe6f12beda779d76416eded7b364f899e", func := "milepost/milepostlaw13.NetActs", spec := "netActs", inPlace := ["slices.overlaps[milepost/api.Arc]"], unfollowed := true, recurses := true, plainKeys := false, apart := false }
def NetActsSaid : Prop := netActsRow.holds Try.pinned (OpenSpec.ofChange netActsSpec)

/-- ITS FALSE NEIGHBOUR: 'it returns false'. Refute it at one input. -/
def netActsWrong : ChangeSpec := { name := "netActs", fn := fun _ => fun
  | [d1, d2, d3] => { results := [.lit (.bool false)], args := [d1, d2, d3] }
  | _ => none }
def NetActsWrongFalsely : Prop := netActsRow.holds Try.pinned (OpenSpec.ofChange netActsWrong)

/-- 'milepostlaw13.NetLightest': WHATEVER THE INPUT: true; the input reads as it did. -/
def netLightestSpec : ChangeSpec := { name := "netLightest", fn := fun _ => fun
  | [d1, d2] => { results := [.lit (.bool true)], args := [d1, d2] }
  | _ => none }
def netLightestRow : OpenClaim := { program := "ytelbklglflhleaa", sum := "c5efa17c8a956cf184cff90c3ba5a6cfe6f12beda779d76416eded7b364f899e", func := "milepost/milepostlaw13.NetLightest", spec := "netLightest", inPlace := ["slices.overlaps[milepost/api.Arc]"], unfollowed := true, recurses := true, plainKeys := false, apart := false }
def NetLightestSaid : Prop := netLightestRow.holds Try.pinned (OpenSpec.ofChange netLightestSpec)

/-- ITS FALSE NEIGHBOUR: 'it returns false'. Refute it at one input. -/
def netLightestWrong : ChangeSpec := { name := "netLightest", fn := fun _ => fun
  | [d1, d2] => { results := [.lit (.bool false)], args := [d1, d2] }
  | _ => none }
def NetLightestWrongFalsely : Prop := netLightestRow.holds Try.pinned (OpenSpec.ofChange netLightestWrong)

/-- 'milepostlaw13.NetCuts': WHATEVER THE INPUT: true; the input reads as it did. -/
def netCutsSpec : ChangeSpec := { name := "netCuts", fn := fun _ => fun
  | [d1, d2, d3] => { results := [.lit (.bool true)], args := [d1, d2, d3] }
  | _ => none }
def netCutsRow : OpenClaim := { program := "ytelbklglflhleaa", sum := "c5efa17c8a956cf184cff90c3ba5a6cfe6f12beda779d76416eded7b364f899e", func := "milepost/milepostlaw13.NetCuts", spec := "netCuts", inPlace := ["slices.overlaps[milepost/api.Arc]"], unfollowed := true, recurses := true, plainKeys := false, apart := false }
def NetCutsSaid : Prop := netCutsRow.holds Try.pinned (OpenSpec.ofChange netCutsSpec)

/-- ITS FALSE NEIGHBOUR: 'it returns false'. Refute it at one input. -/
def netCutsWrong : ChangeSpec := { name := "netCuts", fn := fun _ => fun
  | [d1, d2, d3] => { results := [.lit (.bool false)], args := [d1, d2, d3] }
  | _ => none }
def NetCutsWrongFalsely : Prop := netCutsRow.holds Try.pinned (OpenSpec.ofChange netCutsWrong)

/- THE SECOND FORM. 'bulk': how many values and letters a reading holds, each counted each time it is reached (what is shared counts as often as it is met; a slice's spare places count too). A statement '..UptoSaid' is the law's where the arguments, and the package variables that the reading takes, are together of bulk at most 1048576: NARROWER than '..Said'. Prove '..Said' where nothing that the law and all that it calls make is longer than what came in: it says more and counts as full. Else prove '..UptoSaid'. A law counts once. -/
mutual
def uptoBulk {H : Type} : DataW H → Nat
  | .lit (.string bytes) => bytes.length + 1
  | .lit _ => 1
  | .nil => 1
  | .ptr d => uptoBulk d + 1
  | .slice elems spare => uptoBulkAll elems + uptoBulkAll spare + 1
  | .agg parts => uptoBulkAll parts + 1
  | .iface _ d => uptoBulk d + 1
  | .map entries => uptoBulkEntries entries + 1
  | .held _ => 1
def uptoBulkAll {H : Type} : List (DataW H) → Nat
  | [] => 0
  | d :: r => uptoBulk d + uptoBulkAll r
def uptoBulkEntries {H : Type} : List (Lit × DataW H) → Nat
  | [] => 0
  | x :: r => uptoBulkEntry x + uptoBulkEntries r
def uptoBulkEntry {H : Type} : Lit × DataW H → Nat
  | (.string bytes, d) => bytes.length + uptoBulk d + 1
  | (_, d) => uptoBulk d + 1
 end
def uptoSmall : (H : Type) → List (DataW H) → Bool := fun _ ds => decide (uptoBulkAll ds ≤ 1048576)
def OpenSpec.upto (s : _root_.Go.ChangeSpec) : _root_.Go.OpenSpec := { _root_.Go.OpenSpec.ofChange s with cond := some uptoSmall }

/-- 'milepostlaw13.NetActs', WHERE WHAT IT READS IS OF BULK AT MOST 1048576: true; the input reads as it did. -/
def netActsUptoRow : OpenClaim := { program := "ytelbklglflhleaa", sum := "c5efa17c8a956cf184cff90c3ba5a6cfe6f12beda779d76416eded7b364f899e", func := "milepost/milepostlaw13.NetActs", spec := "netActs", inPlace := ["slices.overlaps[milepost/api.Arc]"], unfollowed := true, recurses := true, plainKeys := false, apart := false, narrowed := true }
def NetActsUptoSaid : Prop := netActsUptoRow.holds Try.pinned (OpenSpec.upto netActsSpec)

/-- 'milepostlaw13.NetLightest', WHERE WHAT IT READS IS OF BULK AT MOST 1048576: true; the input reads as it did. -/
def netLightestUptoRow : OpenClaim := { program := "ytelbklglflhleaa", sum := "c5efa17c8a956cf184cff90c3ba5a6cfe6f12beda779d76416eded7b364f899e", func := "milepost/milepostlaw13.NetLightest", spec := "netLightest", inPlace := ["slices.overlaps[milepost/api.Arc]"], unfollowed := true, recurses := true, plainKeys := false, apart := false, narrowed := true }
def NetLightestUptoSaid : Prop := netLightestUptoRow.holds Try.pinned (OpenSpec.upto netLightestSpec)

/-- 'milepostlaw13.NetCuts', WHERE WHAT IT READS IS OF BULK AT MOST 1048576: true; the input reads as it did. -/
def netCutsUptoRow : OpenClaim := { program := "ytelbklglflhleaa", sum := "c5efa17c8a956cf184cff90c3ba5a6cfe6f12beda779d76416eded7b364f899e", func := "milepost/milepostlaw13.NetCuts", spec := "netCuts", inPlace := ["slices.overlaps[milepost/api.Arc]"], unfollowed := true, recurses := true, plainKeys := false, apart := false, narrowed := true }
def NetCutsUptoSaid : Prop := netCutsUptoRow.holds Try.pinned (OpenSpec.upto netCutsSpec)

end Rows
end Go.Proofs.Ytelbklglflhleaa
