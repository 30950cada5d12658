/-
  No cell of these rows narrows 'for every input' (looked for: loops, veiled, ifaces, maps, wideKeys, modest, calm, conditions, laid).
  DERIVED. THE GIVEN ROWS OF THIS SEAT. 3 by the template 'for every input the law returns true; each argument reads behind the call as it read before'; 0 by the template 'total and deterministic' (their statements: YtlflndnfgeeieaaTotals.lean).
  GIVEN WITH THE SEED: the statements are not yours to turn. If you find one false, say at which input.
  Laid BY PROGRAM, IN A SANDBOX (cutbox-rows.mjs): the forced cells as the released guide's own fill.sh prints them over the translation b3f23124f04f5e65… (all of the seat's roots in one cut). By AI agents, Wed Nov 11 2026. No macro, syntax, notation, axiom, sorry.
-/
import Derived.Test.YtlflndnfgeeieaaChecked
import GoSem.Claim
import GoSem.ClaimJoined
import GoSem.ClaimMapViews
import Derived.JoinedTies
import Derived.KernelRfl
namespace Go.Proofs.Ytlflndnfgeeieaa
/- THE CELL 'sum', in the pinned program and in every row, IS THE sha256 OF THE DUMP (.gsa) THAT YtlflndnfgeeieaaProg.lean LOADS. Nothing in Lean hashes anything: it is a label: what it is worth is what the hold of that sum in a sandbox is worth. -/
noncomputable def Try.pinned : Pinned := { name := "ytlflndnfgeeieaa", sum := "b3f23124f04f5e65afa164964ef12676d8105947b5d21f4c4359c8622e08dd11", checked := Try.checked }
namespace Rows
def none {H : Type} : Left H := { results := [], args := [] }

/-- 'milepostlaw14.WitnessTrue': WHATEVER THE INPUT: true; the input reads as it did. -/
def witnessTrueSpec : ChangeSpec := { name := "witnessTrue", fn := fun _ => fun
  | [d1, d2, d3, d4, d5, d6, d7] => { results := [.lit (.bool true)], args := [d1, d2, d3, d4, d5, d6, d7] }
  | _ => none }
def witnessTrueRow : OpenClaim := { program := "ytlflndnfgeeieaa", sum := "b3f23124f04f5e65afa164964ef12676d8105947b5d21f4c4359c8622e08dd11", func := "milepost/milepostlaw14.WitnessTrue", spec := "witnessTrue", inPlace := ["slices.overlaps[milepost/api.Arc]"], unfollowed := true, recurses := true, apart := false }
def WitnessTrueSaid : Prop := witnessTrueRow.holds Try.pinned (OpenSpec.ofChange witnessTrueSpec)

/-- ITS FALSE NEIGHBOUR: 'it returns false'. Refute it at one input. -/
def witnessTrueWrong : ChangeSpec := { name := "witnessTrue", fn := fun _ => fun
  | [d1, d2, d3, d4, d5, d6, d7] => { results := [.lit (.bool false)], args := [d1, d2, d3, d4, d5, d6, d7] }
  | _ => none }
def WitnessTrueWrongFalsely : Prop := witnessTrueRow.holds Try.pinned (OpenSpec.ofChange witnessTrueWrong)

/-- 'milepostlaw14.WitnessLess': WHATEVER THE INPUT: true; the input reads as it did. -/
def witnessLessSpec : ChangeSpec := { name := "witnessLess", fn := fun _ => fun
  | [d1, d2, d3, d4, d5, d6, d7] => { results := [.lit (.bool true)], args := [d1, d2, d3, d4, d5, d6, d7] }
  | _ => none }
def witnessLessRow : OpenClaim := { program := "ytlflndnfgeeieaa", sum := "b3f23124f04f5e65afa164964ef12676d8105947b5d21f4c4359c8622e08dd11", func := "milepost/milepostlaw14.WitnessLess", spec := "witnessLess", inPlace := ["slices.overlaps[milepost/api.Arc]"], unfollowed := true, recurses := true, apart := false }
def WitnessLessSaid : Prop := witnessLessRow.holds Try.pinned (OpenSpec.ofChange witnessLessSpec)

/-- ITS FALSE NEIGHBOUR: 'it returns false'. Refute it at one input. -/
def witnessLessWrong : ChangeSpec := { name := "witnessLess", fn := fun _ => fun
  | [d1, d2, d3, d4, d5, d6, d7] => { results := [.lit (.bool false)], args := [d1, d2, d3, d4, d5, d6, d7] }
  | _ => none }
def WitnessLessWrongFalsely : Prop := witnessLessRow.holds Try.pinned (OpenSpec.ofChange witnessLessWrong)

/-- 'milepostlaw14.WitnessFar': WHATEVER THE INPUT: true; the input reads as it did. -/
def witnessFarSpec : ChangeSpec := { name := "witnessFar", fn := fun _ => fun
  | [d1, d2, d3, d4, d5] => { results := [.lit (.bool true)], args := [d1, d2, d3, d4, d5] }
  | _ => none }
def witnessFarRow : OpenClaim := { program := "ytlflndnfgeeieaa", sum := "b3f23124f04f5e65afa164964ef12676d8105947b5d21f4c4359c8622e08dd11", func := "milepost/milepostlaw14.WitnessFar", spec := "witnessFar", inPlace := ["slices.overlaps[milepost/api.Arc]"], unfollowed := true, recurses := true, apart := false }
def WitnessFarSaid : Prop := witnessFarRow.holds Try.pinned (OpenSpec.ofChange witnessFarSpec)

/-- ITS FALSE NEIGHBOUR: 'it returns false'. Refute it at one input. -/
def witnessFarWrong : ChangeSpec := { name := "witnessFar", fn := fun _ => fun
  | [d1, d2, d3, d4, d5] => { results := [.lit (.bool false)], args := [d1, d2, d3, d4, d5] }
  | _ => none }
def WitnessFarWrongFalsely : Prop := witnessFarRow.holds Try.pinned (OpenSpec.ofChange witnessFarWrong)

/- THE SECOND FORM. 'bulk': how many values and letters a reading holds, each counted each time it is reached (what is shared counts as often as it is met; a slice's spare places count too). A statement '..UptoSaid' is the law's where the arguments, and the package variables that the reading takes, are together of bulk at most 1048576: NARROWER than '..Said'. Prove '..Said' where nothing that the law and all that it calls make is longer than what came in: it says more and counts as full. Else prove '..UptoSaid'. A law counts once. -/
mutual
def uptoBulk {H : Type} : DataW H → Nat
  | .lit (.string bytes) => bytes.length + 1
  | .lit _ => 1
  | .nil => 1
  | .ptr d => uptoBulk d + 1
  | .slice elems spare => uptoBulkAll elems + uptoBulkAll spare + 1
  | .agg parts => uptoBulkAll parts + 1
  | .iface _ d => uptoBulk d + 1
  | .map entries => uptoBulkEntries entries + 1
  | .held _ => 1
def uptoBulkAll {H : Type} : List (DataW H) → Nat
  | [] => 0
  | d :: r => uptoBulk d + uptoBulkAll r
def uptoBulkEntries {H : Type} : List (Lit × DataW H) → Nat
  | [] => 0
  | x :: r => uptoBulkEntry x + uptoBulkEntries r
def uptoBulkEntry {H : Type} : Lit × DataW H → Nat
  | (.string bytes, d) => bytes.length + uptoBulk d + 1
  | (_, d) => uptoBulk d + 1
 end
def uptoSmall : (H : Type) → List (DataW H) → Bool := fun _ ds => decide (uptoBulkAll ds ≤ 1048576)
def OpenSpec.upto (s : _root_.Go.ChangeSpec) : _root_.Go.OpenSpec := { _root_.Go.OpenSpec.ofChange s with cond := some uptoSmall }

/-- 'milepostlaw14.WitnessTrue', WHERE WHAT IT READS IS OF BULK AT MOST 1048576: true; the input reads as it did. -/
def witnessTrueUptoRow : OpenClaim := { program := "ytlflndnfgeeieaa", sum := "b3f23124f04f5e65afa164964ef12676d8105947b5d21f4c4359c8622e08dd11", func := "milepost/milepostlaw14.WitnessTrue", spec := "witnessTrue", inPlace := ["slices.overlaps[milepost/api.Arc]"], unfollowed := true, recurses := true, apart := false, narrowed := true }
def WitnessTrueUptoSaid : Prop := witnessTrueUptoRow.holds Try.pinned (OpenSpec.upto witnessTrueSpec)

/-- 'milepostlaw14.WitnessLess', WHERE WHAT IT READS IS OF BULK AT MOST 1048576: true; the input reads as it did. -/
def witnessLessUptoRow : OpenClaim := { program := "ytlflndnfgeeieaa", sum := "b3f23124f04f5e65afa164964ef12676d8105947b5d21f4c4359c8622e08dd11", func := "milepost/milepostlaw14.WitnessLess", spec := "witnessLess", inPlace := ["slices.overlaps[milepost/api.Arc]"], unfollowed := true, recurses := true, apart := false, narrowed := true }
def WitnessLessUptoSaid : Prop := witnessLessUptoRow.holds Try.pinned (OpenSpec.upto witnessLessSpec)

/-- 'milepostlaw14.WitnessFar', WHERE WHAT IT READS IS OF BULK AT MOST 1048576: true; the input reads as it did. -/
def witnessFarUptoRow : OpenClaim := { program := "ytlflndnfgeeieaa", sum := "b3f23124f04f5e65afa164964ef12676d8105947b5d21f4c4359c8622e08dd11", func := "milepost/milepostlaw14.WitnessFar", spec := "witnessFar", inPlace := ["slices.overlaps[milepost/api.Arc]"], unfollowed := true, recurses := true, apart := false, narrowed := true }
def WitnessFarUptoSaid : Prop := witnessFarUptoRow.holds Try.pinned (OpenSpec.upto witnessFarSpec)

end Rows
end Go.Proofs.Ytlflndnfgeeieaa
