/-
  No cell of these rows narrows 'for every input' (looked for: loops, veiled, ifaces, maps, wideKeys, modest, calm, conditions, laid).
  DERIVED. THE GIVEN ROWS OF THIS SEAT. 5 by the template 'for every input the law returns true; each argument reads behind the call as it read before'; 0 by the template 'total and deterministic' (their statements: YtiknpkadlckmjaaTotals.lean).
  GIVEN WITH THE SEED: the statements are not yours to turn. If you find one false, say at which input.
  Laid BY PROGRAM, IN A SANDBOX (cutbox-rows.mjs): the forced cells as the released guide's own fill.sh prints them over the translation 891cd83f02ee8855… (all of the seat's roots in one cut). By AI agents, Wed Nov 11 2026. No macro, syntax, notation, axiom, sorry.
-/
import Derived.Test.YtiknpkadlckmjaaChecked
import GoSem.Claim
import GoSem.ClaimJoined
import GoSem.ClaimMapViews
import Derived.JoinedTies
import Derived.KernelRfl
namespace Go.Proofs.Ytiknpkadlckmjaa
/- THE CELL 'sum', in the pinned program and in every row, IS THE sha256 OF THE DUMP (.gsa) THAT YtiknpkadlckmjaaProg.lean LOADS. Nothing in Lean hashes anything: it is a label: what it is worth is what the hold of that sum in a sandbox is worth. -/
noncomputable def Try.pinned : Pinned := { name := "ytiknpkadlckmjaa", sum := "891cd83f02ee88555fc81df0244f6fae36f656cd9ef3c806e35bad65d8f52619", checked := Try.checked }
namespace Rows
def none {H : Type} : Left H := { results := [], args := [] }

/-- 'hydrocascadelaw29.EstimateContradicts': WHATEVER THE INPUT: true; the input reads as it did. -/
def estimateContradictsSpec : ChangeSpec := { name := "estimateContradicts", fn := fun _ => fun
  | [d1, d2] => { results := [.lit (.bool true)], args := [d1, d2] }
  | _ => none }
def estimateContradictsRow : OpenClaim := { program := "ytiknpkadlckmjaa", sum := "891cd83f02ee88555fc81df0244f6fae36f656cd9ef3c806e35bad65d8f52619", func := "hydrocascade/hydrocascadelaw29.EstimateContradicts", spec := "estimateContradicts", apart := false }
def EstimateContradictsSaid : Prop := estimateContradictsRow.holds Try.pinned (OpenSpec.ofChange estimateContradictsSpec)

/-- ITS FALSE NEIGHBOUR: 'it returns false'. Refute it at one input. -/
def estimateContradictsWrong : ChangeSpec := { name := "estimateContradicts", fn := fun _ => fun
  | [d1, d2] => { results := [.lit (.bool false)], args := [d1, d2] }
  | _ => none }
def EstimateContradictsWrongFalsely : Prop := estimateContradictsRow.holds Try.pinned (OpenSpec.ofChange estimateContradictsWrong)

/-- 'hydrocascadelaw29.EstimateTells': WHATEVER THE INPUT: true; the input reads as it did. -/
def estimateTellsSpec : ChangeSpec := { name := "estimateTells", fn := fun _ => fun
  | [d1, d2, d3, d4, d5, d6] => { results := [.lit (.bool true)], args := [d1, d2, d3, d4, d5, d6] }
  | _ => none }
def estimateTellsRow : OpenClaim := { program := "ytiknpkadlckmjaa", sum := "891cd83f02ee88555fc81df0244f6fae36f656cd9ef3c806e35bad65d8f52619", func := "hydrocascade/hydrocascadelaw29.EstimateTells", spec := "estimateTells", apart := false }
def EstimateTellsSaid : Prop := estimateTellsRow.holds Try.pinned (OpenSpec.ofChange estimateTellsSpec)

/-- ITS FALSE NEIGHBOUR: 'it returns false'. Refute it at one input. -/
def estimateTellsWrong : ChangeSpec := { name := "estimateTells", fn := fun _ => fun
  | [d1, d2, d3, d4, d5, d6] => { results := [.lit (.bool false)], args := [d1, d2, d3, d4, d5, d6] }
  | _ => none }
def EstimateTellsWrongFalsely : Prop := estimateTellsRow.holds Try.pinned (OpenSpec.ofChange estimateTellsWrong)

/-- 'hydrocascadelaw29.EstimateSharp': WHATEVER THE INPUT: true; the input reads as it did. -/
def estimateSharpSpec : ChangeSpec := { name := "estimateSharp", fn := fun _ => fun
  | [d1, d2] => { results := [.lit (.bool true)], args := [d1, d2] }
  | _ => none }
def estimateSharpRow : OpenClaim := { program := "ytiknpkadlckmjaa", sum := "891cd83f02ee88555fc81df0244f6fae36f656cd9ef3c806e35bad65d8f52619", func := "hydrocascade/hydrocascadelaw29.EstimateSharp", spec := "estimateSharp", apart := false }
def EstimateSharpSaid : Prop := estimateSharpRow.holds Try.pinned (OpenSpec.ofChange estimateSharpSpec)

/-- ITS FALSE NEIGHBOUR: 'it returns false'. Refute it at one input. -/
def estimateSharpWrong : ChangeSpec := { name := "estimateSharp", fn := fun _ => fun
  | [d1, d2] => { results := [.lit (.bool false)], args := [d1, d2] }
  | _ => none }
def EstimateSharpWrongFalsely : Prop := estimateSharpRow.holds Try.pinned (OpenSpec.ofChange estimateSharpWrong)

/-- 'hydrocascadelaw29.EstimateTrue': WHATEVER THE INPUT: true; the input reads as it did. -/
def estimateTrueSpec : ChangeSpec := { name := "estimateTrue", fn := fun _ => fun
  | [d] => { results := [.lit (.bool true)], args := [d] }
  | _ => none }
def estimateTrueRow : OpenClaim := { program := "ytiknpkadlckmjaa", sum := "891cd83f02ee88555fc81df0244f6fae36f656cd9ef3c806e35bad65d8f52619", func := "hydrocascade/hydrocascadelaw29.EstimateTrue", spec := "estimateTrue", apart := false }
def EstimateTrueSaid : Prop := estimateTrueRow.holds Try.pinned (OpenSpec.ofChange estimateTrueSpec)

/-- ITS FALSE NEIGHBOUR: 'it returns false'. Refute it at one input. -/
def estimateTrueWrong : ChangeSpec := { name := "estimateTrue", fn := fun _ => fun
  | [d] => { results := [.lit (.bool false)], args := [d] }
  | _ => none }
def EstimateTrueWrongFalsely : Prop := estimateTrueRow.holds Try.pinned (OpenSpec.ofChange estimateTrueWrong)

/-- 'hydrocascadelaw29.EstimateLists': WHATEVER THE INPUT: true; the input reads as it did. -/
def estimateListsSpec : ChangeSpec := { name := "estimateLists", fn := fun _ => fun
  | [d1, d2, d3] => { results := [.lit (.bool true)], args := [d1, d2, d3] }
  | _ => none }
def estimateListsRow : OpenClaim := { program := "ytiknpkadlckmjaa", sum := "891cd83f02ee88555fc81df0244f6fae36f656cd9ef3c806e35bad65d8f52619", func := "hydrocascade/hydrocascadelaw29.EstimateLists", spec := "estimateLists", apart := false }
def EstimateListsSaid : Prop := estimateListsRow.holds Try.pinned (OpenSpec.ofChange estimateListsSpec)

/-- ITS FALSE NEIGHBOUR: 'it returns false'. Refute it at one input. -/
def estimateListsWrong : ChangeSpec := { name := "estimateLists", fn := fun _ => fun
  | [d1, d2, d3] => { results := [.lit (.bool false)], args := [d1, d2, d3] }
  | _ => none }
def EstimateListsWrongFalsely : Prop := estimateListsRow.holds Try.pinned (OpenSpec.ofChange estimateListsWrong)

/- THE SECOND FORM. 'bulk': how many values and letters a reading holds, each counted each time it is reached (what is shared counts as often as it is met; a slice's spare places count too). A statement '..UptoSaid' is the law's where the arguments, and the package variables that the reading takes, are together of bulk at most 1048576: NARROWER than '..Said'. Prove '..Said' where nothing that the law and all that it calls make is longer than what came in: it says more and counts as full. Else prove '..UptoSaid'. A law counts once. -/
mutual
def uptoBulk {H : Type} : DataW H → Nat
  | .lit (.string bytes) => bytes.length + 1
  | .lit _ => 1
  | .nil => 1
  | .ptr d => uptoBulk d + 1
  | .slice elems spare => uptoBulkAll elems + uptoBulkAll spare + 1
  | .agg parts => uptoBulkAll parts + 1
  | .iface _ d => uptoBulk d + 1
  | .map entries => uptoBulkEntries entries + 1
  | .held _ => 1
def uptoBulkAll {H : Type} : List (DataW H) → Nat
  | [] => 0
  | d :: r => uptoBulk d + uptoBulkAll r
def uptoBulkEntries {H : Type} : List (Lit × DataW H) → Nat
  | [] => 0
  | x :: r => uptoBulkEntry x + uptoBulkEntries r
def uptoBulkEntry {H : Type} : Lit × DataW H → Nat
  | (.string bytes, d) => bytes.length + uptoBulk d + 1
  | (_, d) => uptoBulk d + 1
 end
def uptoSmall : (H : Type) → List (DataW H) → Bool := fun _ ds => decide (uptoBulkAll ds ≤ 1048576)
def OpenSpec.upto (s : _root_.Go.ChangeSpec) : _root_.Go.OpenSpec := { _root_.Go.OpenSpec.ofChange s with cond := some uptoSmall }

/-- 'hydrocascadelaw29.EstimateContradicts', WHERE WHAT IT READS IS OF BULK AT MOST 1048576: true; the input reads as it did. -/
def estimateContradictsUptoRow : OpenClaim := { program := "ytiknpkadlckmjaa", sum := "891cd83f02ee88555fc81df0244f6fae36f656cd9ef3c806e35bad65d8f52619", func := "hydrocascade/hydrocascadelaw29.EstimateContradicts", spec := "estimateContradicts", apart := false, narrowed := true }
def EstimateContradictsUptoSaid : Prop := estimateContradictsUptoRow.holds Try.pinned (OpenSpec.upto estimateContradictsSpec)

/-- 'hydrocascadelaw29.EstimateTells', WHERE WHAT IT READS IS OF BULK AT MOST 1048576: true; the input reads as it did. -/
def estimateTellsUptoRow : OpenClaim := { program := "ytiknpkadlckmjaa", sum := "891cd83f02ee88555fc81df0244f6fae36f656cd9ef3c806e35bad65d8f52619", func := "hydrocascade/hydrocascadelaw29.EstimateTells", spec := "estimateTells", apart := false, narrowed := true }
def EstimateTellsUptoSaid : Prop := estimateTellsUptoRow.holds Try.pinned (OpenSpec.upto estimateTellsSpec)

/-- 'hydrocascadelaw29.EstimateSharp', WHERE WHAT IT READS IS OF BULK AT MOST 1048576: true; the input reads as it did. -/
def estimateSharpUptoRow : OpenClaim := { program := "ytiknpkadlckmjaa", sum := "891cd83f02ee88555fc81df0244f6fae36f656cd9ef3c806e35bad65d8f52619", func := "hydrocascade/hydrocascadelaw29.EstimateSharp", spec := "estimateSharp", apart := false, narrowed := true }
def EstimateSharpUptoSaid : Prop := estimateSharpUptoRow.holds Try.pinned (OpenSpec.upto estimateSharpSpec)

/-- 'hydrocascadelaw29.EstimateTrue', WHERE WHAT IT READS IS OF BULK AT MOST 1048576: true; the input reads as it did. -/
def estimateTrueUptoRow : OpenClaim := { program := "ytiknpkadlckmjaa", sum := "891cd83f02ee88555fc81df0244f6fae36f656cd9ef3c806e35bad65d8f52619", func := "hydrocascade/hydrocascadelaw29.EstimateTrue", spec := "estimateTrue", apart := false, narrowed := true }
def EstimateTrueUptoSaid : Prop := estimateTrueUptoRow.holds Try.pinned (OpenSpec.upto estimateTrueSpec)

/-- 'hydrocascadelaw29.EstimateLists', WHERE WHAT IT READS IS OF BULK AT MOST 1048576: true; the input reads as it did. -/
def estimateListsUptoRow : OpenClaim := { program := "ytiknpkadlckmjaa", sum := "891cd83f02ee88555fc81df0244f6fae36f656cd9ef3c806e35bad65d8f52619", func := "hydrocascade/hydrocascadelaw29.EstimateLists", spec := "estimateLists", apart := false, narrowed := true }
def EstimateListsUptoSaid : Prop := estimateListsUptoRow.holds Try.pinned (OpenSpec.upto estimateListsSpec)

end Rows
end Go.Proofs.Ytiknpkadlckmjaa
