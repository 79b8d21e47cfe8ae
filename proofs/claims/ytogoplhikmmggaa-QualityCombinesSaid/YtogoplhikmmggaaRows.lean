/-
  No cell of these rows narrows 'for every input' (looked for: loops, veiled, ifaces, maps, wideKeys, modest, calm, conditions, laid).
  DERIVED. THE GIVEN ROWS OF THIS SEAT. 8 by the template 'for every input the law returns true; each argument reads behind the call as it read before'; 0 by the template 'total and deterministic' (their statements: YtogoplhikmmggaaTotals.lean).
  GIVEN WITH THE SEED: the statements are not yours to turn. If you find one false, say at which input.
  Laid BY PROGRAM, IN A SANDBOX (cutbox-rows.mjs): the forced cells as the released guide's own fill.sh prints them over the translation 861e99ed0a3af4cf… (all of the seat's roots in one cut). By AI agents, Wed Nov 11 2026. No macro, syntax, notation, axiom, sorry.
-/
import Derived.Test.YtogoplhikmmggaaChecked
import GoSem.Claim
import GoSem.ClaimJoined
import GoSem.ClaimMapViews
import Derived.JoinedTies
import Derived.KernelRfl
namespace Go.Proofs.Ytogoplhikmmggaa
/- THE CELL 'sum', in the pinned program and in every row, IS THE sha256 OF THE DUMP (.gsa) THAT YtogoplhikmmggaaProg.lean LOADS. Nothing in Lean hashes anything: it is a label: what it is worth is what the hold of that sum in a sandbox is worth. -/
noncomputable def Try.pinned : Pinned := { name := "ytogoplhikmmggaa", sum := "861e99ed0a3af4cfe21856f9c341613b5cbcafc4f906cb80aba8555a89088a30", checked := Try.checked }
namespace Rows
def none {H : Type} : Left H := { results := [], args := [] }

/-- 'hydrocascadelaw08.QualityVotes': WHATEVER THE INPUT: true; the input reads as it did. -/
def qualityVotesSpec : ChangeSpec := { name := "qualityVotes", fn := fun _ => fun
  | [d] => { results := [.lit (.bool true)], args := [d] }
  | _ => none }
def qualityVotesRow : OpenClaim := { program := "ytogoplhikmmggaa", sum := "861e99ed0a3af4cfe21856f9c341613b5cbcafc4f906cb80aba8555a89088a30", func := "hydrocascade/hydrocascadelaw08.QualityVotes", spec := "qualityVotes", unfollowed := true, recurses := true, apart := false }
def QualityVotesSaid : Prop := qualityVotesRow.holds Try.pinned (OpenSpec.ofChange qualityVotesSpec)

/-- ITS FALSE NEIGHBOUR: 'it returns false'. Refute it at one input. -/
def qualityVotesWrong : ChangeSpec := { name := "qualityVotes", fn := fun _ => fun
  | [d] => { results := [.lit (.bool false)], args := [d] }
  | _ => none }
def QualityVotesWrongFalsely : Prop := qualityVotesRow.holds Try.pinned (OpenSpec.ofChange qualityVotesWrong)

/-- 'hydrocascadelaw08.QualityFills': WHATEVER THE INPUT: true; the input reads as it did. -/
def qualityFillsSpec : ChangeSpec := { name := "qualityFills", fn := fun _ => fun
  | [d1, d2] => { results := [.lit (.bool true)], args := [d1, d2] }
  | _ => none }
def qualityFillsRow : OpenClaim := { program := "ytogoplhikmmggaa", sum := "861e99ed0a3af4cfe21856f9c341613b5cbcafc4f906cb80aba8555a89088a30", func := "hydrocascade/hydrocascadelaw08.QualityFills", spec := "qualityFills", unfollowed := true, recurses := true, apart := false }
def QualityFillsSaid : Prop := qualityFillsRow.holds Try.pinned (OpenSpec.ofChange qualityFillsSpec)

/-- ITS FALSE NEIGHBOUR: 'it returns false'. Refute it at one input. -/
def qualityFillsWrong : ChangeSpec := { name := "qualityFills", fn := fun _ => fun
  | [d1, d2] => { results := [.lit (.bool false)], args := [d1, d2] }
  | _ => none }
def QualityFillsWrongFalsely : Prop := qualityFillsRow.holds Try.pinned (OpenSpec.ofChange qualityFillsWrong)

/-- 'hydrocascadelaw08.QualityValues': WHATEVER THE INPUT: true; the input reads as it did. -/
def qualityValuesSpec : ChangeSpec := { name := "qualityValues", fn := fun _ => fun
  | [d1, d2, d3, d4] => { results := [.lit (.bool true)], args := [d1, d2, d3, d4] }
  | _ => none }
def qualityValuesRow : OpenClaim := { program := "ytogoplhikmmggaa", sum := "861e99ed0a3af4cfe21856f9c341613b5cbcafc4f906cb80aba8555a89088a30", func := "hydrocascade/hydrocascadelaw08.QualityValues", spec := "qualityValues", unfollowed := true, recurses := true, apart := false }
def QualityValuesSaid : Prop := qualityValuesRow.holds Try.pinned (OpenSpec.ofChange qualityValuesSpec)

/-- ITS FALSE NEIGHBOUR: 'it returns false'. Refute it at one input. -/
def qualityValuesWrong : ChangeSpec := { name := "qualityValues", fn := fun _ => fun
  | [d1, d2, d3, d4] => { results := [.lit (.bool false)], args := [d1, d2, d3, d4] }
  | _ => none }
def QualityValuesWrongFalsely : Prop := qualityValuesRow.holds Try.pinned (OpenSpec.ofChange qualityValuesWrong)

/-- 'hydrocascadelaw08.QualityDrifts': WHATEVER THE INPUT: true; the input reads as it did. -/
def qualityDriftsSpec : ChangeSpec := { name := "qualityDrifts", fn := fun _ => fun
  | [d1, d2] => { results := [.lit (.bool true)], args := [d1, d2] }
  | _ => none }
def qualityDriftsRow : OpenClaim := { program := "ytogoplhikmmggaa", sum := "861e99ed0a3af4cfe21856f9c341613b5cbcafc4f906cb80aba8555a89088a30", func := "hydrocascade/hydrocascadelaw08.QualityDrifts", spec := "qualityDrifts", unfollowed := true, recurses := true, apart := false }
def QualityDriftsSaid : Prop := qualityDriftsRow.holds Try.pinned (OpenSpec.ofChange qualityDriftsSpec)

/-- ITS FALSE NEIGHBOUR: 'it returns false'. Refute it at one input. -/
def qualityDriftsWrong : ChangeSpec := { name := "qualityDrifts", fn := fun _ => fun
  | [d1, d2] => { results := [.lit (.bool false)], args := [d1, d2] }
  | _ => none }
def QualityDriftsWrongFalsely : Prop := qualityDriftsRow.holds Try.pinned (OpenSpec.ofChange qualityDriftsWrong)

/-- 'hydrocascadelaw08.QualityVerdicts': WHATEVER THE INPUT: true; the input reads as it did. -/
def qualityVerdictsSpec : ChangeSpec := { name := "qualityVerdicts", fn := fun _ => fun
  | [d1, d2, d3] => { results := [.lit (.bool true)], args := [d1, d2, d3] }
  | _ => none }
def qualityVerdictsRow : OpenClaim := { program := "ytogoplhikmmggaa", sum := "861e99ed0a3af4cfe21856f9c341613b5cbcafc4f906cb80aba8555a89088a30", func := "hydrocascade/hydrocascadelaw08.QualityVerdicts", spec := "qualityVerdicts", unfollowed := true, recurses := true, apart := false }
def QualityVerdictsSaid : Prop := qualityVerdictsRow.holds Try.pinned (OpenSpec.ofChange qualityVerdictsSpec)

/-- ITS FALSE NEIGHBOUR: 'it returns false'. Refute it at one input. -/
def qualityVerdictsWrong : ChangeSpec := { name := "qualityVerdicts", fn := fun _ => fun
  | [d1, d2, d3] => { results := [.lit (.bool false)], args := [d1, d2, d3] }
  | _ => none }
def QualityVerdictsWrongFalsely : Prop := qualityVerdictsRow.holds Try.pinned (OpenSpec.ofChange qualityVerdictsWrong)

/-- 'hydrocascadelaw08.QualityFaults': WHATEVER THE INPUT: true; the input reads as it did. -/
def qualityFaultsSpec : ChangeSpec := { name := "qualityFaults", fn := fun _ => fun
  | [d1, d2] => { results := [.lit (.bool true)], args := [d1, d2] }
  | _ => none }
def qualityFaultsRow : OpenClaim := { program := "ytogoplhikmmggaa", sum := "861e99ed0a3af4cfe21856f9c341613b5cbcafc4f906cb80aba8555a89088a30", func := "hydrocascade/hydrocascadelaw08.QualityFaults", spec := "qualityFaults", unfollowed := true, recurses := true, apart := false }
def QualityFaultsSaid : Prop := qualityFaultsRow.holds Try.pinned (OpenSpec.ofChange qualityFaultsSpec)

/-- ITS FALSE NEIGHBOUR: 'it returns false'. Refute it at one input. -/
def qualityFaultsWrong : ChangeSpec := { name := "qualityFaults", fn := fun _ => fun
  | [d1, d2] => { results := [.lit (.bool false)], args := [d1, d2] }
  | _ => none }
def QualityFaultsWrongFalsely : Prop := qualityFaultsRow.holds Try.pinned (OpenSpec.ofChange qualityFaultsWrong)

/-- 'hydrocascadelaw08.QualityCombines': WHATEVER THE INPUT: true; the input reads as it did. -/
def qualityCombinesSpec : ChangeSpec := { name := "qualityCombines", fn := fun _ => fun
  | [d1, d2, d3, d4] => { results := [.lit (.bool true)], args := [d1, d2, d3, d4] }
  | _ => none }
def qualityCombinesRow : OpenClaim := { program := "ytogoplhikmmggaa", sum := "861e99ed0a3af4cfe21856f9c341613b5cbcafc4f906cb80aba8555a89088a30", func := "hydrocascade/hydrocascadelaw08.QualityCombines", spec := "qualityCombines", unfollowed := true, recurses := true, apart := false }
def QualityCombinesSaid : Prop := qualityCombinesRow.holds Try.pinned (OpenSpec.ofChange qualityCombinesSpec)

/-- ITS FALSE NEIGHBOUR: 'it returns false'. Refute it at one input. -/
def qualityCombinesWrong : ChangeSpec := { name := "qualityCombines", fn := fun _ => fun
  | [d1, d2, d3, d4] => { results := [.lit (.bool false)], args := [d1, d2, d3, d4] }
  | _ => none }
def QualityCombinesWrongFalsely : Prop := qualityCombinesRow.holds Try.pinned (OpenSpec.ofChange qualityCombinesWrong)

/-- 'hydrocascadelaw08.QualityAlone': WHATEVER THE INPUT: true; the input reads as it did. -/
def qualityAloneSpec : ChangeSpec := { name := "qualityAlone", fn := fun _ => fun
  | [d1, d2] => { results := [.lit (.bool true)], args := [d1, d2] }
  | _ => none }
def qualityAloneRow : OpenClaim := { program := "ytogoplhikmmggaa", sum := "861e99ed0a3af4cfe21856f9c341613b5cbcafc4f906cb80aba8555a89088a30", func := "hydrocascade/hydrocascadelaw08.QualityAlone", spec := "qualityAlone", unfollowed := true, recurses := true, apart := false }
def QualityAloneSaid : Prop := qualityAloneRow.holds Try.pinned (OpenSpec.ofChange qualityAloneSpec)

/-- ITS FALSE NEIGHBOUR: 'it returns false'. Refute it at one input. -/
def qualityAloneWrong : ChangeSpec := { name := "qualityAlone", fn := fun _ => fun
  | [d1, d2] => { results := [.lit (.bool false)], args := [d1, d2] }
  | _ => none }
def QualityAloneWrongFalsely : Prop := qualityAloneRow.holds Try.pinned (OpenSpec.ofChange qualityAloneWrong)

/- THE SECOND FORM. 'bulk': how many values and letters a reading holds, each counted each time it is reached (what is shared counts as often as it is met; a slice's spare places count too). A statement '..UptoSaid' is the law's where the arguments, and the package variables that the reading takes, are together of bulk at most 1048576: NARROWER than '..Said'. Prove '..Said' where nothing that the law and all that it calls make is longer than what came in: it says more and counts as full. Else prove '..UptoSaid'. A law counts once. -/
mutual
def uptoBulk {H : Type} : DataW H → Nat
  | .lit (.string bytes) => bytes.length + 1
  | .lit _ => 1
  | .nil => 1
  | .ptr d => uptoBulk d + 1
  | .slice elems spare => uptoBulkAll elems + uptoBulkAll spare + 1
  | .agg parts => uptoBulkAll parts + 1
  | .iface _ d => uptoBulk d + 1
  | .map entries => uptoBulkEntries entries + 1
  | .held _ => 1
def uptoBulkAll {H : Type} : List (DataW H) → Nat
  | [] => 0
  | d :: r => uptoBulk d + uptoBulkAll r
def uptoBulkEntries {H : Type} : List (Lit × DataW H) → Nat
  | [] => 0
  | x :: r => uptoBulkEntry x + uptoBulkEntries r
def uptoBulkEntry {H : Type} : Lit × DataW H → Nat
  | (.string bytes, d) => bytes.length + uptoBulk d + 1
  | (_, d) => uptoBulk d + 1
 end
def uptoSmall : (H : Type) → List (DataW H) → Bool := fun _ ds => decide (uptoBulkAll ds ≤ 1048576)
def OpenSpec.upto (s : _root_.Go.ChangeSpec) : _root_.Go.OpenSpec := { _root_.Go.OpenSpec.ofChange s with cond := some uptoSmall }

/-- 'hydrocascadelaw08.QualityVotes', WHERE WHAT IT READS IS OF BULK AT MOST 1048576: true; the input reads as it did. -/
def qualityVotesUptoRow : OpenClaim := { program := "ytogoplhikmmggaa", sum := "861e99ed0a3af4cfe21856f9c341613b5cbcafc4f906cb80aba8555a89088a30", func := "hydrocascade/hydrocascadelaw08.QualityVotes", spec := "qualityVotes", unfollowed := true, recurses := true, apart := false, narrowed := true }
def QualityVotesUptoSaid : Prop := qualityVotesUptoRow.holds Try.pinned (OpenSpec.upto qualityVotesSpec)

/-- 'hydrocascadelaw08.QualityFills', WHERE WHAT IT READS IS OF BULK AT MOST 1048576: true; the input reads as it did. -/
def qualityFillsUptoRow : OpenClaim := { program := "ytogoplhikmmggaa", sum := "861e99ed0a3af4cfe21856f9c341613b5cbcafc4f906cb80aba8555a89088a30", func := "hydrocascade/hydrocascadelaw08.QualityFills", spec := "qualityFills", unfollowed := true, recurses := true, apart := false, narrowed := true }
def QualityFillsUptoSaid : Prop := qualityFillsUptoRow.holds Try.pinned (OpenSpec.upto qualityFillsSpec)

/-- 'hydrocascadelaw08.QualityValues', WHERE WHAT IT READS IS OF BULK AT MOST 1048576: true; the input reads as it did. -/
def qualityValuesUptoRow : OpenClaim := { program := "ytogoplhikmmggaa", sum := "861e99ed0a3af4cfe21856f9c341613b5cbcafc4f906cb80aba8555a89088a30", func := "hydrocascade/hydrocascadelaw08.QualityValues", spec := "qualityValues", unfollowed := true, recurses := true, apart := false, narrowed := true }
def QualityValuesUptoSaid : Prop := qualityValuesUptoRow.holds Try.pinned (OpenSpec.upto qualityValuesSpec)

/-- 'hydrocascadelaw08.QualityDrifts', WHERE WHAT IT READS IS OF BULK AT MOST 1048576: true; the input reads as it did. -/
def qualityDriftsUptoRow : OpenClaim := { program := "ytogoplhikmmggaa", sum := "861e99ed0a3af4cfe21856f9c341613b5cbcafc4f906cb80aba8555a89088a30", func := "hydrocascade/hydrocascadelaw08.QualityDrifts", spec := "qualityDrifts", unfollowed := true, recurses := true, apart := false, narrowed := true }
def QualityDriftsUptoSaid : Prop := qualityDriftsUptoRow.holds Try.pinned (OpenSpec.upto qualityDriftsSpec)

/-- 'hydrocascadelaw08.QualityVerdicts', WHERE WHAT IT READS IS OF BULK AT MOST 1048576: true; the input reads as it did. -/
def qualityVerdictsUptoRow : OpenClaim := { program := "ytogoplhikmmggaa", sum := "861e99ed0a3af4cfe21856f9c341613b5cbcafc4f906cb80aba8555a89088a30", func := "hydrocascade/hydrocascadelaw08.QualityVerdicts", spec := "qualityVerdicts", unfollowed := true, recurses := true, apart := false, narrowed := true }
def QualityVerdictsUptoSaid : Prop := qualityVerdictsUptoRow.holds Try.pinned (OpenSpec.upto qualityVerdictsSpec)

/-- 'hydrocascadelaw08.QualityFaults', WHERE WHAT IT READS IS OF BULK AT MOST 1048576: true; the input reads as it did. -/
def qualityFaultsUptoRow : OpenClaim := { program := "ytogoplhikmmggaa", sum := "861e99ed0a3af4cfe21856f9c341613b5cbcafc4f906cb80aba8555a89088a30", func := "hydrocascade/hydrocascadelaw08.QualityFaults", spec := "qualityFaults", unfollowed := true, recurses := true, apart := false, narrowed := true }
def QualityFaultsUptoSaid : Prop := qualityFaultsUptoRow.holds Try.pinned (OpenSpec.upto qualityFaultsSpec)

/-- 'hydrocascadelaw08.QualityCombines', WHERE WHAT IT READS IS OF BULK AT MOST 1048576: true; the input reads as it did. -/
def qualityCombinesUptoRow : OpenClaim := { program := "ytogoplhikmmggaa", sum := "861e99ed0a3af4cfe21856f9c341613b5cbcafc4f906cb80aba8555a89088a30", func := "hydrocascade/hydrocascadelaw08.QualityCombines", spec := "qualityCombines", unfollowed := true, recurses := true, apart := false, narrowed := true }
def QualityCombinesUptoSaid : Prop := qualityCombinesUptoRow.holds Try.pinned (OpenSpec.upto qualityCombinesSpec)

/-- 'hydrocascadelaw08.QualityAlone', WHERE WHAT IT READS IS OF BULK AT MOST 1048576: true; the input reads as it did. -/
def qualityAloneUptoRow : OpenClaim := { program := "ytogoplhikmmggaa", sum := "861e99ed0a3af4cfe21856f9c341613b5cbcafc4f906cb80aba8555a89088a30", func := "hydrocascade/hydrocascadelaw08.QualityAlone", spec := "qualityAlone", unfollowed := true, recurses := true, apart := false, narrowed := true }
def QualityAloneUptoSaid : Prop := qualityAloneUptoRow.holds Try.pinned (OpenSpec.upto qualityAloneSpec)

end Rows
end Go.Proofs.Ytogoplhikmmggaa
