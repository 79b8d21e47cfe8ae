/-
  No cell of these rows narrows 'for every input' (looked for: loops, veiled, ifaces, maps, wideKeys, modest, calm, conditions, laid).
  DERIVED. THE GIVEN ROWS OF THIS SEAT. 5 by the template 'for every input the law returns true; each argument reads behind the call as it read before'; 0 by the template 'total and deterministic' (their statements: YtedoglkonfckkaaTotals.lean).
  GIVEN WITH THE SEED: the statements are not yours to turn. If you find one false, say at which input.
  Laid BY PROGRAM, IN A SANDBOX (cutbox-rows.mjs): the forced cells as the released guide's own fill.sh prints them over the translation a0f44f7a83c06e7f… (all of the seat's roots in one cut). By AI agents, Wed Nov 11 2026. No macro, syntax, notation, axiom, sorry.
-/
import Derived.Test.YtedoglkonfckkaaChecked
import GoSem.Claim
import GoSem.ClaimJoined
import GoSem.ClaimMapViews
import Derived.JoinedTies
import Derived.KernelRfl
namespace Go.Proofs.Ytedoglkonfckkaa
/- THE CELL 'sum', in the pinned program and in every row, IS THE sha256 OF THE DUMP (.gsa) THAT YtedoglkonfckkaaProg.lean LOADS. Nothing in Lean hashes anything: it is a label: what it is worth is what the hold of that sum in a sandbox is worth. -/
noncomputable def Try.pinned : Pinned := { name := "ytedoglkonfckkaa", sum := "a0f44f7a83c06e7feaa183ae3477a62494c818997dc77954f8038f29c48a0526", checked := Try.checked }
namespace Rows
def none {H : Type} : Left H := { results := [], args := [] }

/-- 'hydrocascadelaw02.CurveRises': WHATEVER THE INPUT: true; the input reads as it did. -/
def curveRisesSpec : ChangeSpec := { name := "curveRises", fn := fun _ => fun
  | [d1, d2, d3] => { results := [.lit (.bool true)], args := [d1, d2, d3] }
  | _ => none }
def curveRisesRow : OpenClaim := { program := "ytedoglkonfckkaa", sum := "a0f44f7a83c06e7feaa183ae3477a62494c818997dc77954f8038f29c48a0526", func := "hydrocascade/hydrocascadelaw02.CurveRises", spec := "curveRises", apart := false }
def CurveRisesSaid : Prop := curveRisesRow.holds Try.pinned (OpenSpec.ofChange curveRisesSpec)

/-- ITS FALSE NEIGHBOUR: 'it returns false'. Refute it at one input. -/
def curveRisesWrong : ChangeSpec := { name := "curveRises", fn := fun _ => fun
  | [d1, d2, d3] => { results := [.lit (.bool false)], args := [d1, d2, d3] }
  | _ => none }
def CurveRisesWrongFalsely : Prop := curveRisesRow.holds Try.pinned (OpenSpec.ofChange curveRisesWrong)

/-- 'hydrocascadelaw02.CurveBetween': WHATEVER THE INPUT: true; the input reads as it did. -/
def curveBetweenSpec : ChangeSpec := { name := "curveBetween", fn := fun _ => fun
  | [d1, d2, d3] => { results := [.lit (.bool true)], args := [d1, d2, d3] }
  | _ => none }
def curveBetweenRow : OpenClaim := { program := "ytedoglkonfckkaa", sum := "a0f44f7a83c06e7feaa183ae3477a62494c818997dc77954f8038f29c48a0526", func := "hydrocascade/hydrocascadelaw02.CurveBetween", spec := "curveBetween", apart := false }
def CurveBetweenSaid : Prop := curveBetweenRow.holds Try.pinned (OpenSpec.ofChange curveBetweenSpec)

/-- ITS FALSE NEIGHBOUR: 'it returns false'. Refute it at one input. -/
def curveBetweenWrong : ChangeSpec := { name := "curveBetween", fn := fun _ => fun
  | [d1, d2, d3] => { results := [.lit (.bool false)], args := [d1, d2, d3] }
  | _ => none }
def CurveBetweenWrongFalsely : Prop := curveBetweenRow.holds Try.pinned (OpenSpec.ofChange curveBetweenWrong)

/-- 'hydrocascadelaw02.CurveMoves': WHATEVER THE INPUT: true; the input reads as it did. -/
def curveMovesSpec : ChangeSpec := { name := "curveMoves", fn := fun _ => fun
  | [d1, d2, d3, d4] => { results := [.lit (.bool true)], args := [d1, d2, d3, d4] }
  | _ => none }
def curveMovesRow : OpenClaim := { program := "ytedoglkonfckkaa", sum := "a0f44f7a83c06e7feaa183ae3477a62494c818997dc77954f8038f29c48a0526", func := "hydrocascade/hydrocascadelaw02.CurveMoves", spec := "curveMoves", apart := false }
def CurveMovesSaid : Prop := curveMovesRow.holds Try.pinned (OpenSpec.ofChange curveMovesSpec)

/-- ITS FALSE NEIGHBOUR: 'it returns false'. Refute it at one input. -/
def curveMovesWrong : ChangeSpec := { name := "curveMoves", fn := fun _ => fun
  | [d1, d2, d3, d4] => { results := [.lit (.bool false)], args := [d1, d2, d3, d4] }
  | _ => none }
def CurveMovesWrongFalsely : Prop := curveMovesRow.holds Try.pinned (OpenSpec.ofChange curveMovesWrong)

/-- 'hydrocascadelaw02.CurveAdds': WHATEVER THE INPUT: true; the input reads as it did. -/
def curveAddsSpec : ChangeSpec := { name := "curveAdds", fn := fun _ => fun
  | [d1, d2, d3] => { results := [.lit (.bool true)], args := [d1, d2, d3] }
  | _ => none }
def curveAddsRow : OpenClaim := { program := "ytedoglkonfckkaa", sum := "a0f44f7a83c06e7feaa183ae3477a62494c818997dc77954f8038f29c48a0526", func := "hydrocascade/hydrocascadelaw02.CurveAdds", spec := "curveAdds", recurses := true, apart := false }
def CurveAddsSaid : Prop := curveAddsRow.holds Try.pinned (OpenSpec.ofChange curveAddsSpec)

/-- ITS FALSE NEIGHBOUR: 'it returns false'. Refute it at one input. -/
def curveAddsWrong : ChangeSpec := { name := "curveAdds", fn := fun _ => fun
  | [d1, d2, d3] => { results := [.lit (.bool false)], args := [d1, d2, d3] }
  | _ => none }
def CurveAddsWrongFalsely : Prop := curveAddsRow.holds Try.pinned (OpenSpec.ofChange curveAddsWrong)

/-- 'hydrocascadelaw02.CurveSums': WHATEVER THE INPUT: true; the input reads as it did. -/
def curveSumsSpec : ChangeSpec := { name := "curveSums", fn := fun _ => fun
  | [d1, d2] => { results := [.lit (.bool true)], args := [d1, d2] }
  | _ => none }
def curveSumsRow : OpenClaim := { program := "ytedoglkonfckkaa", sum := "a0f44f7a83c06e7feaa183ae3477a62494c818997dc77954f8038f29c48a0526", func := "hydrocascade/hydrocascadelaw02.CurveSums", spec := "curveSums", recurses := true, apart := false }
def CurveSumsSaid : Prop := curveSumsRow.holds Try.pinned (OpenSpec.ofChange curveSumsSpec)

/-- ITS FALSE NEIGHBOUR: 'it returns false'. Refute it at one input. -/
def curveSumsWrong : ChangeSpec := { name := "curveSums", fn := fun _ => fun
  | [d1, d2] => { results := [.lit (.bool false)], args := [d1, d2] }
  | _ => none }
def CurveSumsWrongFalsely : Prop := curveSumsRow.holds Try.pinned (OpenSpec.ofChange curveSumsWrong)

/- THE SECOND FORM. 'bulk': how many values and letters a reading holds, each counted each time it is reached (what is shared counts as often as it is met; a slice's spare places count too). A statement '..UptoSaid' is the law's where the arguments, and the package variables that the reading takes, are together of bulk at most 1048576: NARROWER than '..Said'. Prove '..Said' where nothing that the law and all that it calls make is longer than what came in: it says more and counts as full. Else prove '..UptoSaid'. A law counts once. -/
mutual
def uptoBulk {H : Type} : DataW H → Nat
  | .lit (.string bytes) => bytes.length + 1
  | .lit _ => 1
  | .nil => 1
  | .ptr d => uptoBulk d + 1
  | .slice elems spare => uptoBulkAll elems + uptoBulkAll spare + 1
  | .agg parts => uptoBulkAll parts + 1
  | .iface _ d => uptoBulk d + 1
  | .map entries => uptoBulkEntries entries + 1
  | .held _ => 1
def uptoBulkAll {H : Type} : List (DataW H) → Nat
  | [] => 0
  | d :: r => uptoBulk d + uptoBulkAll r
def uptoBulkEntries {H : Type} : List (Lit × DataW H) → Nat
  | [] => 0
  | x :: r => uptoBulkEntry x + uptoBulkEntries r
def uptoBulkEntry {H : Type} : Lit × DataW H → Nat
  | (.string bytes, d) => bytes.length + uptoBulk d + 1
  | (_, d) => uptoBulk d + 1
 end
def uptoSmall : (H : Type) → List (DataW H) → Bool := fun _ ds => decide (uptoBulkAll ds ≤ 1048576)
def OpenSpec.upto (s : _root_.Go.ChangeSpec) : _root_.Go.OpenSpec := { _root_.Go.OpenSpec.ofChange s with cond := some uptoSmall }

/-- 'hydrocascadelaw02.CurveRises', WHERE WHAT IT READS IS OF BULK AT MOST 1048576: true; the input reads as it did. -/
def curveRisesUptoRow : OpenClaim := { program := "ytedoglkonfckkaa", sum := "a0f44f7a83c06e7feaa183ae3477a62494c818997dc77954f8038f29c48a0526", func := "hydrocascade/hydrocascadelaw02.CurveRises", spec := "curveRises", apart := false, narrowed := true }
def CurveRisesUptoSaid : Prop := curveRisesUptoRow.holds Try.pinned (OpenSpec.upto curveRisesSpec)

/-- 'hydrocascadelaw02.CurveBetween', WHERE WHAT IT READS IS OF BULK AT MOST 1048576: true; the input reads as it did. -/
def curveBetweenUptoRow : OpenClaim := { program := "ytedoglkonfckkaa", sum := "a0f44f7a83c06e7feaa183ae3477a62494c818997dc77954f8038f29c48a0526", func := "hydrocascade/hydrocascadelaw02.CurveBetween", spec := "curveBetween", apart := false, narrowed := true }
def CurveBetweenUptoSaid : Prop := curveBetweenUptoRow.holds Try.pinned (OpenSpec.upto curveBetweenSpec)

/-- 'hydrocascadelaw02.CurveMoves', WHERE WHAT IT READS IS OF BULK AT MOST 1048576: true; the input reads as it did. -/
def curveMovesUptoRow : OpenClaim := { program := "ytedoglkonfckkaa", sum := "a0f44f7a83c06e7feaa183ae3477a62494c818997dc77954f8038f29c48a0526", func := "hydrocascade/hydrocascadelaw02.CurveMoves", spec := "curveMoves", apart := false, narrowed := true }
def CurveMovesUptoSaid : Prop := curveMovesUptoRow.holds Try.pinned (OpenSpec.upto curveMovesSpec)

/-- 'hydrocascadelaw02.CurveAdds', WHERE WHAT IT READS IS OF BULK AT MOST 1048576: true; the input reads as it did. -/
def curveAddsUptoRow : OpenClaim := { program := "ytedoglkonfckkaa", sum := "a0f44f7a83c06e7feaa183ae3477a62494c818997dc77954f8038f29c48a0526", func := "hydrocascade/hydrocascadelaw02.CurveAdds", spec := "curveAdds", recurses := true, apart := false, narrowed := true }
def CurveAddsUptoSaid : Prop := curveAddsUptoRow.holds Try.pinned (OpenSpec.upto curveAddsSpec)

/-- 'hydrocascadelaw02.CurveSums', WHERE WHAT IT READS IS OF BULK AT MOST 1048576: true; the input reads as it did. -/
def curveSumsUptoRow : OpenClaim := { program := "ytedoglkonfckkaa", sum := "a0f44f7a83c06e7feaa183ae3477a62494c818997dc77954f8038f29c48a0526", func := "hydrocascade/hydrocascadelaw02.CurveSums", spec := "curveSums", recurses := true, apart := false, narrowed := true }
def CurveSumsUptoSaid : Prop := curveSumsUptoRow.holds Try.pinned (OpenSpec.upto curveSumsSpec)

end Rows
end Go.Proofs.Ytedoglkonfckkaa
