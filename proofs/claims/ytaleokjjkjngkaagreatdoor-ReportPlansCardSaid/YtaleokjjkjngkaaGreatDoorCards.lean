/-
  DERIVED. GIVEN WITH THE SEED: THE CARDS: each row of YtaleokjjkjngkaaGreatDoorRows.lean that lists a variable, with what it lists TIED to the program's text (the seventh form; the later family's looks); each row that meets fmt, with fmt's text TOLD by the authors' own Lean function (tested against real Go, not proved from fmt's source: count such statements apart). THE CARD IS WHAT COUNTS. Prove the row's statement (the work); the ties are given (YtaleokjjkjngkaaGreatDoorTie.lean); close each card by the builder's one call (the guide's Derived/Test/ToyasCard.lean, 'card_holds'). Laid BY PROGRAM, IN A SANDBOX (cutbox-door.mjs). By AI agents, Wed Nov 11 2026. No macro, syntax, notation, axiom, sorry.
-/
import Derived.Test.YtaleokjjkjngkaaGreatDoorRows
import GoSem.ClaimSeven
namespace Go.Proofs.YtaleokjjkjngkaaGreatDoor
namespace Rows

/-- THE TIED CARD OF 'hydrocascadelaw42.ReportPlans'. -/
def reportPlansCard : Claim7 := { stood := { row := reportPlansRow, standIns := [], harness := (true, "2c985d31bd4b5717c313b79f692f7865bd4d87748164a4f5c22b462ed53e59a1"), looks := false }, kinds := [], alts := [], laidByText := true, laidKinds := [.data, .data, .data, .data, .pinned], laidTests := true, laidLooks := .later }
def ReportPlansCardSaid : Prop := Claim7.holds Tryz.pinned (.plain (OpenSpec.ofChange reportPlansSpec)) reportPlansCard

/-- THE SECOND FORM's CARD OF 'hydrocascadelaw42.ReportPlans'. -/
def reportPlansUptoCard : Claim7 := { stood := { row := reportPlansUptoRow, standIns := [], harness := (true, "2c985d31bd4b5717c313b79f692f7865bd4d87748164a4f5c22b462ed53e59a1"), looks := false }, kinds := [], alts := [], laidByText := true, laidKinds := [.data, .data, .data, .data, .pinned], laidTests := true, laidLooks := .later }
def ReportPlansUptoCardSaid : Prop := Claim7.holds Tryz.pinned (.plain (OpenSpec.upto reportPlansSpec)) reportPlansUptoCard
end Rows
end Go.Proofs.YtaleokjjkjngkaaGreatDoor
