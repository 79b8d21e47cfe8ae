/-
  DERIVED. GIVEN WITH THE SEED: THE CARDS: each row of YtafnkpmoolbjjaaDoorRows.lean that lists a variable, with what it lists TIED to the program's text (the seventh form; the later family's looks); each row that meets fmt, with fmt's text TOLD by the authors' own Lean function (tested against real Go, not proved from fmt's source: count such statements apart). THE CARD IS WHAT COUNTS. Prove the row's statement (the work); the ties are given (YtafnkpmoolbjjaaDoorTie.lean); close each card by the builder's one call (the guide's Derived/Test/ToyasCard.lean, 'card_holds'). Laid BY PROGRAM, IN A SANDBOX (cutbox-door.mjs). By AI agents, Wed Nov 11 2026. No macro, syntax, notation, axiom, sorry.
-/
import Derived.Test.YtafnkpmoolbjjaaDoorRows
import GoSem.ClaimSeven
namespace Go.Proofs.YtafnkpmoolbjjaaDoor
namespace Rows

/-- THE TIED CARD OF 'hydrocascadelaw42.ReportTexts'. -/
def reportTextsCard : Claim7 := { stood := { row := reportTextsRow, standIns := [], harness := (true, "507094bedbd31923d04149a782bfd95681fdf41a785d6e66038a8ee408828c3f"), looks := false }, kinds := [], alts := [], laidByText := true, laidKinds := [.data, .data, .data, .data, .pinned], laidTests := true, laidLooks := .later }
def ReportTextsCardSaid : Prop := Claim7.holds Tryd.pinned (.plain (OpenSpec.ofChange reportTextsSpec)) reportTextsCard

/-- THE TIED CARD OF 'hydrocascadelaw42.ReportBack'. -/
def reportBackCard : Claim7 := { stood := { row := reportBackRow, standIns := [], harness := (true, "507094bedbd31923d04149a782bfd95681fdf41a785d6e66038a8ee408828c3f"), looks := false }, kinds := [], alts := [], laidByText := true, laidKinds := [.data, .data, .data, .data, .pinned], laidTests := true, laidLooks := .later }
def ReportBackCardSaid : Prop := Claim7.holds Tryd.pinned (.plain (OpenSpec.ofChange reportBackSpec)) reportBackCard

/-- THE TIED CARD OF 'hydrocascadelaw42.ReportLongest'. -/
def reportLongestCard : Claim7 := { stood := { row := reportLongestRow, standIns := [], harness := (true, "507094bedbd31923d04149a782bfd95681fdf41a785d6e66038a8ee408828c3f"), looks := false }, kinds := [], alts := [], laidByText := true, laidKinds := [.data, .data, .data, .data, .pinned], laidTests := true, laidLooks := .later }
def ReportLongestCardSaid : Prop := Claim7.holds Tryd.pinned (.plain (OpenSpec.ofChange reportLongestSpec)) reportLongestCard

/-- THE TIED CARD OF 'hydrocascadelaw42.ReportTells'. -/
def reportTellsCard : Claim7 := { stood := { row := reportTellsRow, standIns := [], harness := (true, "507094bedbd31923d04149a782bfd95681fdf41a785d6e66038a8ee408828c3f"), looks := false }, kinds := [], alts := [], laidByText := true, laidKinds := [.data, .data, .data, .data, .pinned], laidTests := true, laidLooks := .later }
def ReportTellsCardSaid : Prop := Claim7.holds Tryd.pinned (.plain (OpenSpec.ofChange reportTellsSpec)) reportTellsCard

/-- THE SECOND FORM's CARD OF 'hydrocascadelaw42.ReportTexts'. -/
def reportTextsUptoCard : Claim7 := { stood := { row := reportTextsUptoRow, standIns := [], harness := (true, "507094bedbd31923d04149a782bfd95681fdf41a785d6e66038a8ee408828c3f"), looks := false }, kinds := [], alts := [], laidByText := true, laidKinds := [.data, .data, .data, .data, .pinned], laidTests := true, laidLooks := .later }
def ReportTextsUptoCardSaid : Prop := Claim7.holds Tryd.pinned (.plain (OpenSpec.upto reportTextsSpec)) reportTextsUptoCard

/-- THE SECOND FORM's CARD OF 'hydrocascadelaw42.ReportBack'. -/
def reportBackUptoCard : Claim7 := { stood := { row := reportBackUptoRow, standIns := [], harness := (true, "507094bedbd31923d04149a782bfd95681fdf41a785d6e66038a8ee408828c3f"), looks := false }, kinds := [], alts := [], laidByText := true, laidKinds := [.data, .data, .data, .data, .pinned], laidTests := true, laidLooks := .later }
def ReportBackUptoCardSaid : Prop := Claim7.holds Tryd.pinned (.plain (OpenSpec.upto reportBackSpec)) reportBackUptoCard

/-- THE SECOND FORM's CARD OF 'hydrocascadelaw42.ReportLongest'. -/
def reportLongestUptoCard : Claim7 := { stood := { row := reportLongestUptoRow, standIns := [], harness := (true, "507094bedbd31923d04149a782bfd95681fdf41a785d6e66038a8ee408828c3f"), looks := false }, kinds := [], alts := [], laidByText := true, laidKinds := [.data, .data, .data, .data, .pinned], laidTests := true, laidLooks := .later }
def ReportLongestUptoCardSaid : Prop := Claim7.holds Tryd.pinned (.plain (OpenSpec.upto reportLongestSpec)) reportLongestUptoCard

/-- THE SECOND FORM's CARD OF 'hydrocascadelaw42.ReportTells'. -/
def reportTellsUptoCard : Claim7 := { stood := { row := reportTellsUptoRow, standIns := [], harness := (true, "507094bedbd31923d04149a782bfd95681fdf41a785d6e66038a8ee408828c3f"), looks := false }, kinds := [], alts := [], laidByText := true, laidKinds := [.data, .data, .data, .data, .pinned], laidTests := true, laidLooks := .later }
def ReportTellsUptoCardSaid : Prop := Claim7.holds Tryd.pinned (.plain (OpenSpec.upto reportTellsSpec)) reportTellsUptoCard
end Rows
end Go.Proofs.YtafnkpmoolbjjaaDoor
