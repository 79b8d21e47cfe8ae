/-
  DERIVED. GIVEN WITH THE SEED: THE CARDS: each row of YtcfcmafmdpbjoaaDoorRows.lean that lists a variable, with what it lists TIED to the program's text (the seventh form; the later family's looks); each row that meets fmt, with fmt's text TOLD by the authors' own Lean function (tested against real Go, not proved from fmt's source: count such statements apart). THE CARD IS WHAT COUNTS. Prove the row's statement (the work); the ties are given (YtcfcmafmdpbjoaaDoorTie.lean); close each card by the builder's one call (the guide's Derived/Test/ToyasCard.lean, 'card_holds'). Laid BY PROGRAM, IN A SANDBOX (cutbox-door.mjs). By AI agents, Wed Nov 11 2026. No macro, syntax, notation, axiom, sorry.
-/
import Derived.Test.YtcfcmafmdpbjoaaDoorRows
import GoSem.ClaimSeven
namespace Go.Proofs.YtcfcmafmdpbjoaaDoor
namespace Rows

/-- THE TIED CARD OF 'hydrocascadelaw24.FloodtableTexts'. -/
def floodtableTextsCard : Claim7 := { stood := { row := floodtableTextsRow, standIns := [], harness := (true, "3937ca1b52c62e205c1e10e3e2bda9a3a11ee05418c7664ceaa241be95be7432"), looks := false }, kinds := [], alts := [], laidByText := true, laidKinds := [.data, .data, .data, .data, .pinned], laidTests := true, laidLooks := .later }
def FloodtableTextsCardSaid : Prop := Claim7.holds Tryd.pinned (.plain (OpenSpec.ofChange floodtableTextsSpec)) floodtableTextsCard

/-- THE TIED CARD OF 'hydrocascadelaw24.FloodtableBack'. -/
def floodtableBackCard : Claim7 := { stood := { row := floodtableBackRow, standIns := [], harness := (true, "3937ca1b52c62e205c1e10e3e2bda9a3a11ee05418c7664ceaa241be95be7432"), looks := false }, kinds := [], alts := [], laidByText := true, laidKinds := [.data, .data, .data, .data, .pinned], laidTests := true, laidLooks := .later }
def FloodtableBackCardSaid : Prop := Claim7.holds Tryd.pinned (.plain (OpenSpec.ofChange floodtableBackSpec)) floodtableBackCard

/-- THE TIED CARD OF 'hydrocascadelaw24.FloodtableRises'. -/
def floodtableRisesCard : Claim7 := { stood := { row := floodtableRisesRow, standIns := [], harness := (true, "3937ca1b52c62e205c1e10e3e2bda9a3a11ee05418c7664ceaa241be95be7432"), looks := false }, kinds := [], alts := [], laidByText := true, laidKinds := [.data, .data, .data, .data, .pinned], laidTests := true, laidLooks := .later }
def FloodtableRisesCardSaid : Prop := Claim7.holds Tryd.pinned (.plain (OpenSpec.ofChange floodtableRisesSpec)) floodtableRisesCard

/-- THE TIED CARD OF 'hydrocascadelaw24.FloodtableTells'. -/
def floodtableTellsCard : Claim7 := { stood := { row := floodtableTellsRow, standIns := [], harness := (true, "3937ca1b52c62e205c1e10e3e2bda9a3a11ee05418c7664ceaa241be95be7432"), looks := false }, kinds := [], alts := [], laidByText := true, laidKinds := [.data, .data, .data, .data, .pinned], laidTests := true, laidLooks := .later }
def FloodtableTellsCardSaid : Prop := Claim7.holds Tryd.pinned (.plain (OpenSpec.ofChange floodtableTellsSpec)) floodtableTellsCard

/-- THE TIED CARD OF 'hydrocascadelaw24.FloodtableJoins'. -/
def floodtableJoinsCard : Claim7 := { stood := { row := floodtableJoinsRow, standIns := [], harness := (true, "3937ca1b52c62e205c1e10e3e2bda9a3a11ee05418c7664ceaa241be95be7432"), looks := false }, kinds := [], alts := [], laidByText := true, laidKinds := [.data, .data, .data, .data, .pinned], laidTests := true, laidLooks := .later }
def FloodtableJoinsCardSaid : Prop := Claim7.holds Tryd.pinned (.plain (OpenSpec.ofChange floodtableJoinsSpec)) floodtableJoinsCard

/-- THE SECOND FORM's CARD OF 'hydrocascadelaw24.FloodtableTexts'. -/
def floodtableTextsUptoCard : Claim7 := { stood := { row := floodtableTextsUptoRow, standIns := [], harness := (true, "3937ca1b52c62e205c1e10e3e2bda9a3a11ee05418c7664ceaa241be95be7432"), looks := false }, kinds := [], alts := [], laidByText := true, laidKinds := [.data, .data, .data, .data, .pinned], laidTests := true, laidLooks := .later }
def FloodtableTextsUptoCardSaid : Prop := Claim7.holds Tryd.pinned (.plain (OpenSpec.upto floodtableTextsSpec)) floodtableTextsUptoCard

/-- THE SECOND FORM's CARD OF 'hydrocascadelaw24.FloodtableBack'. -/
def floodtableBackUptoCard : Claim7 := { stood := { row := floodtableBackUptoRow, standIns := [], harness := (true, "3937ca1b52c62e205c1e10e3e2bda9a3a11ee05418c7664ceaa241be95be7432"), looks := false }, kinds := [], alts := [], laidByText := true, laidKinds := [.data, .data, .data, .data, .pinned], laidTests := true, laidLooks := .later }
def FloodtableBackUptoCardSaid : Prop := Claim7.holds Tryd.pinned (.plain (OpenSpec.upto floodtableBackSpec)) floodtableBackUptoCard

/-- THE SECOND FORM's CARD OF 'hydrocascadelaw24.FloodtableRises'. -/
def floodtableRisesUptoCard : Claim7 := { stood := { row := floodtableRisesUptoRow, standIns := [], harness := (true, "3937ca1b52c62e205c1e10e3e2bda9a3a11ee05418c7664ceaa241be95be7432"), looks := false }, kinds := [], alts := [], laidByText := true, laidKinds := [.data, .data, .data, .data, .pinned], laidTests := true, laidLooks := .later }
def FloodtableRisesUptoCardSaid : Prop := Claim7.holds Tryd.pinned (.plain (OpenSpec.upto floodtableRisesSpec)) floodtableRisesUptoCard

/-- THE SECOND FORM's CARD OF 'hydrocascadelaw24.FloodtableTells'. -/
def floodtableTellsUptoCard : Claim7 := { stood := { row := floodtableTellsUptoRow, standIns := [], harness := (true, "3937ca1b52c62e205c1e10e3e2bda9a3a11ee05418c7664ceaa241be95be7432"), looks := false }, kinds := [], alts := [], laidByText := true, laidKinds := [.data, .data, .data, .data, .pinned], laidTests := true, laidLooks := .later }
def FloodtableTellsUptoCardSaid : Prop := Claim7.holds Tryd.pinned (.plain (OpenSpec.upto floodtableTellsSpec)) floodtableTellsUptoCard

/-- THE SECOND FORM's CARD OF 'hydrocascadelaw24.FloodtableJoins'. -/
def floodtableJoinsUptoCard : Claim7 := { stood := { row := floodtableJoinsUptoRow, standIns := [], harness := (true, "3937ca1b52c62e205c1e10e3e2bda9a3a11ee05418c7664ceaa241be95be7432"), looks := false }, kinds := [], alts := [], laidByText := true, laidKinds := [.data, .data, .data, .data, .pinned], laidTests := true, laidLooks := .later }
def FloodtableJoinsUptoCardSaid : Prop := Claim7.holds Tryd.pinned (.plain (OpenSpec.upto floodtableJoinsSpec)) floodtableJoinsUptoCard
end Rows
end Go.Proofs.YtcfcmafmdpbjoaaDoor
