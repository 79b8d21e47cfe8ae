/-
  DERIVED. GIVEN WITH THE SEED: THE CARDS: each row of YtgbknfbcjddnhaaDoorRows.lean that lists a variable, with what it lists TIED to the program's text (the seventh form; the later family's looks); each row that meets fmt, with fmt's text TOLD by the authors' own Lean function (tested against real Go, not proved from fmt's source: count such statements apart). THE CARD IS WHAT COUNTS. Prove the row's statement (the work); the ties are given (YtgbknfbcjddnhaaDoorTie.lean); close each card by the builder's one call (the guide's Derived/Test/ToyasCard.lean, 'card_holds'). Laid BY PROGRAM, IN A SANDBOX (cutbox-door.mjs). By AI agents, Wed Nov 11 2026. No macro, syntax, notation, axiom, sorry.
-/
import Derived.Test.YtgbknfbcjddnhaaDoorRows
import GoSem.ClaimSeven
namespace Go.Proofs.YtgbknfbcjddnhaaDoor
namespace Rows

/-- THE TIED CARD OF 'hydrocascadelaw06.GaugeSeries'. -/
def gaugeSeriesCard : Claim7 := { stood := { row := gaugeSeriesRow, standIns := [], harness := (true, "977ada0537682b1f29364eccd33263bf23faa7d6eb46f53485f123fa495b9f10"), looks := false }, kinds := [], alts := [], laidByText := true, laidKinds := [.data, .data, .pinned], laidTests := true, laidLooks := .later }
def GaugeSeriesCardSaid : Prop := Claim7.holds Tryd.pinned (.plain (OpenSpec.ofChange gaugeSeriesSpec)) gaugeSeriesCard

/-- THE TIED CARD OF 'hydrocascadelaw06.GaugeLast'. -/
def gaugeLastCard : Claim7 := { stood := { row := gaugeLastRow, standIns := [], harness := (true, "977ada0537682b1f29364eccd33263bf23faa7d6eb46f53485f123fa495b9f10"), looks := false }, kinds := [], alts := [], laidByText := true, laidKinds := [.data, .data, .pinned], laidTests := true, laidLooks := .later }
def GaugeLastCardSaid : Prop := Claim7.holds Tryd.pinned (.plain (OpenSpec.ofChange gaugeLastSpec)) gaugeLastCard

/-- THE TIED CARD OF 'hydrocascadelaw06.GaugeNotices'. -/
def gaugeNoticesCard : Claim7 := { stood := { row := gaugeNoticesRow, standIns := [], harness := (true, "977ada0537682b1f29364eccd33263bf23faa7d6eb46f53485f123fa495b9f10"), looks := false }, kinds := [], alts := [], laidByText := true, laidKinds := [.data, .data, .pinned], laidTests := true, laidLooks := .later }
def GaugeNoticesCardSaid : Prop := Claim7.holds Tryd.pinned (.plain (OpenSpec.ofChange gaugeNoticesSpec)) gaugeNoticesCard

/-- THE TIED CARD OF 'hydrocascadelaw06.GaugeReads'. -/
def gaugeReadsCard : Claim7 := { stood := { row := gaugeReadsRow, standIns := [], harness := (true, "977ada0537682b1f29364eccd33263bf23faa7d6eb46f53485f123fa495b9f10"), looks := false }, kinds := [], alts := [], laidByText := true, laidKinds := [.data, .data, .data, .data, .data, .pinned], laidTests := true, laidLooks := .later }
def GaugeReadsCardSaid : Prop := Claim7.holds Tryd.pinned (.plain (OpenSpec.ofChange gaugeReadsSpec)) gaugeReadsCard

/-- THE TIED CARD OF 'hydrocascadelaw06.GaugeWrites'. -/
def gaugeWritesCard : Claim7 := { stood := { row := gaugeWritesRow, standIns := [], harness := (true, "977ada0537682b1f29364eccd33263bf23faa7d6eb46f53485f123fa495b9f10"), looks := false }, kinds := [], alts := [], laidByText := true, laidKinds := [.data, .data, .data, .data, .data, .pinned], laidTests := true, laidLooks := .later }
def GaugeWritesCardSaid : Prop := Claim7.holds Tryd.pinned (.plain (OpenSpec.ofChange gaugeWritesSpec)) gaugeWritesCard

/-- THE TIED CARD OF 'hydrocascadelaw06.GaugeBack'. -/
def gaugeBackCard : Claim7 := { stood := { row := gaugeBackRow, standIns := [], harness := (true, "977ada0537682b1f29364eccd33263bf23faa7d6eb46f53485f123fa495b9f10"), looks := false }, kinds := [], alts := [], laidByText := true, laidKinds := [.data, .data, .data, .data, .data, .pinned], laidTests := true, laidLooks := .later }
def GaugeBackCardSaid : Prop := Claim7.holds Tryd.pinned (.plain (OpenSpec.ofChange gaugeBackSpec)) gaugeBackCard

/-- THE SECOND FORM's CARD OF 'hydrocascadelaw06.GaugeSeries'. -/
def gaugeSeriesUptoCard : Claim7 := { stood := { row := gaugeSeriesUptoRow, standIns := [], harness := (true, "977ada0537682b1f29364eccd33263bf23faa7d6eb46f53485f123fa495b9f10"), looks := false }, kinds := [], alts := [], laidByText := true, laidKinds := [.data, .data, .pinned], laidTests := true, laidLooks := .later }
def GaugeSeriesUptoCardSaid : Prop := Claim7.holds Tryd.pinned (.plain (OpenSpec.upto gaugeSeriesSpec)) gaugeSeriesUptoCard

/-- THE SECOND FORM's CARD OF 'hydrocascadelaw06.GaugeLast'. -/
def gaugeLastUptoCard : Claim7 := { stood := { row := gaugeLastUptoRow, standIns := [], harness := (true, "977ada0537682b1f29364eccd33263bf23faa7d6eb46f53485f123fa495b9f10"), looks := false }, kinds := [], alts := [], laidByText := true, laidKinds := [.data, .data, .pinned], laidTests := true, laidLooks := .later }
def GaugeLastUptoCardSaid : Prop := Claim7.holds Tryd.pinned (.plain (OpenSpec.upto gaugeLastSpec)) gaugeLastUptoCard

/-- THE SECOND FORM's CARD OF 'hydrocascadelaw06.GaugeNotices'. -/
def gaugeNoticesUptoCard : Claim7 := { stood := { row := gaugeNoticesUptoRow, standIns := [], harness := (true, "977ada0537682b1f29364eccd33263bf23faa7d6eb46f53485f123fa495b9f10"), looks := false }, kinds := [], alts := [], laidByText := true, laidKinds := [.data, .data, .pinned], laidTests := true, laidLooks := .later }
def GaugeNoticesUptoCardSaid : Prop := Claim7.holds Tryd.pinned (.plain (OpenSpec.upto gaugeNoticesSpec)) gaugeNoticesUptoCard

/-- THE SECOND FORM's CARD OF 'hydrocascadelaw06.GaugeReads'. -/
def gaugeReadsUptoCard : Claim7 := { stood := { row := gaugeReadsUptoRow, standIns := [], harness := (true, "977ada0537682b1f29364eccd33263bf23faa7d6eb46f53485f123fa495b9f10"), looks := false }, kinds := [], alts := [], laidByText := true, laidKinds := [.data, .data, .data, .data, .data, .pinned], laidTests := true, laidLooks := .later }
def GaugeReadsUptoCardSaid : Prop := Claim7.holds Tryd.pinned (.plain (OpenSpec.upto gaugeReadsSpec)) gaugeReadsUptoCard

/-- THE SECOND FORM's CARD OF 'hydrocascadelaw06.GaugeWrites'. -/
def gaugeWritesUptoCard : Claim7 := { stood := { row := gaugeWritesUptoRow, standIns := [], harness := (true, "977ada0537682b1f29364eccd33263bf23faa7d6eb46f53485f123fa495b9f10"), looks := false }, kinds := [], alts := [], laidByText := true, laidKinds := [.data, .data, .data, .data, .data, .pinned], laidTests := true, laidLooks := .later }
def GaugeWritesUptoCardSaid : Prop := Claim7.holds Tryd.pinned (.plain (OpenSpec.upto gaugeWritesSpec)) gaugeWritesUptoCard

/-- THE SECOND FORM's CARD OF 'hydrocascadelaw06.GaugeBack'. -/
def gaugeBackUptoCard : Claim7 := { stood := { row := gaugeBackUptoRow, standIns := [], harness := (true, "977ada0537682b1f29364eccd33263bf23faa7d6eb46f53485f123fa495b9f10"), looks := false }, kinds := [], alts := [], laidByText := true, laidKinds := [.data, .data, .data, .data, .data, .pinned], laidTests := true, laidLooks := .later }
def GaugeBackUptoCardSaid : Prop := Claim7.holds Tryd.pinned (.plain (OpenSpec.upto gaugeBackSpec)) gaugeBackUptoCard
end Rows
end Go.Proofs.YtgbknfbcjddnhaaDoor
