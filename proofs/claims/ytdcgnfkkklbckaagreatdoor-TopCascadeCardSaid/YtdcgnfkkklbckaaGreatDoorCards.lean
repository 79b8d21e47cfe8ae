/-
  DERIVED. GIVEN WITH THE SEED: THE CARDS: each row of YtdcgnfkkklbckaaGreatDoorRows.lean that lists a variable, with what it lists TIED to the program's text (the seventh form; the later family's looks); each row that meets fmt, with fmt's text TOLD by the authors' own Lean function (tested against real Go, not proved from fmt's source: count such statements apart). THE CARD IS WHAT COUNTS. Prove the row's statement (the work); the ties are given (YtdcgnfkkklbckaaGreatDoorTie.lean); close each card by the builder's one call (the guide's Derived/Test/ToyasCard.lean, 'card_holds'). Laid BY PROGRAM, IN A SANDBOX (cutbox-door.mjs). By AI agents, Wed Nov 11 2026. No macro, syntax, notation, axiom, sorry.
-/
import Derived.Test.YtdcgnfkkklbckaaGreatDoorRows
import GoSem.ClaimSeven
namespace Go.Proofs.YtdcgnfkkklbckaaGreatDoor
namespace Rows

/-- THE TIED CARD OF 'hydrocascadetop.TopCascade'. -/
def topCascadeCard : Claim7 := { stood := { row := topCascadeRow, standIns := [], harness := (true, "e7780b5818bdd3a97b419b92d3de36dc521f254ed0e3da3c1ca9274bcd9524f2"), looks := true }, kinds := [], alts := [], laidByText := true, laidKinds := [.data, .data, .data, .data, .data, .sentinel, .sentinel, .data, .pinned], laidTests := true, laidLooks := .later }
def TopCascadeCardSaid : Prop := Claim7.holds Tryz.pinned (.plain (OpenSpec.ofChange topCascadeSpec)) topCascadeCard

/-- THE TIED CARD OF 'hydrocascadetop.TopRanked'. -/
def topRankedCard : Claim7 := { stood := { row := topRankedRow, standIns := [], harness := (true, "e7780b5818bdd3a97b419b92d3de36dc521f254ed0e3da3c1ca9274bcd9524f2"), looks := true }, kinds := [], alts := [], laidByText := true, laidKinds := [.data, .data, .data, .data, .data, .sentinel, .sentinel, .data, .pinned], laidTests := true, laidLooks := .later }
def TopRankedCardSaid : Prop := Claim7.holds Tryz.pinned (.plain (OpenSpec.ofChange topRankedSpec)) topRankedCard

/-- THE TIED CARD OF 'hydrocascadetop.TopMeasured'. -/
def topMeasuredCard : Claim7 := { stood := { row := topMeasuredRow, standIns := [], harness := (true, "e7780b5818bdd3a97b419b92d3de36dc521f254ed0e3da3c1ca9274bcd9524f2"), looks := true }, kinds := [], alts := [], laidByText := true, laidKinds := [.data, .data, .data, .data, .data, .sentinel, .sentinel, .data, .data, .pinned], laidTests := true, laidLooks := .later }
def TopMeasuredCardSaid : Prop := Claim7.holds Tryz.pinned (.plain (OpenSpec.ofChange topMeasuredSpec)) topMeasuredCard

/-- THE TIED CARD OF 'hydrocascadetop.TopShared'. -/
def topSharedCard : Claim7 := { stood := { row := topSharedRow, standIns := [], harness := (true, "e7780b5818bdd3a97b419b92d3de36dc521f254ed0e3da3c1ca9274bcd9524f2"), looks := true }, kinds := [], alts := [], laidByText := true, laidKinds := [.data, .data, .data, .data, .data, .sentinel, .sentinel, .data, .pinned], laidTests := true, laidLooks := .later }
def TopSharedCardSaid : Prop := Claim7.holds Tryz.pinned (.plain (OpenSpec.ofChange topSharedSpec)) topSharedCard

/-- THE SECOND FORM's CARD OF 'hydrocascadetop.TopCascade'. -/
def topCascadeUptoCard : Claim7 := { stood := { row := topCascadeUptoRow, standIns := [], harness := (true, "e7780b5818bdd3a97b419b92d3de36dc521f254ed0e3da3c1ca9274bcd9524f2"), looks := true }, kinds := [], alts := [], laidByText := true, laidKinds := [.data, .data, .data, .data, .data, .sentinel, .sentinel, .data, .pinned], laidTests := true, laidLooks := .later }
def TopCascadeUptoCardSaid : Prop := Claim7.holds Tryz.pinned (.plain (OpenSpec.upto topCascadeSpec)) topCascadeUptoCard

/-- THE SECOND FORM's CARD OF 'hydrocascadetop.TopRanked'. -/
def topRankedUptoCard : Claim7 := { stood := { row := topRankedUptoRow, standIns := [], harness := (true, "e7780b5818bdd3a97b419b92d3de36dc521f254ed0e3da3c1ca9274bcd9524f2"), looks := true }, kinds := [], alts := [], laidByText := true, laidKinds := [.data, .data, .data, .data, .data, .sentinel, .sentinel, .data, .pinned], laidTests := true, laidLooks := .later }
def TopRankedUptoCardSaid : Prop := Claim7.holds Tryz.pinned (.plain (OpenSpec.upto topRankedSpec)) topRankedUptoCard

/-- THE SECOND FORM's CARD OF 'hydrocascadetop.TopMeasured'. -/
def topMeasuredUptoCard : Claim7 := { stood := { row := topMeasuredUptoRow, standIns := [], harness := (true, "e7780b5818bdd3a97b419b92d3de36dc521f254ed0e3da3c1ca9274bcd9524f2"), looks := true }, kinds := [], alts := [], laidByText := true, laidKinds := [.data, .data, .data, .data, .data, .sentinel, .sentinel, .data, .data, .pinned], laidTests := true, laidLooks := .later }
def TopMeasuredUptoCardSaid : Prop := Claim7.holds Tryz.pinned (.plain (OpenSpec.upto topMeasuredSpec)) topMeasuredUptoCard

/-- THE SECOND FORM's CARD OF 'hydrocascadetop.TopShared'. -/
def topSharedUptoCard : Claim7 := { stood := { row := topSharedUptoRow, standIns := [], harness := (true, "e7780b5818bdd3a97b419b92d3de36dc521f254ed0e3da3c1ca9274bcd9524f2"), looks := true }, kinds := [], alts := [], laidByText := true, laidKinds := [.data, .data, .data, .data, .data, .sentinel, .sentinel, .data, .pinned], laidTests := true, laidLooks := .later }
def TopSharedUptoCardSaid : Prop := Claim7.holds Tryz.pinned (.plain (OpenSpec.upto topSharedSpec)) topSharedUptoCard
end Rows
end Go.Proofs.YtdcgnfkkklbckaaGreatDoor
