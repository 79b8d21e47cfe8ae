/-
  DERIVED. GIVEN WITH THE SEED: THE CARDS: each row of YtknidebojogodaaDoorRows.lean that lists a variable, with what it lists TIED to the program's text (the seventh form; the later family's looks); each row that meets fmt, with fmt's text TOLD by the authors' own Lean function (tested against real Go, not proved from fmt's source: count such statements apart). THE CARD IS WHAT COUNTS. Prove the row's statement (the work); the ties are given (YtknidebojogodaaDoorTie.lean); close each card by the builder's one call (the guide's Derived/Test/ToyasCard.lean, 'card_holds'). Laid BY PROGRAM, IN A SANDBOX (cutbox-door.mjs). By AI agents, Wed Nov 11 2026. No macro, syntax, notation, axiom, sorry.
-/
import Derived.Test.YtknidebojogodaaDoorRows
import GoSem.ClaimSeven
namespace Go.Proofs.YtknidebojogodaaDoor
namespace Rows

/-- THE TIED CARD OF 'hydrocascadelaw13.RulesBack'. -/
def rulesBackCard : Claim7 := { stood := { row := rulesBackRow, standIns := [], harness := (true, "afa3431485b8cd562c15ab3bfd37e2045caa7079559380211a78bb9a34f43fe0"), looks := true }, kinds := [], alts := [], laidByText := true, laidKinds := [.data, .data, .data, .data, .sentinel, .sentinel, .data, .pinned], laidTests := true, laidLooks := .later }
def RulesBackCardSaid : Prop := Claim7.holds Tryd.pinned (.plain (OpenSpec.ofChange rulesBackSpec)) rulesBackCard

/-- THE TIED CARD OF 'hydrocascadelaw13.RulesWords'. -/
def rulesWordsCard : Claim7 := { stood := { row := rulesWordsRow, standIns := [], harness := (true, "afa3431485b8cd562c15ab3bfd37e2045caa7079559380211a78bb9a34f43fe0"), looks := true }, kinds := [], alts := [], laidByText := true, laidKinds := [.data, .data, .data, .data, .sentinel, .sentinel, .data, .pinned], laidTests := true, laidLooks := .later }
def RulesWordsCardSaid : Prop := Claim7.holds Tryd.pinned (.plain (OpenSpec.ofChange rulesWordsSpec)) rulesWordsCard

/-- THE SECOND FORM's CARD OF 'hydrocascadelaw13.RulesBack'. -/
def rulesBackUptoCard : Claim7 := { stood := { row := rulesBackUptoRow, standIns := [], harness := (true, "afa3431485b8cd562c15ab3bfd37e2045caa7079559380211a78bb9a34f43fe0"), looks := true }, kinds := [], alts := [], laidByText := true, laidKinds := [.data, .data, .data, .data, .sentinel, .sentinel, .data, .pinned], laidTests := true, laidLooks := .later }
def RulesBackUptoCardSaid : Prop := Claim7.holds Tryd.pinned (.plain (OpenSpec.upto rulesBackSpec)) rulesBackUptoCard

/-- THE SECOND FORM's CARD OF 'hydrocascadelaw13.RulesWords'. -/
def rulesWordsUptoCard : Claim7 := { stood := { row := rulesWordsUptoRow, standIns := [], harness := (true, "afa3431485b8cd562c15ab3bfd37e2045caa7079559380211a78bb9a34f43fe0"), looks := true }, kinds := [], alts := [], laidByText := true, laidKinds := [.data, .data, .data, .data, .sentinel, .sentinel, .data, .pinned], laidTests := true, laidLooks := .later }
def RulesWordsUptoCardSaid : Prop := Claim7.holds Tryd.pinned (.plain (OpenSpec.upto rulesWordsSpec)) rulesWordsUptoCard
end Rows
end Go.Proofs.YtknidebojogodaaDoor
