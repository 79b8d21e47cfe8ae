/-
  DERIVED. GIVEN WITH THE SEED: THE CARDS: each row of YtknidebojogodaaGreatDoorRows.lean that lists a variable, with what it lists TIED to the program's text (the seventh form; the later family's looks); each row that meets fmt, with fmt's text TOLD by the authors' own Lean function (tested against real Go, not proved from fmt's source: count such statements apart). THE CARD IS WHAT COUNTS. Prove the row's statement (the work); the ties are given (YtknidebojogodaaGreatDoorTie.lean); close each card by the builder's one call (the guide's Derived/Test/ToyasCard.lean, 'card_holds'). Laid BY PROGRAM, IN A SANDBOX (cutbox-door.mjs). By AI agents, Wed Nov 11 2026. No macro, syntax, notation, axiom, sorry.
-/
import Derived.Test.YtknidebojogodaaGreatDoorRows
import GoSem.ClaimSeven
namespace Go.Proofs.YtknidebojogodaaGreatDoor
namespace Rows

/-- THE TIED CARD OF 'hydrocascadelaw13.RulesPrint'. -/
def rulesPrintCard : Claim7 := { stood := { row := rulesPrintRow, standIns := [], harness := (true, "975289f57bc6a36a144556ad27abc8b180ac5fac2c9b1601fd327770087ffbd2"), looks := true }, kinds := [], alts := [], laidByText := true, laidKinds := [.data, .data, .data, .data, .sentinel, .sentinel, .data, .pinned], laidTests := true, laidLooks := .later }
def RulesPrintCardSaid : Prop := Claim7.holds Tryz.pinned (.plain (OpenSpec.ofChange rulesPrintSpec)) rulesPrintCard

/-- THE TIED CARD OF 'hydrocascadelaw13.RulesParse'. -/
def rulesParseCard : Claim7 := { stood := { row := rulesParseRow, standIns := [], harness := (true, "975289f57bc6a36a144556ad27abc8b180ac5fac2c9b1601fd327770087ffbd2"), looks := true }, kinds := [], alts := [], laidByText := true, laidKinds := [.data, .data, .data, .data, .sentinel, .sentinel, .data, .pinned], laidTests := true, laidLooks := .later }
def RulesParseCardSaid : Prop := Claim7.holds Tryz.pinned (.plain (OpenSpec.ofChange rulesParseSpec)) rulesParseCard

/-- THE TIED CARD OF 'hydrocascadelaw13.RulesLines'. -/
def rulesLinesCard : Claim7 := { stood := { row := rulesLinesRow, standIns := [], harness := (true, "975289f57bc6a36a144556ad27abc8b180ac5fac2c9b1601fd327770087ffbd2"), looks := true }, kinds := [], alts := [], laidByText := true, laidKinds := [.data, .data, .data, .data, .sentinel, .sentinel, .data, .pinned], laidTests := true, laidLooks := .later }
def RulesLinesCardSaid : Prop := Claim7.holds Tryz.pinned (.plain (OpenSpec.ofChange rulesLinesSpec)) rulesLinesCard

/-- THE SECOND FORM's CARD OF 'hydrocascadelaw13.RulesPrint'. -/
def rulesPrintUptoCard : Claim7 := { stood := { row := rulesPrintUptoRow, standIns := [], harness := (true, "975289f57bc6a36a144556ad27abc8b180ac5fac2c9b1601fd327770087ffbd2"), looks := true }, kinds := [], alts := [], laidByText := true, laidKinds := [.data, .data, .data, .data, .sentinel, .sentinel, .data, .pinned], laidTests := true, laidLooks := .later }
def RulesPrintUptoCardSaid : Prop := Claim7.holds Tryz.pinned (.plain (OpenSpec.upto rulesPrintSpec)) rulesPrintUptoCard

/-- THE SECOND FORM's CARD OF 'hydrocascadelaw13.RulesParse'. -/
def rulesParseUptoCard : Claim7 := { stood := { row := rulesParseUptoRow, standIns := [], harness := (true, "975289f57bc6a36a144556ad27abc8b180ac5fac2c9b1601fd327770087ffbd2"), looks := true }, kinds := [], alts := [], laidByText := true, laidKinds := [.data, .data, .data, .data, .sentinel, .sentinel, .data, .pinned], laidTests := true, laidLooks := .later }
def RulesParseUptoCardSaid : Prop := Claim7.holds Tryz.pinned (.plain (OpenSpec.upto rulesParseSpec)) rulesParseUptoCard

/-- THE SECOND FORM's CARD OF 'hydrocascadelaw13.RulesLines'. -/
def rulesLinesUptoCard : Claim7 := { stood := { row := rulesLinesUptoRow, standIns := [], harness := (true, "975289f57bc6a36a144556ad27abc8b180ac5fac2c9b1601fd327770087ffbd2"), looks := true }, kinds := [], alts := [], laidByText := true, laidKinds := [.data, .data, .data, .data, .sentinel, .sentinel, .data, .pinned], laidTests := true, laidLooks := .later }
def RulesLinesUptoCardSaid : Prop := Claim7.holds Tryz.pinned (.plain (OpenSpec.upto rulesLinesSpec)) rulesLinesUptoCard
end Rows
end Go.Proofs.YtknidebojogodaaGreatDoor
