/-
  DERIVED. GIVEN WITH THE SEED: THE CARDS: each row of YticipgjbgcdccaaDoorRows.lean that lists a variable, with what it lists TIED to the program's text (the seventh form; the later family's looks); each row that meets fmt, with fmt's text TOLD by the authors' own Lean function (tested against real Go, not proved from fmt's source: count such statements apart). THE CARD IS WHAT COUNTS. Prove the row's statement (the work); the ties are given (YticipgjbgcdccaaDoorTie.lean); close each card by the builder's one call (the guide's Derived/Test/ToyasCard.lean, 'card_holds'). Laid BY PROGRAM, IN A SANDBOX (cutbox-door.mjs). By AI agents, Wed Nov 11 2026. No macro, syntax, notation, axiom, sorry.
-/
import Derived.Test.YticipgjbgcdccaaDoorRows
import GoSem.ClaimSeven
namespace Go.Proofs.YticipgjbgcdccaaDoor
namespace Rows

/-- THE TIED CARD OF 'graftlaw2.ExprTexts'. -/
def exprTextsCard : Claim7 := { stood := { row := exprTextsRow, standIns := [], harness := (true, "ff01ccba15d25dd0e238923213c7e16af5c8880d8084b1916b336e3c37e050fc"), looks := true }, kinds := [], alts := [], laidByText := true, laidKinds := [.data, .data, .data], laidTests := true, laidLooks := .later }
def ExprTextsCardSaid : Prop := Claim7.holds Tryd.pinned (.plain (OpenSpec.ofChange exprTextsSpec)) exprTextsCard

/-- THE TIED CARD OF 'graftlaw2.ExprPrints'. -/
def exprPrintsCard : Claim7 := { stood := { row := exprPrintsRow, standIns := [], harness := (true, "ff01ccba15d25dd0e238923213c7e16af5c8880d8084b1916b336e3c37e050fc"), looks := true }, kinds := [], alts := [], laidByText := true, laidKinds := [.data, .data, .data], laidTests := true, laidLooks := .later }
def ExprPrintsCardSaid : Prop := Claim7.holds Tryd.pinned (.plain (OpenSpec.ofChange exprPrintsSpec)) exprPrintsCard

/-- THE TIED CARD OF 'graftlaw2.ExprBack'. -/
def exprBackCard : Claim7 := { stood := { row := exprBackRow, standIns := [], harness := (true, "ff01ccba15d25dd0e238923213c7e16af5c8880d8084b1916b336e3c37e050fc"), looks := true }, kinds := [], alts := [], laidByText := true, laidKinds := [.data, .data, .data], laidTests := true, laidLooks := .later }
def ExprBackCardSaid : Prop := Claim7.holds Tryd.pinned (.plain (OpenSpec.ofChange exprBackSpec)) exprBackCard

/-- THE TIED CARD OF 'graftlaw2.ExprSums'. -/
def exprSumsCard : Claim7 := { stood := { row := exprSumsRow, standIns := [], harness := (true, "ff01ccba15d25dd0e238923213c7e16af5c8880d8084b1916b336e3c37e050fc"), looks := true }, kinds := [], alts := [], laidByText := true, laidKinds := [.data, .data, .data], laidTests := true, laidLooks := .later }
def ExprSumsCardSaid : Prop := Claim7.holds Tryd.pinned (.plain (OpenSpec.ofChange exprSumsSpec)) exprSumsCard

/-- THE TIED CARD OF 'graftlaw2.ExprMatches'. -/
def exprMatchesCard : Claim7 := { stood := { row := exprMatchesRow, standIns := [], harness := (true, "ff01ccba15d25dd0e238923213c7e16af5c8880d8084b1916b336e3c37e050fc"), looks := true }, kinds := [], alts := [], laidByText := true, laidKinds := [.data, .data, .data], laidTests := true, laidLooks := .later }
def ExprMatchesCardSaid : Prop := Claim7.holds Tryd.pinned (.plain (OpenSpec.ofChange exprMatchesSpec)) exprMatchesCard

/-- THE TIED CARD OF 'graftlaw2.ExprChecks'. -/
def exprChecksCard : Claim7 := { stood := { row := exprChecksRow, standIns := [], harness := (true, "ff01ccba15d25dd0e238923213c7e16af5c8880d8084b1916b336e3c37e050fc"), looks := true }, kinds := [], alts := [], laidByText := true, laidKinds := [.data, .data, .data], laidTests := true, laidLooks := .later }
def ExprChecksCardSaid : Prop := Claim7.holds Tryd.pinned (.plain (OpenSpec.ofChange exprChecksSpec)) exprChecksCard

/-- THE TIED CARD OF 'graftlaw2.ExprShorts'. -/
def exprShortsCard : Claim7 := { stood := { row := exprShortsRow, standIns := [], harness := (true, "ff01ccba15d25dd0e238923213c7e16af5c8880d8084b1916b336e3c37e050fc"), looks := true }, kinds := [], alts := [], laidByText := true, laidKinds := [.data, .data, .data], laidTests := true, laidLooks := .later }
def ExprShortsCardSaid : Prop := Claim7.holds Tryd.pinned (.plain (OpenSpec.ofChange exprShortsSpec)) exprShortsCard

/-- THE TIED CARD OF 'graftlaw2.ExprFronts'. -/
def exprFrontsCard : Claim7 := { stood := { row := exprFrontsRow, standIns := [], harness := (true, "ff01ccba15d25dd0e238923213c7e16af5c8880d8084b1916b336e3c37e050fc"), looks := true }, kinds := [], alts := [], laidByText := true, laidKinds := [.data, .data, .data], laidTests := true, laidLooks := .later }
def ExprFrontsCardSaid : Prop := Claim7.holds Tryd.pinned (.plain (OpenSpec.ofChange exprFrontsSpec)) exprFrontsCard

/-- THE TIED CARD OF 'graftlaw2.ExprOwn'. -/
def exprOwnCard : Claim7 := { stood := { row := exprOwnRow, standIns := [], harness := (true, "ff01ccba15d25dd0e238923213c7e16af5c8880d8084b1916b336e3c37e050fc"), looks := true }, kinds := [], alts := [], laidByText := true, laidKinds := [.data, .data, .data], laidTests := true, laidLooks := .later }
def ExprOwnCardSaid : Prop := Claim7.holds Tryd.pinned (.plain (OpenSpec.ofChange exprOwnSpec)) exprOwnCard

/-- THE SECOND FORM's CARD OF 'graftlaw2.ExprTexts'. -/
def exprTextsUptoCard : Claim7 := { stood := { row := exprTextsUptoRow, standIns := [], harness := (true, "ff01ccba15d25dd0e238923213c7e16af5c8880d8084b1916b336e3c37e050fc"), looks := true }, kinds := [], alts := [], laidByText := true, laidKinds := [.data, .data, .data], laidTests := true, laidLooks := .later }
def ExprTextsUptoCardSaid : Prop := Claim7.holds Tryd.pinned (.plain (OpenSpec.upto exprTextsSpec)) exprTextsUptoCard

/-- THE SECOND FORM's CARD OF 'graftlaw2.ExprPrints'. -/
def exprPrintsUptoCard : Claim7 := { stood := { row := exprPrintsUptoRow, standIns := [], harness := (true, "ff01ccba15d25dd0e238923213c7e16af5c8880d8084b1916b336e3c37e050fc"), looks := true }, kinds := [], alts := [], laidByText := true, laidKinds := [.data, .data, .data], laidTests := true, laidLooks := .later }
def ExprPrintsUptoCardSaid : Prop := Claim7.holds Tryd.pinned (.plain (OpenSpec.upto exprPrintsSpec)) exprPrintsUptoCard

/-- THE SECOND FORM's CARD OF 'graftlaw2.ExprBack'. -/
def exprBackUptoCard : Claim7 := { stood := { row := exprBackUptoRow, standIns := [], harness := (true, "ff01ccba15d25dd0e238923213c7e16af5c8880d8084b1916b336e3c37e050fc"), looks := true }, kinds := [], alts := [], laidByText := true, laidKinds := [.data, .data, .data], laidTests := true, laidLooks := .later }
def ExprBackUptoCardSaid : Prop := Claim7.holds Tryd.pinned (.plain (OpenSpec.upto exprBackSpec)) exprBackUptoCard

/-- THE SECOND FORM's CARD OF 'graftlaw2.ExprSums'. -/
def exprSumsUptoCard : Claim7 := { stood := { row := exprSumsUptoRow, standIns := [], harness := (true, "ff01ccba15d25dd0e238923213c7e16af5c8880d8084b1916b336e3c37e050fc"), looks := true }, kinds := [], alts := [], laidByText := true, laidKinds := [.data, .data, .data], laidTests := true, laidLooks := .later }
def ExprSumsUptoCardSaid : Prop := Claim7.holds Tryd.pinned (.plain (OpenSpec.upto exprSumsSpec)) exprSumsUptoCard

/-- THE SECOND FORM's CARD OF 'graftlaw2.ExprMatches'. -/
def exprMatchesUptoCard : Claim7 := { stood := { row := exprMatchesUptoRow, standIns := [], harness := (true, "ff01ccba15d25dd0e238923213c7e16af5c8880d8084b1916b336e3c37e050fc"), looks := true }, kinds := [], alts := [], laidByText := true, laidKinds := [.data, .data, .data], laidTests := true, laidLooks := .later }
def ExprMatchesUptoCardSaid : Prop := Claim7.holds Tryd.pinned (.plain (OpenSpec.upto exprMatchesSpec)) exprMatchesUptoCard

/-- THE SECOND FORM's CARD OF 'graftlaw2.ExprChecks'. -/
def exprChecksUptoCard : Claim7 := { stood := { row := exprChecksUptoRow, standIns := [], harness := (true, "ff01ccba15d25dd0e238923213c7e16af5c8880d8084b1916b336e3c37e050fc"), looks := true }, kinds := [], alts := [], laidByText := true, laidKinds := [.data, .data, .data], laidTests := true, laidLooks := .later }
def ExprChecksUptoCardSaid : Prop := Claim7.holds Tryd.pinned (.plain (OpenSpec.upto exprChecksSpec)) exprChecksUptoCard

/-- THE SECOND FORM's CARD OF 'graftlaw2.ExprShorts'. -/
def exprShortsUptoCard : Claim7 := { stood := { row := exprShortsUptoRow, standIns := [], harness := (true, "ff01ccba15d25dd0e238923213c7e16af5c8880d8084b1916b336e3c37e050fc"), looks := true }, kinds := [], alts := [], laidByText := true, laidKinds := [.data, .data, .data], laidTests := true, laidLooks := .later }
def ExprShortsUptoCardSaid : Prop := Claim7.holds Tryd.pinned (.plain (OpenSpec.upto exprShortsSpec)) exprShortsUptoCard

/-- THE SECOND FORM's CARD OF 'graftlaw2.ExprFronts'. -/
def exprFrontsUptoCard : Claim7 := { stood := { row := exprFrontsUptoRow, standIns := [], harness := (true, "ff01ccba15d25dd0e238923213c7e16af5c8880d8084b1916b336e3c37e050fc"), looks := true }, kinds := [], alts := [], laidByText := true, laidKinds := [.data, .data, .data], laidTests := true, laidLooks := .later }
def ExprFrontsUptoCardSaid : Prop := Claim7.holds Tryd.pinned (.plain (OpenSpec.upto exprFrontsSpec)) exprFrontsUptoCard

/-- THE SECOND FORM's CARD OF 'graftlaw2.ExprOwn'. -/
def exprOwnUptoCard : Claim7 := { stood := { row := exprOwnUptoRow, standIns := [], harness := (true, "ff01ccba15d25dd0e238923213c7e16af5c8880d8084b1916b336e3c37e050fc"), looks := true }, kinds := [], alts := [], laidByText := true, laidKinds := [.data, .data, .data], laidTests := true, laidLooks := .later }
def ExprOwnUptoCardSaid : Prop := Claim7.holds Tryd.pinned (.plain (OpenSpec.upto exprOwnSpec)) exprOwnUptoCard
end Rows
end Go.Proofs.YticipgjbgcdccaaDoor
