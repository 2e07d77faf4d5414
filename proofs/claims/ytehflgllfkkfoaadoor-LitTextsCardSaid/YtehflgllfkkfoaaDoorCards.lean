/-
  DERIVED. GIVEN WITH THE SEED: THE CARDS: each row of YtehflgllfkkfoaaDoorRows.lean that lists a variable, with what it lists TIED to the program's text (the seventh form; the later family's looks); each row that meets fmt, with fmt's text TOLD by the authors' own Lean function (tested against real Go, not proved from fmt's source: count such statements apart). THE CARD IS WHAT COUNTS. Prove the row's statement (the work); the ties are given (YtehflgllfkkfoaaDoorTie.lean); close each card by the builder's one call (the guide's Derived/Test/ToyasCard.lean, 'card_holds'). Laid BY PROGRAM, IN A SANDBOX (cutbox-door.mjs). By AI agents, Wed Nov 11 2026. No macro, syntax, notation, axiom, sorry.
-/
import Derived.Test.YtehflgllfkkfoaaDoorRows
import GoSem.ClaimSeven
namespace Go.Proofs.YtehflgllfkkfoaaDoor
namespace Rows

/-- THE TIED CARD OF 'demoticlaw02.TokenJoins'. -/
def tokenJoinsCard : Claim7 := { stood := { row := tokenJoinsRow, standIns := [], harness := (true, "7d936438a6f81d25a999a20d2e6f4763a113cb1520d077f30a42f65fc0e99cce"), looks := true }, kinds := [], alts := [], laidByText := true, laidKinds := [.data, .pinned], laidTests := true, laidLooks := .later }
def TokenJoinsCardSaid : Prop := Claim7.holds Tryd.pinned (.plain (OpenSpec.ofChange tokenJoinsSpec)) tokenJoinsCard

/-- THE TIED CARD OF 'demoticlaw02.TokenLines'. -/
def tokenLinesCard : Claim7 := { stood := { row := tokenLinesRow, standIns := [], harness := (true, "7d936438a6f81d25a999a20d2e6f4763a113cb1520d077f30a42f65fc0e99cce"), looks := true }, kinds := [], alts := [], laidByText := true, laidKinds := [.data, .pinned], laidTests := true, laidLooks := .later }
def TokenLinesCardSaid : Prop := Claim7.holds Tryd.pinned (.plain (OpenSpec.ofChange tokenLinesSpec)) tokenLinesCard

/-- THE TIED CARD OF 'demoticlaw02.TokenScans'. -/
def tokenScansCard : Claim7 := { stood := { row := tokenScansRow, standIns := [], harness := (true, "7d936438a6f81d25a999a20d2e6f4763a113cb1520d077f30a42f65fc0e99cce"), looks := true }, kinds := [], alts := [], laidByText := true, laidKinds := [.data, .pinned], laidTests := true, laidLooks := .later }
def TokenScansCardSaid : Prop := Claim7.holds Tryd.pinned (.plain (OpenSpec.ofChange tokenScansSpec)) tokenScansCard

/-- THE TIED CARD OF 'demoticlaw02.TokenStands'. -/
def tokenStandsCard : Claim7 := { stood := { row := tokenStandsRow, standIns := [], harness := (true, "7d936438a6f81d25a999a20d2e6f4763a113cb1520d077f30a42f65fc0e99cce"), looks := true }, kinds := [], alts := [], laidByText := true, laidKinds := [.data, .pinned], laidTests := true, laidLooks := .later }
def TokenStandsCardSaid : Prop := Claim7.holds Tryd.pinned (.plain (OpenSpec.ofChange tokenStandsSpec)) tokenStandsCard

/-- THE TIED CARD OF 'demoticlaw02.TokenLong'. -/
def tokenLongCard : Claim7 := { stood := { row := tokenLongRow, standIns := [], harness := (true, "7d936438a6f81d25a999a20d2e6f4763a113cb1520d077f30a42f65fc0e99cce"), looks := true }, kinds := [], alts := [], laidByText := true, laidKinds := [.data, .pinned], laidTests := true, laidLooks := .later }
def TokenLongCardSaid : Prop := Claim7.holds Tryd.pinned (.plain (OpenSpec.ofChange tokenLongSpec)) tokenLongCard

/-- THE TIED CARD OF 'demoticlaw02.TokenNames'. -/
def tokenNamesCard : Claim7 := { stood := { row := tokenNamesRow, standIns := [], harness := (true, "7d936438a6f81d25a999a20d2e6f4763a113cb1520d077f30a42f65fc0e99cce"), looks := true }, kinds := [], alts := [], laidByText := true, laidKinds := [.data, .pinned], laidTests := true, laidLooks := .later }
def TokenNamesCardSaid : Prop := Claim7.holds Tryd.pinned (.plain (OpenSpec.ofChange tokenNamesSpec)) tokenNamesCard

/-- THE TIED CARD OF 'demoticlaw02.TokenKinds'. -/
def tokenKindsCard : Claim7 := { stood := { row := tokenKindsRow, standIns := [], harness := (true, "7d936438a6f81d25a999a20d2e6f4763a113cb1520d077f30a42f65fc0e99cce"), looks := true }, kinds := [], alts := [], laidByText := true, laidKinds := [.data, .pinned], laidTests := true, laidLooks := .later }
def TokenKindsCardSaid : Prop := Claim7.holds Tryd.pinned (.plain (OpenSpec.ofChange tokenKindsSpec)) tokenKindsCard

/-- THE TIED CARD OF 'demoticlaw03.LitLong'. -/
def litLongCard : Claim7 := { stood := { row := litLongRow, standIns := [], harness := (true, "7d936438a6f81d25a999a20d2e6f4763a113cb1520d077f30a42f65fc0e99cce"), looks := true }, kinds := [], alts := [], laidByText := true, laidKinds := [.data, .pinned], laidTests := true, laidLooks := .later }
def LitLongCardSaid : Prop := Claim7.holds Tryd.pinned (.plain (OpenSpec.ofChange litLongSpec)) litLongCard

/-- THE TIED CARD OF 'demoticlaw03.LitNumbers'. -/
def litNumbersCard : Claim7 := { stood := { row := litNumbersRow, standIns := [], harness := (true, "7d936438a6f81d25a999a20d2e6f4763a113cb1520d077f30a42f65fc0e99cce"), looks := true }, kinds := [], alts := [], laidByText := true, laidKinds := [.data, .pinned], laidTests := true, laidLooks := .later }
def LitNumbersCardSaid : Prop := Claim7.holds Tryd.pinned (.plain (OpenSpec.ofChange litNumbersSpec)) litNumbersCard

/-- THE TIED CARD OF 'demoticlaw03.LitValues'. -/
def litValuesCard : Claim7 := { stood := { row := litValuesRow, standIns := [], harness := (true, "7d936438a6f81d25a999a20d2e6f4763a113cb1520d077f30a42f65fc0e99cce"), looks := true }, kinds := [], alts := [], laidByText := true, laidKinds := [.data, .pinned], laidTests := true, laidLooks := .later }
def LitValuesCardSaid : Prop := Claim7.holds Tryd.pinned (.plain (OpenSpec.ofChange litValuesSpec)) litValuesCard

/-- THE TIED CARD OF 'demoticlaw03.LitTexts'. -/
def litTextsCard : Claim7 := { stood := { row := litTextsRow, standIns := [], harness := (true, "7d936438a6f81d25a999a20d2e6f4763a113cb1520d077f30a42f65fc0e99cce"), looks := true }, kinds := [], alts := [], laidByText := true, laidKinds := [.data, .pinned], laidTests := true, laidLooks := .later }
def LitTextsCardSaid : Prop := Claim7.holds Tryd.pinned (.plain (OpenSpec.ofChange litTextsSpec)) litTextsCard

/-- THE TIED CARD OF 'demoticlaw03.LitQuotes'. -/
def litQuotesCard : Claim7 := { stood := { row := litQuotesRow, standIns := [], harness := (true, "7d936438a6f81d25a999a20d2e6f4763a113cb1520d077f30a42f65fc0e99cce"), looks := true }, kinds := [], alts := [], laidByText := true, laidKinds := [.data, .pinned], laidTests := true, laidLooks := .later }
def LitQuotesCardSaid : Prop := Claim7.holds Tryd.pinned (.plain (OpenSpec.ofChange litQuotesSpec)) litQuotesCard

/-- THE TIED CARD OF 'demoticlaw03.LitTokens'. -/
def litTokensCard : Claim7 := { stood := { row := litTokensRow, standIns := [], harness := (true, "7d936438a6f81d25a999a20d2e6f4763a113cb1520d077f30a42f65fc0e99cce"), looks := true }, kinds := [], alts := [], laidByText := true, laidKinds := [.data, .pinned], laidTests := true, laidLooks := .later }
def LitTokensCardSaid : Prop := Claim7.holds Tryd.pinned (.plain (OpenSpec.ofChange litTokensSpec)) litTokensCard

/-- THE TIED CARD OF 'demoticlaw03.LitBack'. -/
def litBackCard : Claim7 := { stood := { row := litBackRow, standIns := [], harness := (true, "7d936438a6f81d25a999a20d2e6f4763a113cb1520d077f30a42f65fc0e99cce"), looks := true }, kinds := [], alts := [], laidByText := true, laidKinds := [.data, .pinned], laidTests := true, laidLooks := .later }
def LitBackCardSaid : Prop := Claim7.holds Tryd.pinned (.plain (OpenSpec.ofChange litBackSpec)) litBackCard

/-- THE SECOND FORM's CARD OF 'demoticlaw02.TokenJoins'. -/
def tokenJoinsUptoCard : Claim7 := { stood := { row := tokenJoinsUptoRow, standIns := [], harness := (true, "7d936438a6f81d25a999a20d2e6f4763a113cb1520d077f30a42f65fc0e99cce"), looks := true }, kinds := [], alts := [], laidByText := true, laidKinds := [.data, .pinned], laidTests := true, laidLooks := .later }
def TokenJoinsUptoCardSaid : Prop := Claim7.holds Tryd.pinned (.plain (OpenSpec.upto tokenJoinsSpec)) tokenJoinsUptoCard

/-- THE SECOND FORM's CARD OF 'demoticlaw02.TokenLines'. -/
def tokenLinesUptoCard : Claim7 := { stood := { row := tokenLinesUptoRow, standIns := [], harness := (true, "7d936438a6f81d25a999a20d2e6f4763a113cb1520d077f30a42f65fc0e99cce"), looks := true }, kinds := [], alts := [], laidByText := true, laidKinds := [.data, .pinned], laidTests := true, laidLooks := .later }
def TokenLinesUptoCardSaid : Prop := Claim7.holds Tryd.pinned (.plain (OpenSpec.upto tokenLinesSpec)) tokenLinesUptoCard

/-- THE SECOND FORM's CARD OF 'demoticlaw02.TokenScans'. -/
def tokenScansUptoCard : Claim7 := { stood := { row := tokenScansUptoRow, standIns := [], harness := (true, "7d936438a6f81d25a999a20d2e6f4763a113cb1520d077f30a42f65fc0e99cce"), looks := true }, kinds := [], alts := [], laidByText := true, laidKinds := [.data, .pinned], laidTests := true, laidLooks := .later }
def TokenScansUptoCardSaid : Prop := Claim7.holds Tryd.pinned (.plain (OpenSpec.upto tokenScansSpec)) tokenScansUptoCard

/-- THE SECOND FORM's CARD OF 'demoticlaw02.TokenStands'. -/
def tokenStandsUptoCard : Claim7 := { stood := { row := tokenStandsUptoRow, standIns := [], harness := (true, "7d936438a6f81d25a999a20d2e6f4763a113cb1520d077f30a42f65fc0e99cce"), looks := true }, kinds := [], alts := [], laidByText := true, laidKinds := [.data, .pinned], laidTests := true, laidLooks := .later }
def TokenStandsUptoCardSaid : Prop := Claim7.holds Tryd.pinned (.plain (OpenSpec.upto tokenStandsSpec)) tokenStandsUptoCard

/-- THE SECOND FORM's CARD OF 'demoticlaw02.TokenLong'. -/
def tokenLongUptoCard : Claim7 := { stood := { row := tokenLongUptoRow, standIns := [], harness := (true, "7d936438a6f81d25a999a20d2e6f4763a113cb1520d077f30a42f65fc0e99cce"), looks := true }, kinds := [], alts := [], laidByText := true, laidKinds := [.data, .pinned], laidTests := true, laidLooks := .later }
def TokenLongUptoCardSaid : Prop := Claim7.holds Tryd.pinned (.plain (OpenSpec.upto tokenLongSpec)) tokenLongUptoCard

/-- THE SECOND FORM's CARD OF 'demoticlaw02.TokenNames'. -/
def tokenNamesUptoCard : Claim7 := { stood := { row := tokenNamesUptoRow, standIns := [], harness := (true, "7d936438a6f81d25a999a20d2e6f4763a113cb1520d077f30a42f65fc0e99cce"), looks := true }, kinds := [], alts := [], laidByText := true, laidKinds := [.data, .pinned], laidTests := true, laidLooks := .later }
def TokenNamesUptoCardSaid : Prop := Claim7.holds Tryd.pinned (.plain (OpenSpec.upto tokenNamesSpec)) tokenNamesUptoCard

/-- THE SECOND FORM's CARD OF 'demoticlaw02.TokenKinds'. -/
def tokenKindsUptoCard : Claim7 := { stood := { row := tokenKindsUptoRow, standIns := [], harness := (true, "7d936438a6f81d25a999a20d2e6f4763a113cb1520d077f30a42f65fc0e99cce"), looks := true }, kinds := [], alts := [], laidByText := true, laidKinds := [.data, .pinned], laidTests := true, laidLooks := .later }
def TokenKindsUptoCardSaid : Prop := Claim7.holds Tryd.pinned (.plain (OpenSpec.upto tokenKindsSpec)) tokenKindsUptoCard

/-- THE SECOND FORM's CARD OF 'demoticlaw03.LitLong'. -/
def litLongUptoCard : Claim7 := { stood := { row := litLongUptoRow, standIns := [], harness := (true, "7d936438a6f81d25a999a20d2e6f4763a113cb1520d077f30a42f65fc0e99cce"), looks := true }, kinds := [], alts := [], laidByText := true, laidKinds := [.data, .pinned], laidTests := true, laidLooks := .later }
def LitLongUptoCardSaid : Prop := Claim7.holds Tryd.pinned (.plain (OpenSpec.upto litLongSpec)) litLongUptoCard

/-- THE SECOND FORM's CARD OF 'demoticlaw03.LitNumbers'. -/
def litNumbersUptoCard : Claim7 := { stood := { row := litNumbersUptoRow, standIns := [], harness := (true, "7d936438a6f81d25a999a20d2e6f4763a113cb1520d077f30a42f65fc0e99cce"), looks := true }, kinds := [], alts := [], laidByText := true, laidKinds := [.data, .pinned], laidTests := true, laidLooks := .later }
def LitNumbersUptoCardSaid : Prop := Claim7.holds Tryd.pinned (.plain (OpenSpec.upto litNumbersSpec)) litNumbersUptoCard

/-- THE SECOND FORM's CARD OF 'demoticlaw03.LitValues'. -/
def litValuesUptoCard : Claim7 := { stood := { row := litValuesUptoRow, standIns := [], harness := (true, "7d936438a6f81d25a999a20d2e6f4763a113cb1520d077f30a42f65fc0e99cce"), looks := true }, kinds := [], alts := [], laidByText := true, laidKinds := [.data, .pinned], laidTests := true, laidLooks := .later }
def LitValuesUptoCardSaid : Prop := Claim7.holds Tryd.pinned (.plain (OpenSpec.upto litValuesSpec)) litValuesUptoCard

/-- THE SECOND FORM's CARD OF 'demoticlaw03.LitTexts'. -/
def litTextsUptoCard : Claim7 := { stood := { row := litTextsUptoRow, standIns := [], harness := (true, "7d936438a6f81d25a999a20d2e6f4763a113cb1520d077f30a42f65fc0e99cce"), looks := true }, kinds := [], alts := [], laidByText := true, laidKinds := [.data, .pinned], laidTests := true, laidLooks := .later }
def LitTextsUptoCardSaid : Prop := Claim7.holds Tryd.pinned (.plain (OpenSpec.upto litTextsSpec)) litTextsUptoCard

/-- THE SECOND FORM's CARD OF 'demoticlaw03.LitQuotes'. -/
def litQuotesUptoCard : Claim7 := { stood := { row := litQuotesUptoRow, standIns := [], harness := (true, "7d936438a6f81d25a999a20d2e6f4763a113cb1520d077f30a42f65fc0e99cce"), looks := true }, kinds := [], alts := [], laidByText := true, laidKinds := [.data, .pinned], laidTests := true, laidLooks := .later }
def LitQuotesUptoCardSaid : Prop := Claim7.holds Tryd.pinned (.plain (OpenSpec.upto litQuotesSpec)) litQuotesUptoCard

/-- THE SECOND FORM's CARD OF 'demoticlaw03.LitTokens'. -/
def litTokensUptoCard : Claim7 := { stood := { row := litTokensUptoRow, standIns := [], harness := (true, "7d936438a6f81d25a999a20d2e6f4763a113cb1520d077f30a42f65fc0e99cce"), looks := true }, kinds := [], alts := [], laidByText := true, laidKinds := [.data, .pinned], laidTests := true, laidLooks := .later }
def LitTokensUptoCardSaid : Prop := Claim7.holds Tryd.pinned (.plain (OpenSpec.upto litTokensSpec)) litTokensUptoCard

/-- THE SECOND FORM's CARD OF 'demoticlaw03.LitBack'. -/
def litBackUptoCard : Claim7 := { stood := { row := litBackUptoRow, standIns := [], harness := (true, "7d936438a6f81d25a999a20d2e6f4763a113cb1520d077f30a42f65fc0e99cce"), looks := true }, kinds := [], alts := [], laidByText := true, laidKinds := [.data, .pinned], laidTests := true, laidLooks := .later }
def LitBackUptoCardSaid : Prop := Claim7.holds Tryd.pinned (.plain (OpenSpec.upto litBackSpec)) litBackUptoCard
end Rows
end Go.Proofs.YtehflgllfkkfoaaDoor
