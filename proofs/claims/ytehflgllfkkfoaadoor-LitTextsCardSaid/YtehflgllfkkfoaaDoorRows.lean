/-
  NARROWER THAN 'FOR EVERY INPUT', by the rows' own cells (each row's printed sentence says how): TokenJoins: laid · TokenLines: laid · TokenScans: laid · TokenStands: laid · TokenLong: laid · TokenNames: laid · TokenKinds: laid · LitLong: laid · LitNumbers: laid · LitValues: laid · LitTexts: laid · LitQuotes: laid · LitTokens: laid · LitBack: laid.
  DERIVED. THE GIVEN ROWS OF THIS SEAT. 14 by the template 'for every input the law returns true; each argument reads behind the call as it read before'; 0 by the template 'total and deterministic' (their statements: YtehflgllfkkfoaaDoorTotals.lean).
  GIVEN WITH THE SEED: the statements are not yours to turn. If you find one false, say at which input.
  Laid BY PROGRAM, IN A SANDBOX (cutbox-rows.mjs): the forced cells as the released guide's own fill.sh prints them over the translation 99ffeb5b6408fc6d… (all of the seat's roots in one cut). By AI agents, Wed Nov 11 2026. No macro, syntax, notation, axiom, sorry.
-/
import Derived.Test.YtehflgllfkkfoaaDoorChecked
import GoSem.PinnedTables
import GoSem.Claim
import GoSem.ClaimJoined
import GoSem.ClaimMapViews
import Derived.JoinedTies
import Derived.KernelRfl
namespace Go.Proofs.YtehflgllfkkfoaaDoor
/- THE CELL 'sum', in the pinned program and in every row, IS THE sha256 OF THE DUMP (.gsa) THAT YtehflgllfkkfoaaDoorProg.lean LOADS. Nothing in Lean hashes anything: it is a label: what it is worth is what the hold of that sum in a sandbox is worth. -/
noncomputable def Tryd.pinned : Pinned := { name := "ytehflgllfkkfoaadoor", sum := "99ffeb5b6408fc6df8da90d8461f35b294eadbf1967e23cb859218ef9400af21", checked := Tryd.checked }
namespace Rows
def none {H : Type} : Left H := { results := [], args := [] }

/- WHAT THE LISTED PACKAGE-LEVEL VARIABLES READ AS WHEN THE CALL BEGINS. Each datum BY PROGRAM (the guide's laid-datum.mjs) off the statement by which the dump's own 'gosem.cut.vars' lays the variable. In a bare row this is a premise. The card (YtehflgllfkkfoaaDoorCards.lean) ties it to the program's text. -/
def laid_unicode_utf8_acceptRanges {H : Type} : DataW H := .agg [.agg [.lit (.int .u8 128), .lit (.int .u8 191)], .agg [.lit (.int .u8 160), .lit (.int .u8 191)], .agg [.lit (.int .u8 128), .lit (.int .u8 159)], .agg [.lit (.int .u8 144), .lit (.int .u8 191)], .agg [.lit (.int .u8 128), .lit (.int .u8 143)], .agg [.lit (.int .u8 0), .lit (.int .u8 0)], .agg [.lit (.int .u8 0), .lit (.int .u8 0)], .agg [.lit (.int .u8 0), .lit (.int .u8 0)], .agg [.lit (.int .u8 0), .lit (.int .u8 0)], .agg [.lit (.int .u8 0), .lit (.int .u8 0)], .agg [.lit (.int .u8 0), .lit (.int .u8 0)], .agg [.lit (.int .u8 0), .lit (.int .u8 0)], .agg [.lit (.int .u8 0), .lit (.int .u8 0)], .agg [.lit (.int .u8 0), .lit (.int .u8 0)], .agg [.lit (.int .u8 0), .lit (.int .u8 0)], .agg [.lit (.int .u8 0), .lit (.int .u8 0)]]
/-- One of Go's own tables, pinned by name: the form's constant. -/
def laid_unicode_utf8_first : DataW Unit := Go.Pinned.utf8First

/-- 'demoticlaw02.TokenJoins': WHATEVER THE INPUT: true; the input reads as it did. -/
def tokenJoinsSpec : ChangeSpec := { name := "tokenJoins", fn := fun _ => fun
  | [d] => { results := [.lit (.bool true)], args := [d] }
  | _ => none }
def tokenJoinsRow : OpenClaim := { program := "ytehflgllfkkfoaadoor", sum := "99ffeb5b6408fc6df8da90d8461f35b294eadbf1967e23cb859218ef9400af21", func := "demotic/demoticlaw02.TokenJoins", spec := "tokenJoins", inPlace := ["internal/bytealg.IndexByteString", "internal/bytealg.IndexString"], unfollowed := true, recurses := true, named := ["unicode/utf8.first", "unicode/utf8.acceptRanges", "internal/bytealg.MaxLen"], apart := false, laid := [("unicode/utf8.acceptRanges", laid_unicode_utf8_acceptRanges), ("unicode/utf8.first", laid_unicode_utf8_first)] }
def TokenJoinsSaid : Prop := tokenJoinsRow.holds Tryd.pinned (OpenSpec.ofChange tokenJoinsSpec)

/-- ITS FALSE NEIGHBOUR: 'it returns false'. Refute it at one input. -/
def tokenJoinsWrong : ChangeSpec := { name := "tokenJoins", fn := fun _ => fun
  | [d] => { results := [.lit (.bool false)], args := [d] }
  | _ => none }
def TokenJoinsWrongFalsely : Prop := tokenJoinsRow.holds Tryd.pinned (OpenSpec.ofChange tokenJoinsWrong)

/-- 'demoticlaw02.TokenLines': WHATEVER THE INPUT: true; the input reads as it did. -/
def tokenLinesSpec : ChangeSpec := { name := "tokenLines", fn := fun _ => fun
  | [d] => { results := [.lit (.bool true)], args := [d] }
  | _ => none }
def tokenLinesRow : OpenClaim := { program := "ytehflgllfkkfoaadoor", sum := "99ffeb5b6408fc6df8da90d8461f35b294eadbf1967e23cb859218ef9400af21", func := "demotic/demoticlaw02.TokenLines", spec := "tokenLines", inPlace := ["internal/bytealg.IndexByteString", "internal/bytealg.IndexString"], unfollowed := true, recurses := true, named := ["unicode/utf8.first", "unicode/utf8.acceptRanges", "internal/bytealg.MaxLen"], apart := false, laid := [("unicode/utf8.acceptRanges", laid_unicode_utf8_acceptRanges), ("unicode/utf8.first", laid_unicode_utf8_first)] }
def TokenLinesSaid : Prop := tokenLinesRow.holds Tryd.pinned (OpenSpec.ofChange tokenLinesSpec)

/-- ITS FALSE NEIGHBOUR: 'it returns false'. Refute it at one input. -/
def tokenLinesWrong : ChangeSpec := { name := "tokenLines", fn := fun _ => fun
  | [d] => { results := [.lit (.bool false)], args := [d] }
  | _ => none }
def TokenLinesWrongFalsely : Prop := tokenLinesRow.holds Tryd.pinned (OpenSpec.ofChange tokenLinesWrong)

/-- 'demoticlaw02.TokenScans': WHATEVER THE INPUT: true; the input reads as it did. -/
def tokenScansSpec : ChangeSpec := { name := "tokenScans", fn := fun _ => fun
  | [d] => { results := [.lit (.bool true)], args := [d] }
  | _ => none }
def tokenScansRow : OpenClaim := { program := "ytehflgllfkkfoaadoor", sum := "99ffeb5b6408fc6df8da90d8461f35b294eadbf1967e23cb859218ef9400af21", func := "demotic/demoticlaw02.TokenScans", spec := "tokenScans", inPlace := ["internal/bytealg.IndexByteString", "internal/bytealg.IndexString"], unfollowed := true, recurses := true, named := ["unicode/utf8.first", "unicode/utf8.acceptRanges", "internal/bytealg.MaxLen"], apart := false, laid := [("unicode/utf8.acceptRanges", laid_unicode_utf8_acceptRanges), ("unicode/utf8.first", laid_unicode_utf8_first)] }
def TokenScansSaid : Prop := tokenScansRow.holds Tryd.pinned (OpenSpec.ofChange tokenScansSpec)

/-- ITS FALSE NEIGHBOUR: 'it returns false'. Refute it at one input. -/
def tokenScansWrong : ChangeSpec := { name := "tokenScans", fn := fun _ => fun
  | [d] => { results := [.lit (.bool false)], args := [d] }
  | _ => none }
def TokenScansWrongFalsely : Prop := tokenScansRow.holds Tryd.pinned (OpenSpec.ofChange tokenScansWrong)

/-- 'demoticlaw02.TokenStands': WHATEVER THE INPUT: true; the input reads as it did. -/
def tokenStandsSpec : ChangeSpec := { name := "tokenStands", fn := fun _ => fun
  | [d] => { results := [.lit (.bool true)], args := [d] }
  | _ => none }
def tokenStandsRow : OpenClaim := { program := "ytehflgllfkkfoaadoor", sum := "99ffeb5b6408fc6df8da90d8461f35b294eadbf1967e23cb859218ef9400af21", func := "demotic/demoticlaw02.TokenStands", spec := "tokenStands", inPlace := ["internal/bytealg.IndexByteString", "internal/bytealg.IndexString"], unfollowed := true, recurses := true, named := ["unicode/utf8.first", "unicode/utf8.acceptRanges", "internal/bytealg.MaxLen"], apart := false, laid := [("unicode/utf8.acceptRanges", laid_unicode_utf8_acceptRanges), ("unicode/utf8.first", laid_unicode_utf8_first)] }
def TokenStandsSaid : Prop := tokenStandsRow.holds Tryd.pinned (OpenSpec.ofChange tokenStandsSpec)

/-- ITS FALSE NEIGHBOUR: 'it returns false'. Refute it at one input. -/
def tokenStandsWrong : ChangeSpec := { name := "tokenStands", fn := fun _ => fun
  | [d] => { results := [.lit (.bool false)], args := [d] }
  | _ => none }
def TokenStandsWrongFalsely : Prop := tokenStandsRow.holds Tryd.pinned (OpenSpec.ofChange tokenStandsWrong)

/-- 'demoticlaw02.TokenLong': WHATEVER THE INPUT: true; the input reads as it did. -/
def tokenLongSpec : ChangeSpec := { name := "tokenLong", fn := fun _ => fun
  | [d1, d2] => { results := [.lit (.bool true)], args := [d1, d2] }
  | _ => none }
def tokenLongRow : OpenClaim := { program := "ytehflgllfkkfoaadoor", sum := "99ffeb5b6408fc6df8da90d8461f35b294eadbf1967e23cb859218ef9400af21", func := "demotic/demoticlaw02.TokenLong", spec := "tokenLong", inPlace := ["internal/bytealg.IndexByteString", "internal/bytealg.IndexString"], unfollowed := true, recurses := true, named := ["unicode/utf8.first", "unicode/utf8.acceptRanges", "internal/bytealg.MaxLen"], apart := false, laid := [("unicode/utf8.acceptRanges", laid_unicode_utf8_acceptRanges), ("unicode/utf8.first", laid_unicode_utf8_first)] }
def TokenLongSaid : Prop := tokenLongRow.holds Tryd.pinned (OpenSpec.ofChange tokenLongSpec)

/-- ITS FALSE NEIGHBOUR: 'it returns false'. Refute it at one input. -/
def tokenLongWrong : ChangeSpec := { name := "tokenLong", fn := fun _ => fun
  | [d1, d2] => { results := [.lit (.bool false)], args := [d1, d2] }
  | _ => none }
def TokenLongWrongFalsely : Prop := tokenLongRow.holds Tryd.pinned (OpenSpec.ofChange tokenLongWrong)

/-- 'demoticlaw02.TokenNames': WHATEVER THE INPUT: true; the input reads as it did. -/
def tokenNamesSpec : ChangeSpec := { name := "tokenNames", fn := fun _ => fun
  | [d] => { results := [.lit (.bool true)], args := [d] }
  | _ => none }
def tokenNamesRow : OpenClaim := { program := "ytehflgllfkkfoaadoor", sum := "99ffeb5b6408fc6df8da90d8461f35b294eadbf1967e23cb859218ef9400af21", func := "demotic/demoticlaw02.TokenNames", spec := "tokenNames", inPlace := ["internal/bytealg.IndexByteString", "internal/bytealg.IndexString"], unfollowed := true, recurses := true, named := ["unicode/utf8.first", "unicode/utf8.acceptRanges", "internal/bytealg.MaxLen"], apart := false, laid := [("unicode/utf8.acceptRanges", laid_unicode_utf8_acceptRanges), ("unicode/utf8.first", laid_unicode_utf8_first)] }
def TokenNamesSaid : Prop := tokenNamesRow.holds Tryd.pinned (OpenSpec.ofChange tokenNamesSpec)

/-- ITS FALSE NEIGHBOUR: 'it returns false'. Refute it at one input. -/
def tokenNamesWrong : ChangeSpec := { name := "tokenNames", fn := fun _ => fun
  | [d] => { results := [.lit (.bool false)], args := [d] }
  | _ => none }
def TokenNamesWrongFalsely : Prop := tokenNamesRow.holds Tryd.pinned (OpenSpec.ofChange tokenNamesWrong)

/-- 'demoticlaw02.TokenKinds': WHATEVER THE INPUT: true; the input reads as it did. -/
def tokenKindsSpec : ChangeSpec := { name := "tokenKinds", fn := fun _ => fun
  | [d] => { results := [.lit (.bool true)], args := [d] }
  | _ => none }
def tokenKindsRow : OpenClaim := { program := "ytehflgllfkkfoaadoor", sum := "99ffeb5b6408fc6df8da90d8461f35b294eadbf1967e23cb859218ef9400af21", func := "demotic/demoticlaw02.TokenKinds", spec := "tokenKinds", inPlace := ["internal/bytealg.IndexByteString", "internal/bytealg.IndexString"], unfollowed := true, recurses := true, named := ["unicode/utf8.first", "unicode/utf8.acceptRanges", "internal/bytealg.MaxLen"], apart := false, laid := [("unicode/utf8.acceptRanges", laid_unicode_utf8_acceptRanges), ("unicode/utf8.first", laid_unicode_utf8_first)] }
def TokenKindsSaid : Prop := tokenKindsRow.holds Tryd.pinned (OpenSpec.ofChange tokenKindsSpec)

/-- ITS FALSE NEIGHBOUR: 'it returns false'. Refute it at one input. -/
def tokenKindsWrong : ChangeSpec := { name := "tokenKinds", fn := fun _ => fun
  | [d] => { results := [.lit (.bool false)], args := [d] }
  | _ => none }
def TokenKindsWrongFalsely : Prop := tokenKindsRow.holds Tryd.pinned (OpenSpec.ofChange tokenKindsWrong)

/-- 'demoticlaw03.LitLong': WHATEVER THE INPUT: true; the input reads as it did. -/
def litLongSpec : ChangeSpec := { name := "litLong", fn := fun _ => fun
  | [d1, d2] => { results := [.lit (.bool true)], args := [d1, d2] }
  | _ => none }
def litLongRow : OpenClaim := { program := "ytehflgllfkkfoaadoor", sum := "99ffeb5b6408fc6df8da90d8461f35b294eadbf1967e23cb859218ef9400af21", func := "demotic/demoticlaw03.LitLong", spec := "litLong", inPlace := ["internal/abi.NoEscape", "internal/bytealg.IndexByteString", "internal/bytealg.CountString", "internal/bytealg.IndexString", "internal/bytealg.MakeNoZero"], unfollowed := true, recurses := true, named := ["unicode/utf8.first", "unicode/utf8.acceptRanges", "internal/bytealg.MaxLen"], apart := false, laid := [("unicode/utf8.acceptRanges", laid_unicode_utf8_acceptRanges), ("unicode/utf8.first", laid_unicode_utf8_first)] }
def LitLongSaid : Prop := litLongRow.holds Tryd.pinned (OpenSpec.ofChange litLongSpec)

/-- ITS FALSE NEIGHBOUR: 'it returns false'. Refute it at one input. -/
def litLongWrong : ChangeSpec := { name := "litLong", fn := fun _ => fun
  | [d1, d2] => { results := [.lit (.bool false)], args := [d1, d2] }
  | _ => none }
def LitLongWrongFalsely : Prop := litLongRow.holds Tryd.pinned (OpenSpec.ofChange litLongWrong)

/-- 'demoticlaw03.LitNumbers': WHATEVER THE INPUT: true; the input reads as it did. -/
def litNumbersSpec : ChangeSpec := { name := "litNumbers", fn := fun _ => fun
  | [d] => { results := [.lit (.bool true)], args := [d] }
  | _ => none }
def litNumbersRow : OpenClaim := { program := "ytehflgllfkkfoaadoor", sum := "99ffeb5b6408fc6df8da90d8461f35b294eadbf1967e23cb859218ef9400af21", func := "demotic/demoticlaw03.LitNumbers", spec := "litNumbers", inPlace := ["internal/abi.NoEscape", "internal/bytealg.IndexByteString", "internal/bytealg.CountString", "internal/bytealg.IndexString", "internal/bytealg.MakeNoZero"], unfollowed := true, recurses := true, named := ["unicode/utf8.first", "unicode/utf8.acceptRanges", "internal/bytealg.MaxLen"], apart := false, laid := [("unicode/utf8.acceptRanges", laid_unicode_utf8_acceptRanges), ("unicode/utf8.first", laid_unicode_utf8_first)] }
def LitNumbersSaid : Prop := litNumbersRow.holds Tryd.pinned (OpenSpec.ofChange litNumbersSpec)

/-- ITS FALSE NEIGHBOUR: 'it returns false'. Refute it at one input. -/
def litNumbersWrong : ChangeSpec := { name := "litNumbers", fn := fun _ => fun
  | [d] => { results := [.lit (.bool false)], args := [d] }
  | _ => none }
def LitNumbersWrongFalsely : Prop := litNumbersRow.holds Tryd.pinned (OpenSpec.ofChange litNumbersWrong)

/-- 'demoticlaw03.LitValues': WHATEVER THE INPUT: true; the input reads as it did. -/
def litValuesSpec : ChangeSpec := { name := "litValues", fn := fun _ => fun
  | [d] => { results := [.lit (.bool true)], args := [d] }
  | _ => none }
def litValuesRow : OpenClaim := { program := "ytehflgllfkkfoaadoor", sum := "99ffeb5b6408fc6df8da90d8461f35b294eadbf1967e23cb859218ef9400af21", func := "demotic/demoticlaw03.LitValues", spec := "litValues", inPlace := ["internal/abi.NoEscape", "internal/bytealg.IndexByteString", "internal/bytealg.CountString", "internal/bytealg.IndexString", "internal/bytealg.MakeNoZero"], unfollowed := true, recurses := true, named := ["unicode/utf8.first", "unicode/utf8.acceptRanges", "internal/bytealg.MaxLen"], apart := false, laid := [("unicode/utf8.acceptRanges", laid_unicode_utf8_acceptRanges), ("unicode/utf8.first", laid_unicode_utf8_first)] }
def LitValuesSaid : Prop := litValuesRow.holds Tryd.pinned (OpenSpec.ofChange litValuesSpec)

/-- ITS FALSE NEIGHBOUR: 'it returns false'. Refute it at one input. -/
def litValuesWrong : ChangeSpec := { name := "litValues", fn := fun _ => fun
  | [d] => { results := [.lit (.bool false)], args := [d] }
  | _ => none }
def LitValuesWrongFalsely : Prop := litValuesRow.holds Tryd.pinned (OpenSpec.ofChange litValuesWrong)

/-- 'demoticlaw03.LitTexts': WHATEVER THE INPUT: true; the input reads as it did. -/
def litTextsSpec : ChangeSpec := { name := "litTexts", fn := fun _ => fun
  | [d] => { results := [.lit (.bool true)], args := [d] }
  | _ => none }
def litTextsRow : OpenClaim := { program := "ytehflgllfkkfoaadoor", sum := "99ffeb5b6408fc6df8da90d8461f35b294eadbf1967e23cb859218ef9400af21", func := "demotic/demoticlaw03.LitTexts", spec := "litTexts", inPlace := ["internal/abi.NoEscape", "internal/bytealg.IndexByteString", "internal/bytealg.CountString", "internal/bytealg.IndexString", "internal/bytealg.MakeNoZero"], unfollowed := true, recurses := true, named := ["unicode/utf8.first", "unicode/utf8.acceptRanges", "internal/bytealg.MaxLen"], apart := false, laid := [("unicode/utf8.acceptRanges", laid_unicode_utf8_acceptRanges), ("unicode/utf8.first", laid_unicode_utf8_first)] }
def LitTextsSaid : Prop := litTextsRow.holds Tryd.pinned (OpenSpec.ofChange litTextsSpec)

/-- ITS FALSE NEIGHBOUR: 'it returns false'. Refute it at one input. -/
def litTextsWrong : ChangeSpec := { name := "litTexts", fn := fun _ => fun
  | [d] => { results := [.lit (.bool false)], args := [d] }
  | _ => none }
def LitTextsWrongFalsely : Prop := litTextsRow.holds Tryd.pinned (OpenSpec.ofChange litTextsWrong)

/-- 'demoticlaw03.LitQuotes': WHATEVER THE INPUT: true; the input reads as it did. -/
def litQuotesSpec : ChangeSpec := { name := "litQuotes", fn := fun _ => fun
  | [d1, d2] => { results := [.lit (.bool true)], args := [d1, d2] }
  | _ => none }
def litQuotesRow : OpenClaim := { program := "ytehflgllfkkfoaadoor", sum := "99ffeb5b6408fc6df8da90d8461f35b294eadbf1967e23cb859218ef9400af21", func := "demotic/demoticlaw03.LitQuotes", spec := "litQuotes", inPlace := ["internal/abi.NoEscape", "internal/bytealg.IndexByteString", "internal/bytealg.CountString", "internal/bytealg.IndexString", "internal/bytealg.MakeNoZero"], unfollowed := true, recurses := true, named := ["unicode/utf8.first", "unicode/utf8.acceptRanges", "internal/bytealg.MaxLen"], apart := false, laid := [("unicode/utf8.acceptRanges", laid_unicode_utf8_acceptRanges), ("unicode/utf8.first", laid_unicode_utf8_first)] }
def LitQuotesSaid : Prop := litQuotesRow.holds Tryd.pinned (OpenSpec.ofChange litQuotesSpec)

/-- ITS FALSE NEIGHBOUR: 'it returns false'. Refute it at one input. -/
def litQuotesWrong : ChangeSpec := { name := "litQuotes", fn := fun _ => fun
  | [d1, d2] => { results := [.lit (.bool false)], args := [d1, d2] }
  | _ => none }
def LitQuotesWrongFalsely : Prop := litQuotesRow.holds Tryd.pinned (OpenSpec.ofChange litQuotesWrong)

/-- 'demoticlaw03.LitTokens': WHATEVER THE INPUT: true; the input reads as it did. -/
def litTokensSpec : ChangeSpec := { name := "litTokens", fn := fun _ => fun
  | [d] => { results := [.lit (.bool true)], args := [d] }
  | _ => none }
def litTokensRow : OpenClaim := { program := "ytehflgllfkkfoaadoor", sum := "99ffeb5b6408fc6df8da90d8461f35b294eadbf1967e23cb859218ef9400af21", func := "demotic/demoticlaw03.LitTokens", spec := "litTokens", inPlace := ["internal/abi.NoEscape", "internal/bytealg.IndexByteString", "internal/bytealg.CountString", "internal/bytealg.IndexString", "internal/bytealg.MakeNoZero"], unfollowed := true, recurses := true, named := ["unicode/utf8.first", "unicode/utf8.acceptRanges", "internal/bytealg.MaxLen"], apart := false, laid := [("unicode/utf8.acceptRanges", laid_unicode_utf8_acceptRanges), ("unicode/utf8.first", laid_unicode_utf8_first)] }
def LitTokensSaid : Prop := litTokensRow.holds Tryd.pinned (OpenSpec.ofChange litTokensSpec)

/-- ITS FALSE NEIGHBOUR: 'it returns false'. Refute it at one input. -/
def litTokensWrong : ChangeSpec := { name := "litTokens", fn := fun _ => fun
  | [d] => { results := [.lit (.bool false)], args := [d] }
  | _ => none }
def LitTokensWrongFalsely : Prop := litTokensRow.holds Tryd.pinned (OpenSpec.ofChange litTokensWrong)

/-- 'demoticlaw03.LitBack': WHATEVER THE INPUT: true; the input reads as it did. -/
def litBackSpec : ChangeSpec := { name := "litBack", fn := fun _ => fun
  | [d1, d2] => { results := [.lit (.bool true)], args := [d1, d2] }
  | _ => none }
def litBackRow : OpenClaim := { program := "ytehflgllfkkfoaadoor", sum := "99ffeb5b6408fc6df8da90d8461f35b294eadbf1967e23cb859218ef9400af21", func := "demotic/demoticlaw03.LitBack", spec := "litBack", inPlace := ["internal/abi.NoEscape", "internal/bytealg.IndexByteString", "internal/bytealg.CountString", "internal/bytealg.IndexString", "internal/bytealg.MakeNoZero"], unfollowed := true, recurses := true, named := ["unicode/utf8.first", "unicode/utf8.acceptRanges", "internal/bytealg.MaxLen"], apart := false, laid := [("unicode/utf8.acceptRanges", laid_unicode_utf8_acceptRanges), ("unicode/utf8.first", laid_unicode_utf8_first)] }
def LitBackSaid : Prop := litBackRow.holds Tryd.pinned (OpenSpec.ofChange litBackSpec)

/-- ITS FALSE NEIGHBOUR: 'it returns false'. Refute it at one input. -/
def litBackWrong : ChangeSpec := { name := "litBack", fn := fun _ => fun
  | [d1, d2] => { results := [.lit (.bool false)], args := [d1, d2] }
  | _ => none }
def LitBackWrongFalsely : Prop := litBackRow.holds Tryd.pinned (OpenSpec.ofChange litBackWrong)

/- THE SECOND FORM. 'bulk': how many values and letters a reading holds, each counted each time it is reached (what is shared counts as often as it is met; a slice's spare places count too). A statement '..UptoSaid' is the law's where the arguments, and the package variables that the reading takes, are together of bulk at most 1048576: NARROWER than '..Said'. Prove '..Said' where nothing that the law and all that it calls make is longer than what came in: it says more and counts as full. Else prove '..UptoSaid'. A law counts once. -/
mutual
def uptoBulk {H : Type} : DataW H → Nat
  | .lit (.string bytes) => bytes.length + 1
  | .lit _ => 1
  | .nil => 1
  | .ptr d => uptoBulk d + 1
  | .slice elems spare => uptoBulkAll elems + uptoBulkAll spare + 1
  | .agg parts => uptoBulkAll parts + 1
  | .iface _ d => uptoBulk d + 1
  | .map entries => uptoBulkEntries entries + 1
  | .held _ => 1
def uptoBulkAll {H : Type} : List (DataW H) → Nat
  | [] => 0
  | d :: r => uptoBulk d + uptoBulkAll r
def uptoBulkEntries {H : Type} : List (Lit × DataW H) → Nat
  | [] => 0
  | x :: r => uptoBulkEntry x + uptoBulkEntries r
def uptoBulkEntry {H : Type} : Lit × DataW H → Nat
  | (.string bytes, d) => bytes.length + uptoBulk d + 1
  | (_, d) => uptoBulk d + 1
 end
def uptoSmall : (H : Type) → List (DataW H) → Bool := fun _ ds => decide (uptoBulkAll ds ≤ 1048576)
def OpenSpec.upto (s : _root_.Go.ChangeSpec) : _root_.Go.OpenSpec := { _root_.Go.OpenSpec.ofChange s with cond := some uptoSmall }

/-- 'demoticlaw02.TokenJoins', WHERE WHAT IT READS IS OF BULK AT MOST 1048576: true; the input reads as it did. -/
def tokenJoinsUptoRow : OpenClaim := { program := "ytehflgllfkkfoaadoor", sum := "99ffeb5b6408fc6df8da90d8461f35b294eadbf1967e23cb859218ef9400af21", func := "demotic/demoticlaw02.TokenJoins", spec := "tokenJoins", inPlace := ["internal/bytealg.IndexByteString", "internal/bytealg.IndexString"], unfollowed := true, recurses := true, named := ["unicode/utf8.first", "unicode/utf8.acceptRanges", "internal/bytealg.MaxLen"], apart := false, laid := [("unicode/utf8.acceptRanges", laid_unicode_utf8_acceptRanges), ("unicode/utf8.first", laid_unicode_utf8_first)], narrowed := true }
def TokenJoinsUptoSaid : Prop := tokenJoinsUptoRow.holds Tryd.pinned (OpenSpec.upto tokenJoinsSpec)

/-- 'demoticlaw02.TokenLines', WHERE WHAT IT READS IS OF BULK AT MOST 1048576: true; the input reads as it did. -/
def tokenLinesUptoRow : OpenClaim := { program := "ytehflgllfkkfoaadoor", sum := "99ffeb5b6408fc6df8da90d8461f35b294eadbf1967e23cb859218ef9400af21", func := "demotic/demoticlaw02.TokenLines", spec := "tokenLines", inPlace := ["internal/bytealg.IndexByteString", "internal/bytealg.IndexString"], unfollowed := true, recurses := true, named := ["unicode/utf8.first", "unicode/utf8.acceptRanges", "internal/bytealg.MaxLen"], apart := false, laid := [("unicode/utf8.acceptRanges", laid_unicode_utf8_acceptRanges), ("unicode/utf8.first", laid_unicode_utf8_first)], narrowed := true }
def TokenLinesUptoSaid : Prop := tokenLinesUptoRow.holds Tryd.pinned (OpenSpec.upto tokenLinesSpec)

/-- 'demoticlaw02.TokenScans', WHERE WHAT IT READS IS OF BULK AT MOST 1048576: true; the input reads as it did. -/
def tokenScansUptoRow : OpenClaim := { program := "ytehflgllfkkfoaadoor", sum := "99ffeb5b6408fc6df8da90d8461f35b294eadbf1967e23cb859218ef9400af21", func := "demotic/demoticlaw02.TokenScans", spec := "tokenScans", inPlace := ["internal/bytealg.IndexByteString", "internal/bytealg.IndexString"], unfollowed := true, recurses := true, named := ["unicode/utf8.first", "unicode/utf8.acceptRanges", "internal/bytealg.MaxLen"], apart := false, laid := [("unicode/utf8.acceptRanges", laid_unicode_utf8_acceptRanges), ("unicode/utf8.first", laid_unicode_utf8_first)], narrowed := true }
def TokenScansUptoSaid : Prop := tokenScansUptoRow.holds Tryd.pinned (OpenSpec.upto tokenScansSpec)

/-- 'demoticlaw02.TokenStands', WHERE WHAT IT READS IS OF BULK AT MOST 1048576: true; the input reads as it did. -/
def tokenStandsUptoRow : OpenClaim := { program := "ytehflgllfkkfoaadoor", sum := "99ffeb5b6408fc6df8da90d8461f35b294eadbf1967e23cb859218ef9400af21", func := "demotic/demoticlaw02.TokenStands", spec := "tokenStands", inPlace := ["internal/bytealg.IndexByteString", "internal/bytealg.IndexString"], unfollowed := true, recurses := true, named := ["unicode/utf8.first", "unicode/utf8.acceptRanges", "internal/bytealg.MaxLen"], apart := false, laid := [("unicode/utf8.acceptRanges", laid_unicode_utf8_acceptRanges), ("unicode/utf8.first", laid_unicode_utf8_first)], narrowed := true }
def TokenStandsUptoSaid : Prop := tokenStandsUptoRow.holds Tryd.pinned (OpenSpec.upto tokenStandsSpec)

/-- 'demoticlaw02.TokenLong', WHERE WHAT IT READS IS OF BULK AT MOST 1048576: true; the input reads as it did. -/
def tokenLongUptoRow : OpenClaim := { program := "ytehflgllfkkfoaadoor", sum := "99ffeb5b6408fc6df8da90d8461f35b294eadbf1967e23cb859218ef9400af21", func := "demotic/demoticlaw02.TokenLong", spec := "tokenLong", inPlace := ["internal/bytealg.IndexByteString", "internal/bytealg.IndexString"], unfollowed := true, recurses := true, named := ["unicode/utf8.first", "unicode/utf8.acceptRanges", "internal/bytealg.MaxLen"], apart := false, laid := [("unicode/utf8.acceptRanges", laid_unicode_utf8_acceptRanges), ("unicode/utf8.first", laid_unicode_utf8_first)], narrowed := true }
def TokenLongUptoSaid : Prop := tokenLongUptoRow.holds Tryd.pinned (OpenSpec.upto tokenLongSpec)

/-- 'demoticlaw02.TokenNames', WHERE WHAT IT READS IS OF BULK AT MOST 1048576: true; the input reads as it did. -/
def tokenNamesUptoRow : OpenClaim := { program := "ytehflgllfkkfoaadoor", sum := "99ffeb5b6408fc6df8da90d8461f35b294eadbf1967e23cb859218ef9400af21", func := "demotic/demoticlaw02.TokenNames", spec := "tokenNames", inPlace := ["internal/bytealg.IndexByteString", "internal/bytealg.IndexString"], unfollowed := true, recurses := true, named := ["unicode/utf8.first", "unicode/utf8.acceptRanges", "internal/bytealg.MaxLen"], apart := false, laid := [("unicode/utf8.acceptRanges", laid_unicode_utf8_acceptRanges), ("unicode/utf8.first", laid_unicode_utf8_first)], narrowed := true }
def TokenNamesUptoSaid : Prop := tokenNamesUptoRow.holds Tryd.pinned (OpenSpec.upto tokenNamesSpec)

/-- 'demoticlaw02.TokenKinds', WHERE WHAT IT READS IS OF BULK AT MOST 1048576: true; the input reads as it did. -/
def tokenKindsUptoRow : OpenClaim := { program := "ytehflgllfkkfoaadoor", sum := "99ffeb5b6408fc6df8da90d8461f35b294eadbf1967e23cb859218ef9400af21", func := "demotic/demoticlaw02.TokenKinds", spec := "tokenKinds", inPlace := ["internal/bytealg.IndexByteString", "internal/bytealg.IndexString"], unfollowed := true, recurses := true, named := ["unicode/utf8.first", "unicode/utf8.acceptRanges", "internal/bytealg.MaxLen"], apart := false, laid := [("unicode/utf8.acceptRanges", laid_unicode_utf8_acceptRanges), ("unicode/utf8.first", laid_unicode_utf8_first)], narrowed := true }
def TokenKindsUptoSaid : Prop := tokenKindsUptoRow.holds Tryd.pinned (OpenSpec.upto tokenKindsSpec)

/-- 'demoticlaw03.LitLong', WHERE WHAT IT READS IS OF BULK AT MOST 1048576: true; the input reads as it did. -/
def litLongUptoRow : OpenClaim := { program := "ytehflgllfkkfoaadoor", sum := "99ffeb5b6408fc6df8da90d8461f35b294eadbf1967e23cb859218ef9400af21", func := "demotic/demoticlaw03.LitLong", spec := "litLong", inPlace := ["internal/abi.NoEscape", "internal/bytealg.IndexByteString", "internal/bytealg.CountString", "internal/bytealg.IndexString", "internal/bytealg.MakeNoZero"], unfollowed := true, recurses := true, named := ["unicode/utf8.first", "unicode/utf8.acceptRanges", "internal/bytealg.MaxLen"], apart := false, laid := [("unicode/utf8.acceptRanges", laid_unicode_utf8_acceptRanges), ("unicode/utf8.first", laid_unicode_utf8_first)], narrowed := true }
def LitLongUptoSaid : Prop := litLongUptoRow.holds Tryd.pinned (OpenSpec.upto litLongSpec)

/-- 'demoticlaw03.LitNumbers', WHERE WHAT IT READS IS OF BULK AT MOST 1048576: true; the input reads as it did. -/
def litNumbersUptoRow : OpenClaim := { program := "ytehflgllfkkfoaadoor", sum := "99ffeb5b6408fc6df8da90d8461f35b294eadbf1967e23cb859218ef9400af21", func := "demotic/demoticlaw03.LitNumbers", spec := "litNumbers", inPlace := ["internal/abi.NoEscape", "internal/bytealg.IndexByteString", "internal/bytealg.CountString", "internal/bytealg.IndexString", "internal/bytealg.MakeNoZero"], unfollowed := true, recurses := true, named := ["unicode/utf8.first", "unicode/utf8.acceptRanges", "internal/bytealg.MaxLen"], apart := false, laid := [("unicode/utf8.acceptRanges", laid_unicode_utf8_acceptRanges), ("unicode/utf8.first", laid_unicode_utf8_first)], narrowed := true }
def LitNumbersUptoSaid : Prop := litNumbersUptoRow.holds Tryd.pinned (OpenSpec.upto litNumbersSpec)

/-- 'demoticlaw03.LitValues', WHERE WHAT IT READS IS OF BULK AT MOST 1048576: true; the input reads as it did. -/
def litValuesUptoRow : OpenClaim := { program := "ytehflgllfkkfoaadoor", sum := "99ffeb5b6408fc6df8da90d8461f35b294eadbf1967e23cb859218ef9400af21", func := "demotic/demoticlaw03.LitValues", spec := "litValues", inPlace := ["internal/abi.NoEscape", "internal/bytealg.IndexByteString", "internal/bytealg.CountString", "internal/bytealg.IndexString", "internal/bytealg.MakeNoZero"], unfollowed := true, recurses := true, named := ["unicode/utf8.first", "unicode/utf8.acceptRanges", "internal/bytealg.MaxLen"], apart := false, laid := [("unicode/utf8.acceptRanges", laid_unicode_utf8_acceptRanges), ("unicode/utf8.first", laid_unicode_utf8_first)], narrowed := true }
def LitValuesUptoSaid : Prop := litValuesUptoRow.holds Tryd.pinned (OpenSpec.upto litValuesSpec)

/-- 'demoticlaw03.LitTexts', WHERE WHAT IT READS IS OF BULK AT MOST 1048576: true; the input reads as it did. -/
def litTextsUptoRow : OpenClaim := { program := "ytehflgllfkkfoaadoor", sum := "99ffeb5b6408fc6df8da90d8461f35b294eadbf1967e23cb859218ef9400af21", func := "demotic/demoticlaw03.LitTexts", spec := "litTexts", inPlace := ["internal/abi.NoEscape", "internal/bytealg.IndexByteString", "internal/bytealg.CountString", "internal/bytealg.IndexString", "internal/bytealg.MakeNoZero"], unfollowed := true, recurses := true, named := ["unicode/utf8.first", "unicode/utf8.acceptRanges", "internal/bytealg.MaxLen"], apart := false, laid := [("unicode/utf8.acceptRanges", laid_unicode_utf8_acceptRanges), ("unicode/utf8.first", laid_unicode_utf8_first)], narrowed := true }
def LitTextsUptoSaid : Prop := litTextsUptoRow.holds Tryd.pinned (OpenSpec.upto litTextsSpec)

/-- 'demoticlaw03.LitQuotes', WHERE WHAT IT READS IS OF BULK AT MOST 1048576: true; the input reads as it did. -/
def litQuotesUptoRow : OpenClaim := { program := "ytehflgllfkkfoaadoor", sum := "99ffeb5b6408fc6df8da90d8461f35b294eadbf1967e23cb859218ef9400af21", func := "demotic/demoticlaw03.LitQuotes", spec := "litQuotes", inPlace := ["internal/abi.NoEscape", "internal/bytealg.IndexByteString", "internal/bytealg.CountString", "internal/bytealg.IndexString", "internal/bytealg.MakeNoZero"], unfollowed := true, recurses := true, named := ["unicode/utf8.first", "unicode/utf8.acceptRanges", "internal/bytealg.MaxLen"], apart := false, laid := [("unicode/utf8.acceptRanges", laid_unicode_utf8_acceptRanges), ("unicode/utf8.first", laid_unicode_utf8_first)], narrowed := true }
def LitQuotesUptoSaid : Prop := litQuotesUptoRow.holds Tryd.pinned (OpenSpec.upto litQuotesSpec)

/-- 'demoticlaw03.LitTokens', WHERE WHAT IT READS IS OF BULK AT MOST 1048576: true; the input reads as it did. -/
def litTokensUptoRow : OpenClaim := { program := "ytehflgllfkkfoaadoor", sum := "99ffeb5b6408fc6df8da90d8461f35b294eadbf1967e23cb859218ef9400af21", func := "demotic/demoticlaw03.LitTokens", spec := "litTokens", inPlace := ["internal/abi.NoEscape", "internal/bytealg.IndexByteString", "internal/bytealg.CountString", "internal/bytealg.IndexString", "internal/bytealg.MakeNoZero"], unfollowed := true, recurses := true, named := ["unicode/utf8.first", "unicode/utf8.acceptRanges", "internal/bytealg.MaxLen"], apart := false, laid := [("unicode/utf8.acceptRanges", laid_unicode_utf8_acceptRanges), ("unicode/utf8.first", laid_unicode_utf8_first)], narrowed := true }
def LitTokensUptoSaid : Prop := litTokensUptoRow.holds Tryd.pinned (OpenSpec.upto litTokensSpec)

/-- 'demoticlaw03.LitBack', WHERE WHAT IT READS IS OF BULK AT MOST 1048576: true; the input reads as it did. -/
def litBackUptoRow : OpenClaim := { program := "ytehflgllfkkfoaadoor", sum := "99ffeb5b6408fc6df8da90d8461f35b294eadbf1967e23cb859218ef9400af21", func := "demotic/demoticlaw03.LitBack", spec := "litBack", inPlace := ["internal/abi.NoEscape", "internal/bytealg.IndexByteString", "internal/bytealg.CountString", "internal/bytealg.IndexString", "internal/bytealg.MakeNoZero"], unfollowed := true, recurses := true, named := ["unicode/utf8.first", "unicode/utf8.acceptRanges", "internal/bytealg.MaxLen"], apart := false, laid := [("unicode/utf8.acceptRanges", laid_unicode_utf8_acceptRanges), ("unicode/utf8.first", laid_unicode_utf8_first)], narrowed := true }
def LitBackUptoSaid : Prop := litBackUptoRow.holds Tryd.pinned (OpenSpec.upto litBackSpec)

end Rows
end Go.Proofs.YtehflgllfkkfoaaDoor
