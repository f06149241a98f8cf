/-
  DERIVED. GIVEN WITH THE SEED: THE CARDS: each row of YtmddkjmcbddhiaaDoorRows.lean that lists a variable, with what it lists TIED to the program's text (the seventh form; the later family's looks); each row that meets fmt, with fmt's text TOLD by the authors' own Lean function (tested against real Go, not proved from fmt's source: count such statements apart). THE CARD IS WHAT COUNTS. Prove the row's statement (the work); the ties are given (YtmddkjmcbddhiaaDoorTie.lean); close each card by the builder's one call (the guide's Derived/Test/ToyasCard.lean, 'card_holds'). Laid BY PROGRAM, IN A SANDBOX (cutbox-door.mjs). By AI agents, Wed Nov 11 2026. No macro, syntax, notation, axiom, sorry.
-/
import Derived.Test.YtmddkjmcbddhiaaDoorRows
import GoSem.ClaimSeven
namespace Go.Proofs.YtmddkjmcbddhiaaDoor
namespace Rows

/-- THE TIED CARD OF 'decklelaw13.QuoteTells'. -/
def quoteTellsCard : Claim7 := { stood := { row := quoteTellsRow, standIns := [], harness := (true, "e75f8648f61fa187785edb47c5fd1c1c78fda5489da90e32d93336a399363bb4"), looks := false }, kinds := [], alts := [], laidByText := true, laidKinds := [.data, .pinned], laidTests := true, laidLooks := .later }
def QuoteTellsCardSaid : Prop := Claim7.holds Tryd.pinned (.plain (OpenSpec.ofChange quoteTellsSpec)) quoteTellsCard

/-- THE TIED CARD OF 'decklelaw13.QuoteBack'. -/
def quoteBackCard : Claim7 := { stood := { row := quoteBackRow, standIns := [], harness := (true, "e75f8648f61fa187785edb47c5fd1c1c78fda5489da90e32d93336a399363bb4"), looks := false }, kinds := [], alts := [], laidByText := true, laidKinds := [.data, .pinned], laidTests := true, laidLooks := .later }
def QuoteBackCardSaid : Prop := Claim7.holds Tryd.pinned (.plain (OpenSpec.ofChange quoteBackSpec)) quoteBackCard

/-- THE TIED CARD OF 'decklelaw13.QuoteOnce'. -/
def quoteOnceCard : Claim7 := { stood := { row := quoteOnceRow, standIns := [], harness := (true, "e75f8648f61fa187785edb47c5fd1c1c78fda5489da90e32d93336a399363bb4"), looks := false }, kinds := [], alts := [], laidByText := true, laidKinds := [.data, .pinned], laidTests := true, laidLooks := .later }
def QuoteOnceCardSaid : Prop := Claim7.holds Tryd.pinned (.plain (OpenSpec.ofChange quoteOnceSpec)) quoteOnceCard

/-- THE TIED CARD OF 'decklelaw13.QuoteParts'. -/
def quotePartsCard : Claim7 := { stood := { row := quotePartsRow, standIns := [], harness := (true, "e75f8648f61fa187785edb47c5fd1c1c78fda5489da90e32d93336a399363bb4"), looks := false }, kinds := [], alts := [], laidByText := true, laidKinds := [.data, .pinned], laidTests := true, laidLooks := .later }
def QuotePartsCardSaid : Prop := Claim7.holds Tryd.pinned (.plain (OpenSpec.ofChange quotePartsSpec)) quotePartsCard

/-- THE TIED CARD OF 'decklelaw13.QuoteCounts'. -/
def quoteCountsCard : Claim7 := { stood := { row := quoteCountsRow, standIns := [], harness := (true, "e75f8648f61fa187785edb47c5fd1c1c78fda5489da90e32d93336a399363bb4"), looks := false }, kinds := [], alts := [], laidByText := true, laidKinds := [.data, .pinned], laidTests := true, laidLooks := .later }
def QuoteCountsCardSaid : Prop := Claim7.holds Tryd.pinned (.plain (OpenSpec.ofChange quoteCountsSpec)) quoteCountsCard

/-- THE TIED CARD OF 'decklelaw16.FunctionTells'. -/
def functionTellsCard : Claim7 := { stood := { row := functionTellsRow, standIns := [], harness := (true, "e75f8648f61fa187785edb47c5fd1c1c78fda5489da90e32d93336a399363bb4"), looks := false }, kinds := [], alts := [], laidByText := true, laidKinds := [.data, .pinned], laidTests := true, laidLooks := .later }
def FunctionTellsCardSaid : Prop := Claim7.holds Tryd.pinned (.plain (OpenSpec.ofChange functionTellsSpec)) functionTellsCard

/-- THE TIED CARD OF 'decklelaw16.FunctionBack'. -/
def functionBackCard : Claim7 := { stood := { row := functionBackRow, standIns := [], harness := (true, "e75f8648f61fa187785edb47c5fd1c1c78fda5489da90e32d93336a399363bb4"), looks := false }, kinds := [], alts := [], laidByText := true, laidKinds := [.data, .pinned], laidTests := true, laidLooks := .later }
def FunctionBackCardSaid : Prop := Claim7.holds Tryd.pinned (.plain (OpenSpec.ofChange functionBackSpec)) functionBackCard

/-- THE TIED CARD OF 'decklelaw16.FunctionNames'. -/
def functionNamesCard : Claim7 := { stood := { row := functionNamesRow, standIns := [], harness := (true, "e75f8648f61fa187785edb47c5fd1c1c78fda5489da90e32d93336a399363bb4"), looks := false }, kinds := [], alts := [], laidByText := true, laidKinds := [.data, .pinned], laidTests := true, laidLooks := .later }
def FunctionNamesCardSaid : Prop := Claim7.holds Tryd.pinned (.plain (OpenSpec.ofChange functionNamesSpec)) functionNamesCard

/-- THE TIED CARD OF 'decklelaw16.FunctionMore'. -/
def functionMoreCard : Claim7 := { stood := { row := functionMoreRow, standIns := [], harness := (true, "e75f8648f61fa187785edb47c5fd1c1c78fda5489da90e32d93336a399363bb4"), looks := false }, kinds := [], alts := [], laidByText := true, laidKinds := [.data, .pinned], laidTests := true, laidLooks := .later }
def FunctionMoreCardSaid : Prop := Claim7.holds Tryd.pinned (.plain (OpenSpec.ofChange functionMoreSpec)) functionMoreCard

/-- THE TIED CARD OF 'decklelaw16.FunctionHead'. -/
def functionHeadCard : Claim7 := { stood := { row := functionHeadRow, standIns := [], harness := (true, "e75f8648f61fa187785edb47c5fd1c1c78fda5489da90e32d93336a399363bb4"), looks := false }, kinds := [], alts := [], laidByText := true, laidKinds := [.data, .pinned], laidTests := true, laidLooks := .later }
def FunctionHeadCardSaid : Prop := Claim7.holds Tryd.pinned (.plain (OpenSpec.ofChange functionHeadSpec)) functionHeadCard

/-- THE SECOND FORM's CARD OF 'decklelaw13.QuoteTells'. -/
def quoteTellsUptoCard : Claim7 := { stood := { row := quoteTellsUptoRow, standIns := [], harness := (true, "e75f8648f61fa187785edb47c5fd1c1c78fda5489da90e32d93336a399363bb4"), looks := false }, kinds := [], alts := [], laidByText := true, laidKinds := [.data, .pinned], laidTests := true, laidLooks := .later }
def QuoteTellsUptoCardSaid : Prop := Claim7.holds Tryd.pinned (.plain (OpenSpec.upto quoteTellsSpec)) quoteTellsUptoCard

/-- THE SECOND FORM's CARD OF 'decklelaw13.QuoteBack'. -/
def quoteBackUptoCard : Claim7 := { stood := { row := quoteBackUptoRow, standIns := [], harness := (true, "e75f8648f61fa187785edb47c5fd1c1c78fda5489da90e32d93336a399363bb4"), looks := false }, kinds := [], alts := [], laidByText := true, laidKinds := [.data, .pinned], laidTests := true, laidLooks := .later }
def QuoteBackUptoCardSaid : Prop := Claim7.holds Tryd.pinned (.plain (OpenSpec.upto quoteBackSpec)) quoteBackUptoCard

/-- THE SECOND FORM's CARD OF 'decklelaw13.QuoteOnce'. -/
def quoteOnceUptoCard : Claim7 := { stood := { row := quoteOnceUptoRow, standIns := [], harness := (true, "e75f8648f61fa187785edb47c5fd1c1c78fda5489da90e32d93336a399363bb4"), looks := false }, kinds := [], alts := [], laidByText := true, laidKinds := [.data, .pinned], laidTests := true, laidLooks := .later }
def QuoteOnceUptoCardSaid : Prop := Claim7.holds Tryd.pinned (.plain (OpenSpec.upto quoteOnceSpec)) quoteOnceUptoCard

/-- THE SECOND FORM's CARD OF 'decklelaw13.QuoteParts'. -/
def quotePartsUptoCard : Claim7 := { stood := { row := quotePartsUptoRow, standIns := [], harness := (true, "e75f8648f61fa187785edb47c5fd1c1c78fda5489da90e32d93336a399363bb4"), looks := false }, kinds := [], alts := [], laidByText := true, laidKinds := [.data, .pinned], laidTests := true, laidLooks := .later }
def QuotePartsUptoCardSaid : Prop := Claim7.holds Tryd.pinned (.plain (OpenSpec.upto quotePartsSpec)) quotePartsUptoCard

/-- THE SECOND FORM's CARD OF 'decklelaw13.QuoteCounts'. -/
def quoteCountsUptoCard : Claim7 := { stood := { row := quoteCountsUptoRow, standIns := [], harness := (true, "e75f8648f61fa187785edb47c5fd1c1c78fda5489da90e32d93336a399363bb4"), looks := false }, kinds := [], alts := [], laidByText := true, laidKinds := [.data, .pinned], laidTests := true, laidLooks := .later }
def QuoteCountsUptoCardSaid : Prop := Claim7.holds Tryd.pinned (.plain (OpenSpec.upto quoteCountsSpec)) quoteCountsUptoCard

/-- THE SECOND FORM's CARD OF 'decklelaw16.FunctionTells'. -/
def functionTellsUptoCard : Claim7 := { stood := { row := functionTellsUptoRow, standIns := [], harness := (true, "e75f8648f61fa187785edb47c5fd1c1c78fda5489da90e32d93336a399363bb4"), looks := false }, kinds := [], alts := [], laidByText := true, laidKinds := [.data, .pinned], laidTests := true, laidLooks := .later }
def FunctionTellsUptoCardSaid : Prop := Claim7.holds Tryd.pinned (.plain (OpenSpec.upto functionTellsSpec)) functionTellsUptoCard

/-- THE SECOND FORM's CARD OF 'decklelaw16.FunctionBack'. -/
def functionBackUptoCard : Claim7 := { stood := { row := functionBackUptoRow, standIns := [], harness := (true, "e75f8648f61fa187785edb47c5fd1c1c78fda5489da90e32d93336a399363bb4"), looks := false }, kinds := [], alts := [], laidByText := true, laidKinds := [.data, .pinned], laidTests := true, laidLooks := .later }
def FunctionBackUptoCardSaid : Prop := Claim7.holds Tryd.pinned (.plain (OpenSpec.upto functionBackSpec)) functionBackUptoCard

/-- THE SECOND FORM's CARD OF 'decklelaw16.FunctionNames'. -/
def functionNamesUptoCard : Claim7 := { stood := { row := functionNamesUptoRow, standIns := [], harness := (true, "e75f8648f61fa187785edb47c5fd1c1c78fda5489da90e32d93336a399363bb4"), looks := false }, kinds := [], alts := [], laidByText := true, laidKinds := [.data, .pinned], laidTests := true, laidLooks := .later }
def FunctionNamesUptoCardSaid : Prop := Claim7.holds Tryd.pinned (.plain (OpenSpec.upto functionNamesSpec)) functionNamesUptoCard

/-- THE SECOND FORM's CARD OF 'decklelaw16.FunctionMore'. -/
def functionMoreUptoCard : Claim7 := { stood := { row := functionMoreUptoRow, standIns := [], harness := (true, "e75f8648f61fa187785edb47c5fd1c1c78fda5489da90e32d93336a399363bb4"), looks := false }, kinds := [], alts := [], laidByText := true, laidKinds := [.data, .pinned], laidTests := true, laidLooks := .later }
def FunctionMoreUptoCardSaid : Prop := Claim7.holds Tryd.pinned (.plain (OpenSpec.upto functionMoreSpec)) functionMoreUptoCard

/-- THE SECOND FORM's CARD OF 'decklelaw16.FunctionHead'. -/
def functionHeadUptoCard : Claim7 := { stood := { row := functionHeadUptoRow, standIns := [], harness := (true, "e75f8648f61fa187785edb47c5fd1c1c78fda5489da90e32d93336a399363bb4"), looks := false }, kinds := [], alts := [], laidByText := true, laidKinds := [.data, .pinned], laidTests := true, laidLooks := .later }
def FunctionHeadUptoCardSaid : Prop := Claim7.holds Tryd.pinned (.plain (OpenSpec.upto functionHeadSpec)) functionHeadUptoCard
end Rows
end Go.Proofs.YtmddkjmcbddhiaaDoor
