/-
  NARROWER THAN 'FOR EVERY INPUT', by the rows' own cells (each row's printed sentence says how): QuoteTells: laid · QuoteBack: laid · QuoteOnce: laid · QuoteParts: laid · QuoteCounts: laid · FunctionTells: laid · FunctionBack: laid · FunctionNames: laid · FunctionMore: laid · FunctionHead: laid.
  DERIVED. THE GIVEN ROWS OF THIS SEAT. 10 by the template 'for every input the law returns true; each argument reads behind the call as it read before'; 0 by the template 'total and deterministic' (their statements: YtmddkjmcbddhiaaDoorTotals.lean).
  GIVEN WITH THE SEED: the statements are not yours to turn. If you find one false, say at which input.
  Laid BY PROGRAM, IN A SANDBOX (cutbox-rows.mjs): the forced cells as the released guide's own fill.sh prints them over the translation 2214d8be5b0e0450… (all of the seat's roots in one cut). By AI agents, Wed Nov 11 2026. No macro, syntax, notation, axiom, sorry.
-/
import Derived.Test.YtmddkjmcbddhiaaDoorChecked
import GoSem.PinnedTables
import GoSem.Claim
import GoSem.ClaimJoined
import GoSem.ClaimMapViews
import Derived.JoinedTies
import Derived.KernelRfl
namespace Go.Proofs.YtmddkjmcbddhiaaDoor
/- THE CELL 'sum', in the pinned program and in every row, IS THE sha256 OF THE DUMP (.gsa) THAT YtmddkjmcbddhiaaDoorProg.lean LOADS. Nothing in Lean hashes anything: it is a label: what it is worth is what the hold of that sum in a sandbox is worth. -/
noncomputable def Tryd.pinned : Pinned := { name := "ytmddkjmcbddhiaadoor", sum := "2214d8be5b0e0450a6d74c534d2764235950c1d7626b936be135c1e19c60574a", checked := Tryd.checked }
namespace Rows
def none {H : Type} : Left H := { results := [], args := [] }

/- WHAT THE LISTED PACKAGE-LEVEL VARIABLES READ AS WHEN THE CALL BEGINS. Each datum BY PROGRAM (the guide's laid-datum.mjs) off the statement by which the dump's own 'gosem.cut.vars' lays the variable. In a bare row this is a premise. The card (YtmddkjmcbddhiaaDoorCards.lean) ties it to the program's text. -/
def laid_unicode_utf8_acceptRanges {H : Type} : DataW H := .agg [.agg [.lit (.int .u8 128), .lit (.int .u8 191)], .agg [.lit (.int .u8 160), .lit (.int .u8 191)], .agg [.lit (.int .u8 128), .lit (.int .u8 159)], .agg [.lit (.int .u8 144), .lit (.int .u8 191)], .agg [.lit (.int .u8 128), .lit (.int .u8 143)], .agg [.lit (.int .u8 0), .lit (.int .u8 0)], .agg [.lit (.int .u8 0), .lit (.int .u8 0)], .agg [.lit (.int .u8 0), .lit (.int .u8 0)], .agg [.lit (.int .u8 0), .lit (.int .u8 0)], .agg [.lit (.int .u8 0), .lit (.int .u8 0)], .agg [.lit (.int .u8 0), .lit (.int .u8 0)], .agg [.lit (.int .u8 0), .lit (.int .u8 0)], .agg [.lit (.int .u8 0), .lit (.int .u8 0)], .agg [.lit (.int .u8 0), .lit (.int .u8 0)], .agg [.lit (.int .u8 0), .lit (.int .u8 0)], .agg [.lit (.int .u8 0), .lit (.int .u8 0)]]
/-- One of Go's own tables, pinned by name: the form's constant. -/
def laid_unicode_utf8_first : DataW Unit := Go.Pinned.utf8First

/-- 'decklelaw13.QuoteTells': WHATEVER THE INPUT: true; the input reads as it did. -/
def quoteTellsSpec : ChangeSpec := { name := "quoteTells", fn := fun _ => fun
  | [d1, d2] => { results := [.lit (.bool true)], args := [d1, d2] }
  | _ => none }
def quoteTellsRow : OpenClaim := { program := "ytmddkjmcbddhiaadoor", sum := "2214d8be5b0e0450a6d74c534d2764235950c1d7626b936be135c1e19c60574a", func := "deckle/decklelaw13.QuoteTells", spec := "quoteTells", inPlace := ["internal/abi.NoEscape", "internal/bytealg.CountString", "internal/bytealg.IndexByteString", "internal/bytealg.IndexString", "internal/bytealg.MakeNoZero"], named := ["unicode/utf8.first", "unicode/utf8.acceptRanges", "internal/bytealg.MaxLen"], apart := false, laid := [("unicode/utf8.acceptRanges", laid_unicode_utf8_acceptRanges), ("unicode/utf8.first", laid_unicode_utf8_first)] }
def QuoteTellsSaid : Prop := quoteTellsRow.holds Tryd.pinned (OpenSpec.ofChange quoteTellsSpec)

/-- ITS FALSE NEIGHBOUR: 'it returns false'. Refute it at one input. -/
def quoteTellsWrong : ChangeSpec := { name := "quoteTells", fn := fun _ => fun
  | [d1, d2] => { results := [.lit (.bool false)], args := [d1, d2] }
  | _ => none }
def QuoteTellsWrongFalsely : Prop := quoteTellsRow.holds Tryd.pinned (OpenSpec.ofChange quoteTellsWrong)

/-- 'decklelaw13.QuoteBack': WHATEVER THE INPUT: true; the input reads as it did. -/
def quoteBackSpec : ChangeSpec := { name := "quoteBack", fn := fun _ => fun
  | [d1, d2] => { results := [.lit (.bool true)], args := [d1, d2] }
  | _ => none }
def quoteBackRow : OpenClaim := { program := "ytmddkjmcbddhiaadoor", sum := "2214d8be5b0e0450a6d74c534d2764235950c1d7626b936be135c1e19c60574a", func := "deckle/decklelaw13.QuoteBack", spec := "quoteBack", inPlace := ["internal/abi.NoEscape", "internal/bytealg.CountString", "internal/bytealg.IndexByteString", "internal/bytealg.IndexString", "internal/bytealg.MakeNoZero"], named := ["unicode/utf8.first", "unicode/utf8.acceptRanges", "internal/bytealg.MaxLen"], apart := false, laid := [("unicode/utf8.acceptRanges", laid_unicode_utf8_acceptRanges), ("unicode/utf8.first", laid_unicode_utf8_first)] }
def QuoteBackSaid : Prop := quoteBackRow.holds Tryd.pinned (OpenSpec.ofChange quoteBackSpec)

/-- ITS FALSE NEIGHBOUR: 'it returns false'. Refute it at one input. -/
def quoteBackWrong : ChangeSpec := { name := "quoteBack", fn := fun _ => fun
  | [d1, d2] => { results := [.lit (.bool false)], args := [d1, d2] }
  | _ => none }
def QuoteBackWrongFalsely : Prop := quoteBackRow.holds Tryd.pinned (OpenSpec.ofChange quoteBackWrong)

/-- 'decklelaw13.QuoteOnce': WHATEVER THE INPUT: true; the input reads as it did. -/
def quoteOnceSpec : ChangeSpec := { name := "quoteOnce", fn := fun _ => fun
  | [d] => { results := [.lit (.bool true)], args := [d] }
  | _ => none }
def quoteOnceRow : OpenClaim := { program := "ytmddkjmcbddhiaadoor", sum := "2214d8be5b0e0450a6d74c534d2764235950c1d7626b936be135c1e19c60574a", func := "deckle/decklelaw13.QuoteOnce", spec := "quoteOnce", inPlace := ["internal/abi.NoEscape", "internal/bytealg.CountString", "internal/bytealg.IndexByteString", "internal/bytealg.IndexString", "internal/bytealg.MakeNoZero"], named := ["unicode/utf8.first", "unicode/utf8.acceptRanges", "internal/bytealg.MaxLen"], apart := false, laid := [("unicode/utf8.acceptRanges", laid_unicode_utf8_acceptRanges), ("unicode/utf8.first", laid_unicode_utf8_first)] }
def QuoteOnceSaid : Prop := quoteOnceRow.holds Tryd.pinned (OpenSpec.ofChange quoteOnceSpec)

/-- ITS FALSE NEIGHBOUR: 'it returns false'. Refute it at one input. -/
def quoteOnceWrong : ChangeSpec := { name := "quoteOnce", fn := fun _ => fun
  | [d] => { results := [.lit (.bool false)], args := [d] }
  | _ => none }
def QuoteOnceWrongFalsely : Prop := quoteOnceRow.holds Tryd.pinned (OpenSpec.ofChange quoteOnceWrong)

/-- 'decklelaw13.QuoteParts': WHATEVER THE INPUT: true; the input reads as it did. -/
def quotePartsSpec : ChangeSpec := { name := "quoteParts", fn := fun _ => fun
  | [d1, d2] => { results := [.lit (.bool true)], args := [d1, d2] }
  | _ => none }
def quotePartsRow : OpenClaim := { program := "ytmddkjmcbddhiaadoor", sum := "2214d8be5b0e0450a6d74c534d2764235950c1d7626b936be135c1e19c60574a", func := "deckle/decklelaw13.QuoteParts", spec := "quoteParts", inPlace := ["internal/abi.NoEscape", "internal/bytealg.CountString", "internal/bytealg.IndexByteString", "internal/bytealg.IndexString", "internal/bytealg.MakeNoZero"], named := ["unicode/utf8.first", "unicode/utf8.acceptRanges", "internal/bytealg.MaxLen"], apart := false, laid := [("unicode/utf8.acceptRanges", laid_unicode_utf8_acceptRanges), ("unicode/utf8.first", laid_unicode_utf8_first)] }
def QuotePartsSaid : Prop := quotePartsRow.holds Tryd.pinned (OpenSpec.ofChange quotePartsSpec)

/-- ITS FALSE NEIGHBOUR: 'it returns false'. Refute it at one input. -/
def quotePartsWrong : ChangeSpec := { name := "quoteParts", fn := fun _ => fun
  | [d1, d2] => { results := [.lit (.bool false)], args := [d1, d2] }
  | _ => none }
def QuotePartsWrongFalsely : Prop := quotePartsRow.holds Tryd.pinned (OpenSpec.ofChange quotePartsWrong)

/-- 'decklelaw13.QuoteCounts': WHATEVER THE INPUT: true; the input reads as it did. -/
def quoteCountsSpec : ChangeSpec := { name := "quoteCounts", fn := fun _ => fun
  | [d] => { results := [.lit (.bool true)], args := [d] }
  | _ => none }
def quoteCountsRow : OpenClaim := { program := "ytmddkjmcbddhiaadoor", sum := "2214d8be5b0e0450a6d74c534d2764235950c1d7626b936be135c1e19c60574a", func := "deckle/decklelaw13.QuoteCounts", spec := "quoteCounts", inPlace := ["internal/abi.NoEscape", "internal/bytealg.CountString", "internal/bytealg.IndexByteString", "internal/bytealg.IndexString", "internal/bytealg.MakeNoZero"], named := ["unicode/utf8.first", "unicode/utf8.acceptRanges", "internal/bytealg.MaxLen"], apart := false, laid := [("unicode/utf8.acceptRanges", laid_unicode_utf8_acceptRanges), ("unicode/utf8.first", laid_unicode_utf8_first)] }
def QuoteCountsSaid : Prop := quoteCountsRow.holds Tryd.pinned (OpenSpec.ofChange quoteCountsSpec)

/-- ITS FALSE NEIGHBOUR: 'it returns false'. Refute it at one input. -/
def quoteCountsWrong : ChangeSpec := { name := "quoteCounts", fn := fun _ => fun
  | [d] => { results := [.lit (.bool false)], args := [d] }
  | _ => none }
def QuoteCountsWrongFalsely : Prop := quoteCountsRow.holds Tryd.pinned (OpenSpec.ofChange quoteCountsWrong)

/-- 'decklelaw16.FunctionTells': WHATEVER THE INPUT: true; the input reads as it did. -/
def functionTellsSpec : ChangeSpec := { name := "functionTells", fn := fun _ => fun
  | [d1, d2] => { results := [.lit (.bool true)], args := [d1, d2] }
  | _ => none }
def functionTellsRow : OpenClaim := { program := "ytmddkjmcbddhiaadoor", sum := "2214d8be5b0e0450a6d74c534d2764235950c1d7626b936be135c1e19c60574a", func := "deckle/decklelaw16.FunctionTells", spec := "functionTells", inPlace := ["internal/abi.NoEscape", "internal/bytealg.MakeNoZero", "internal/bytealg.CountString", "internal/bytealg.IndexByteString", "internal/bytealg.IndexString"], unfollowed := true, recurses := true, named := ["unicode/utf8.first", "unicode/utf8.acceptRanges", "internal/bytealg.MaxLen"], apart := false, laid := [("unicode/utf8.acceptRanges", laid_unicode_utf8_acceptRanges), ("unicode/utf8.first", laid_unicode_utf8_first)] }
def FunctionTellsSaid : Prop := functionTellsRow.holds Tryd.pinned (OpenSpec.ofChange functionTellsSpec)

/-- ITS FALSE NEIGHBOUR: 'it returns false'. Refute it at one input. -/
def functionTellsWrong : ChangeSpec := { name := "functionTells", fn := fun _ => fun
  | [d1, d2] => { results := [.lit (.bool false)], args := [d1, d2] }
  | _ => none }
def FunctionTellsWrongFalsely : Prop := functionTellsRow.holds Tryd.pinned (OpenSpec.ofChange functionTellsWrong)

/-- 'decklelaw16.FunctionBack': WHATEVER THE INPUT: true; the input reads as it did. -/
def functionBackSpec : ChangeSpec := { name := "functionBack", fn := fun _ => fun
  | [d1, d2] => { results := [.lit (.bool true)], args := [d1, d2] }
  | _ => none }
def functionBackRow : OpenClaim := { program := "ytmddkjmcbddhiaadoor", sum := "2214d8be5b0e0450a6d74c534d2764235950c1d7626b936be135c1e19c60574a", func := "deckle/decklelaw16.FunctionBack", spec := "functionBack", inPlace := ["internal/abi.NoEscape", "internal/bytealg.MakeNoZero", "internal/bytealg.CountString", "internal/bytealg.IndexByteString", "internal/bytealg.IndexString"], unfollowed := true, recurses := true, named := ["unicode/utf8.first", "unicode/utf8.acceptRanges", "internal/bytealg.MaxLen"], apart := false, laid := [("unicode/utf8.acceptRanges", laid_unicode_utf8_acceptRanges), ("unicode/utf8.first", laid_unicode_utf8_first)] }
def FunctionBackSaid : Prop := functionBackRow.holds Tryd.pinned (OpenSpec.ofChange functionBackSpec)

/-- ITS FALSE NEIGHBOUR: 'it returns false'. Refute it at one input. -/
def functionBackWrong : ChangeSpec := { name := "functionBack", fn := fun _ => fun
  | [d1, d2] => { results := [.lit (.bool false)], args := [d1, d2] }
  | _ => none }
def FunctionBackWrongFalsely : Prop := functionBackRow.holds Tryd.pinned (OpenSpec.ofChange functionBackWrong)

/-- 'decklelaw16.FunctionNames': WHATEVER THE INPUT: true; the input reads as it did. -/
def functionNamesSpec : ChangeSpec := { name := "functionNames", fn := fun _ => fun
  | [d] => { results := [.lit (.bool true)], args := [d] }
  | _ => none }
def functionNamesRow : OpenClaim := { program := "ytmddkjmcbddhiaadoor", sum := "2214d8be5b0e0450a6d74c534d2764235950c1d7626b936be135c1e19c60574a", func := "deckle/decklelaw16.FunctionNames", spec := "functionNames", inPlace := ["internal/abi.NoEscape", "internal/bytealg.MakeNoZero", "internal/bytealg.CountString", "internal/bytealg.IndexByteString", "internal/bytealg.IndexString"], unfollowed := true, recurses := true, named := ["unicode/utf8.first", "unicode/utf8.acceptRanges", "internal/bytealg.MaxLen"], apart := false, laid := [("unicode/utf8.acceptRanges", laid_unicode_utf8_acceptRanges), ("unicode/utf8.first", laid_unicode_utf8_first)] }
def FunctionNamesSaid : Prop := functionNamesRow.holds Tryd.pinned (OpenSpec.ofChange functionNamesSpec)

/-- ITS FALSE NEIGHBOUR: 'it returns false'. Refute it at one input. -/
def functionNamesWrong : ChangeSpec := { name := "functionNames", fn := fun _ => fun
  | [d] => { results := [.lit (.bool false)], args := [d] }
  | _ => none }
def FunctionNamesWrongFalsely : Prop := functionNamesRow.holds Tryd.pinned (OpenSpec.ofChange functionNamesWrong)

/-- 'decklelaw16.FunctionMore': WHATEVER THE INPUT: true; the input reads as it did. -/
def functionMoreSpec : ChangeSpec := { name := "functionMore", fn := fun _ => fun
  | [d1, d2] => { results := [.lit (.bool true)], args := [d1, d2] }
  | _ => none }
def functionMoreRow : OpenClaim := { program := "ytmddkjmcbddhiaadoor", sum := "2214d8be5b0e0450a6d74c534d2764235950c1d7626b936be135c1e19c60574a", func := "deckle/decklelaw16.FunctionMore", spec := "functionMore", inPlace := ["internal/abi.NoEscape", "internal/bytealg.MakeNoZero", "internal/bytealg.CountString", "internal/bytealg.IndexByteString", "internal/bytealg.IndexString"], unfollowed := true, recurses := true, named := ["unicode/utf8.first", "unicode/utf8.acceptRanges", "internal/bytealg.MaxLen"], apart := false, laid := [("unicode/utf8.acceptRanges", laid_unicode_utf8_acceptRanges), ("unicode/utf8.first", laid_unicode_utf8_first)] }
def FunctionMoreSaid : Prop := functionMoreRow.holds Tryd.pinned (OpenSpec.ofChange functionMoreSpec)

/-- ITS FALSE NEIGHBOUR: 'it returns false'. Refute it at one input. -/
def functionMoreWrong : ChangeSpec := { name := "functionMore", fn := fun _ => fun
  | [d1, d2] => { results := [.lit (.bool false)], args := [d1, d2] }
  | _ => none }
def FunctionMoreWrongFalsely : Prop := functionMoreRow.holds Tryd.pinned (OpenSpec.ofChange functionMoreWrong)

/-- 'decklelaw16.FunctionHead': WHATEVER THE INPUT: true; the input reads as it did. -/
def functionHeadSpec : ChangeSpec := { name := "functionHead", fn := fun _ => fun
  | [d] => { results := [.lit (.bool true)], args := [d] }
  | _ => none }
def functionHeadRow : OpenClaim := { program := "ytmddkjmcbddhiaadoor", sum := "2214d8be5b0e0450a6d74c534d2764235950c1d7626b936be135c1e19c60574a", func := "deckle/decklelaw16.FunctionHead", spec := "functionHead", inPlace := ["internal/abi.NoEscape", "internal/bytealg.MakeNoZero", "internal/bytealg.CountString", "internal/bytealg.IndexByteString", "internal/bytealg.IndexString"], unfollowed := true, recurses := true, named := ["unicode/utf8.first", "unicode/utf8.acceptRanges", "internal/bytealg.MaxLen"], apart := false, laid := [("unicode/utf8.acceptRanges", laid_unicode_utf8_acceptRanges), ("unicode/utf8.first", laid_unicode_utf8_first)] }
def FunctionHeadSaid : Prop := functionHeadRow.holds Tryd.pinned (OpenSpec.ofChange functionHeadSpec)

/-- ITS FALSE NEIGHBOUR: 'it returns false'. Refute it at one input. -/
def functionHeadWrong : ChangeSpec := { name := "functionHead", fn := fun _ => fun
  | [d] => { results := [.lit (.bool false)], args := [d] }
  | _ => none }
def FunctionHeadWrongFalsely : Prop := functionHeadRow.holds Tryd.pinned (OpenSpec.ofChange functionHeadWrong)

/- THE SECOND FORM. 'bulk': how many values and letters a reading holds, each counted each time it is reached (what is shared counts as often as it is met; a slice's spare places count too). A statement '..UptoSaid' is the law's where the arguments, and the package variables that the reading takes, are together of bulk at most 1048576: NARROWER than '..Said'. Prove '..Said' where nothing that the law and all that it calls make is longer than what came in: it says more and counts as full. Else prove '..UptoSaid'. A law counts once. -/
mutual
def uptoBulk {H : Type} : DataW H → Nat
  | .lit (.string bytes) => bytes.length + 1
  | .lit _ => 1
  | .nil => 1
  | .ptr d => uptoBulk d + 1
  | .slice elems spare => uptoBulkAll elems + uptoBulkAll spare + 1
  | .agg parts => uptoBulkAll parts + 1
  | .iface _ d => uptoBulk d + 1
  | .map entries => uptoBulkEntries entries + 1
  | .held _ => 1
def uptoBulkAll {H : Type} : List (DataW H) → Nat
  | [] => 0
  | d :: r => uptoBulk d + uptoBulkAll r
def uptoBulkEntries {H : Type} : List (Lit × DataW H) → Nat
  | [] => 0
  | x :: r => uptoBulkEntry x + uptoBulkEntries r
def uptoBulkEntry {H : Type} : Lit × DataW H → Nat
  | (.string bytes, d) => bytes.length + uptoBulk d + 1
  | (_, d) => uptoBulk d + 1
 end
def uptoSmall : (H : Type) → List (DataW H) → Bool := fun _ ds => decide (uptoBulkAll ds ≤ 1048576)
def OpenSpec.upto (s : _root_.Go.ChangeSpec) : _root_.Go.OpenSpec := { _root_.Go.OpenSpec.ofChange s with cond := some uptoSmall }

/-- 'decklelaw13.QuoteTells', WHERE WHAT IT READS IS OF BULK AT MOST 1048576: true; the input reads as it did. -/
def quoteTellsUptoRow : OpenClaim := { program := "ytmddkjmcbddhiaadoor", sum := "2214d8be5b0e0450a6d74c534d2764235950c1d7626b936be135c1e19c60574a", func := "deckle/decklelaw13.QuoteTells", spec := "quoteTells", inPlace := ["internal/abi.NoEscape", "internal/bytealg.CountString", "internal/bytealg.IndexByteString", "internal/bytealg.IndexString", "internal/bytealg.MakeNoZero"], named := ["unicode/utf8.first", "unicode/utf8.acceptRanges", "internal/bytealg.MaxLen"], apart := false, laid := [("unicode/utf8.acceptRanges", laid_unicode_utf8_acceptRanges), ("unicode/utf8.first", laid_unicode_utf8_first)], narrowed := true }
def QuoteTellsUptoSaid : Prop := quoteTellsUptoRow.holds Tryd.pinned (OpenSpec.upto quoteTellsSpec)

/-- 'decklelaw13.QuoteBack', WHERE WHAT IT READS IS OF BULK AT MOST 1048576: true; the input reads as it did. -/
def quoteBackUptoRow : OpenClaim := { program := "ytmddkjmcbddhiaadoor", sum := "2214d8be5b0e0450a6d74c534d2764235950c1d7626b936be135c1e19c60574a", func := "deckle/decklelaw13.QuoteBack", spec := "quoteBack", inPlace := ["internal/abi.NoEscape", "internal/bytealg.CountString", "internal/bytealg.IndexByteString", "internal/bytealg.IndexString", "internal/bytealg.MakeNoZero"], named := ["unicode/utf8.first", "unicode/utf8.acceptRanges", "internal/bytealg.MaxLen"], apart := false, laid := [("unicode/utf8.acceptRanges", laid_unicode_utf8_acceptRanges), ("unicode/utf8.first", laid_unicode_utf8_first)], narrowed := true }
def QuoteBackUptoSaid : Prop := quoteBackUptoRow.holds Tryd.pinned (OpenSpec.upto quoteBackSpec)

/-- 'decklelaw13.QuoteOnce', WHERE WHAT IT READS IS OF BULK AT MOST 1048576: true; the input reads as it did. -/
def quoteOnceUptoRow : OpenClaim := { program := "ytmddkjmcbddhiaadoor", sum := "2214d8be5b0e0450a6d74c534d2764235950c1d7626b936be135c1e19c60574a", func := "deckle/decklelaw13.QuoteOnce", spec := "quoteOnce", inPlace := ["internal/abi.NoEscape", "internal/bytealg.CountString", "internal/bytealg.IndexByteString", "internal/bytealg.IndexString", "internal/bytealg.MakeNoZero"], named := ["unicode/utf8.first", "unicode/utf8.acceptRanges", "internal/bytealg.MaxLen"], apart := false, laid := [("unicode/utf8.acceptRanges", laid_unicode_utf8_acceptRanges), ("unicode/utf8.first", laid_unicode_utf8_first)], narrowed := true }
def QuoteOnceUptoSaid : Prop := quoteOnceUptoRow.holds Tryd.pinned (OpenSpec.upto quoteOnceSpec)

/-- 'decklelaw13.QuoteParts', WHERE WHAT IT READS IS OF BULK AT MOST 1048576: true; the input reads as it did. -/
def quotePartsUptoRow : OpenClaim := { program := "ytmddkjmcbddhiaadoor", sum := "2214d8be5b0e0450a6d74c534d2764235950c1d7626b936be135c1e19c60574a", func := "deckle/decklelaw13.QuoteParts", spec := "quoteParts", inPlace := ["internal/abi.NoEscape", "internal/bytealg.CountString", "internal/bytealg.IndexByteString", "internal/bytealg.IndexString", "internal/bytealg.MakeNoZero"], named := ["unicode/utf8.first", "unicode/utf8.acceptRanges", "internal/bytealg.MaxLen"], apart := false, laid := [("unicode/utf8.acceptRanges", laid_unicode_utf8_acceptRanges), ("unicode/utf8.first", laid_unicode_utf8_first)], narrowed := true }
def QuotePartsUptoSaid : Prop := quotePartsUptoRow.holds Tryd.pinned (OpenSpec.upto quotePartsSpec)

/-- 'decklelaw13.QuoteCounts', WHERE WHAT IT READS IS OF BULK AT MOST 1048576: true; the input reads as it did. -/
def quoteCountsUptoRow : OpenClaim := { program := "ytmddkjmcbddhiaadoor", sum := "2214d8be5b0e0450a6d74c534d2764235950c1d7626b936be135c1e19c60574a", func := "deckle/decklelaw13.QuoteCounts", spec := "quoteCounts", inPlace := ["internal/abi.NoEscape", "internal/bytealg.CountString", "internal/bytealg.IndexByteString", "internal/bytealg.IndexString", "internal/bytealg.MakeNoZero"], named := ["unicode/utf8.first", "unicode/utf8.acceptRanges", "internal/bytealg.MaxLen"], apart := false, laid := [("unicode/utf8.acceptRanges", laid_unicode_utf8_acceptRanges), ("unicode/utf8.first", laid_unicode_utf8_first)], narrowed := true }
def QuoteCountsUptoSaid : Prop := quoteCountsUptoRow.holds Tryd.pinned (OpenSpec.upto quoteCountsSpec)

/-- 'decklelaw16.FunctionTells', WHERE WHAT IT READS IS OF BULK AT MOST 1048576: true; the input reads as it did. -/
def functionTellsUptoRow : OpenClaim := { program := "ytmddkjmcbddhiaadoor", sum := "2214d8be5b0e0450a6d74c534d2764235950c1d7626b936be135c1e19c60574a", func := "deckle/decklelaw16.FunctionTells", spec := "functionTells", inPlace := ["internal/abi.NoEscape", "internal/bytealg.MakeNoZero", "internal/bytealg.CountString", "internal/bytealg.IndexByteString", "internal/bytealg.IndexString"], unfollowed := true, recurses := true, named := ["unicode/utf8.first", "unicode/utf8.acceptRanges", "internal/bytealg.MaxLen"], apart := false, laid := [("unicode/utf8.acceptRanges", laid_unicode_utf8_acceptRanges), ("unicode/utf8.first", laid_unicode_utf8_first)], narrowed := true }
def FunctionTellsUptoSaid : Prop := functionTellsUptoRow.holds Tryd.pinned (OpenSpec.upto functionTellsSpec)

/-- 'decklelaw16.FunctionBack', WHERE WHAT IT READS IS OF BULK AT MOST 1048576: true; the input reads as it did. -/
def functionBackUptoRow : OpenClaim := { program := "ytmddkjmcbddhiaadoor", sum := "2214d8be5b0e0450a6d74c534d2764235950c1d7626b936be135c1e19c60574a", func := "deckle/decklelaw16.FunctionBack", spec := "functionBack", inPlace := ["internal/abi.NoEscape", "internal/bytealg.MakeNoZero", "internal/bytealg.CountString", "internal/bytealg.IndexByteString", "internal/bytealg.IndexString"], unfollowed := true, recurses := true, named := ["unicode/utf8.first", "unicode/utf8.acceptRanges", "internal/bytealg.MaxLen"], apart := false, laid := [("unicode/utf8.acceptRanges", laid_unicode_utf8_acceptRanges), ("unicode/utf8.first", laid_unicode_utf8_first)], narrowed := true }
def FunctionBackUptoSaid : Prop := functionBackUptoRow.holds Tryd.pinned (OpenSpec.upto functionBackSpec)

/-- 'decklelaw16.FunctionNames', WHERE WHAT IT READS IS OF BULK AT MOST 1048576: true; the input reads as it did. -/
def functionNamesUptoRow : OpenClaim := { program := "ytmddkjmcbddhiaadoor", sum := "2214d8be5b0e0450a6d74c534d2764235950c1d7626b936be135c1e19c60574a", func := "deckle/decklelaw16.FunctionNames", spec := "functionNames", inPlace := ["internal/abi.NoEscape", "internal/bytealg.MakeNoZero", "internal/bytealg.CountString", "internal/bytealg.IndexByteString", "internal/bytealg.IndexString"], unfollowed := true, recurses := true, named := ["unicode/utf8.first", "unicode/utf8.acceptRanges", "internal/bytealg.MaxLen"], apart := false, laid := [("unicode/utf8.acceptRanges", laid_unicode_utf8_acceptRanges), ("unicode/utf8.first", laid_unicode_utf8_first)], narrowed := true }
def FunctionNamesUptoSaid : Prop := functionNamesUptoRow.holds Tryd.pinned (OpenSpec.upto functionNamesSpec)

/-- 'decklelaw16.FunctionMore', WHERE WHAT IT READS IS OF BULK AT MOST 1048576: true; the input reads as it did. -/
def functionMoreUptoRow : OpenClaim := { program := "ytmddkjmcbddhiaadoor", sum := "2214d8be5b0e0450a6d74c534d2764235950c1d7626b936be135c1e19c60574a", func := "deckle/decklelaw16.FunctionMore", spec := "functionMore", inPlace := ["internal/abi.NoEscape", "internal/bytealg.MakeNoZero", "internal/bytealg.CountString", "internal/bytealg.IndexByteString", "internal/bytealg.IndexString"], unfollowed := true, recurses := true, named := ["unicode/utf8.first", "unicode/utf8.acceptRanges", "internal/bytealg.MaxLen"], apart := false, laid := [("unicode/utf8.acceptRanges", laid_unicode_utf8_acceptRanges), ("unicode/utf8.first", laid_unicode_utf8_first)], narrowed := true }
def FunctionMoreUptoSaid : Prop := functionMoreUptoRow.holds Tryd.pinned (OpenSpec.upto functionMoreSpec)

/-- 'decklelaw16.FunctionHead', WHERE WHAT IT READS IS OF BULK AT MOST 1048576: true; the input reads as it did. -/
def functionHeadUptoRow : OpenClaim := { program := "ytmddkjmcbddhiaadoor", sum := "2214d8be5b0e0450a6d74c534d2764235950c1d7626b936be135c1e19c60574a", func := "deckle/decklelaw16.FunctionHead", spec := "functionHead", inPlace := ["internal/abi.NoEscape", "internal/bytealg.MakeNoZero", "internal/bytealg.CountString", "internal/bytealg.IndexByteString", "internal/bytealg.IndexString"], unfollowed := true, recurses := true, named := ["unicode/utf8.first", "unicode/utf8.acceptRanges", "internal/bytealg.MaxLen"], apart := false, laid := [("unicode/utf8.acceptRanges", laid_unicode_utf8_acceptRanges), ("unicode/utf8.first", laid_unicode_utf8_first)], narrowed := true }
def FunctionHeadUptoSaid : Prop := functionHeadUptoRow.holds Tryd.pinned (OpenSpec.upto functionHeadSpec)

end Rows
end Go.Proofs.YtmddkjmcbddhiaaDoor
