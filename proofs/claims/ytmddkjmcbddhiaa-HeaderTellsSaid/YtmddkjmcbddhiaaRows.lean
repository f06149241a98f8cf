/-
  No cell of these rows narrows 'for every input' (looked for: loops, veiled, ifaces, maps, wideKeys, modest, calm, conditions, laid).
  DERIVED. THE GIVEN ROWS OF THIS SEAT. 10 by the template 'for every input the law returns true; each argument reads behind the call as it read before'; 0 by the template 'total and deterministic' (their statements: YtmddkjmcbddhiaaTotals.lean).
  GIVEN WITH THE SEED: the statements are not yours to turn. If you find one false, say at which input.
  Laid BY PROGRAM, IN A SANDBOX (cutbox-rows.mjs): the forced cells as the released guide's own fill.sh prints them over the translation c0f5207746cb1db8… (all of the seat's roots in one cut). By AI agents, Wed Nov 11 2026. No macro, syntax, notation, axiom, sorry.
-/
import Derived.Test.YtmddkjmcbddhiaaChecked
import GoSem.Claim
import GoSem.ClaimJoined
import GoSem.ClaimMapViews
import Derived.JoinedTies
import Derived.KernelRfl
namespace Go.Proofs.Ytmddkjmcbddhiaa
/- THE CELL 'sum', in the pinned program and in every row, IS THE sha256 OF THE DUMP (.gsa) THAT YtmddkjmcbddhiaaProg.lean LOADS. Nothing in Lean hashes anything: it is a label: what it is worth is what the hold of that sum in a sandbox is worth. -/
noncomputable def Try.pinned : Pinned := { name := "ytmddkjmcbddhiaa", sum := "c0f5207746cb1db86eca266df7eb7d071742e1e14f823eaae1f039b526f4e78c", checked := Try.checked }
namespace Rows
def none {H : Type} : Left H := { results := [], args := [] }

/-- 'decklelaw08.NameTells': WHATEVER THE INPUT: true; the input reads as it did. -/
def nameTellsSpec : ChangeSpec := { name := "nameTells", fn := fun _ => fun
  | [d1, d2] => { results := [.lit (.bool true)], args := [d1, d2] }
  | _ => none }
def nameTellsRow : OpenClaim := { program := "ytmddkjmcbddhiaa", sum := "c0f5207746cb1db86eca266df7eb7d071742e1e14f823eaae1f039b526f4e78c", func := "deckle/decklelaw08.NameTells", spec := "nameTells", apart := false }
def NameTellsSaid : Prop := nameTellsRow.holds Try.pinned (OpenSpec.ofChange nameTellsSpec)

/-- ITS FALSE NEIGHBOUR: 'it returns false'. Refute it at one input. -/
def nameTellsWrong : ChangeSpec := { name := "nameTells", fn := fun _ => fun
  | [d1, d2] => { results := [.lit (.bool false)], args := [d1, d2] }
  | _ => none }
def NameTellsWrongFalsely : Prop := nameTellsRow.holds Try.pinned (OpenSpec.ofChange nameTellsWrong)

/-- 'decklelaw08.NameTaken': WHATEVER THE INPUT: true; the input reads as it did. -/
def nameTakenSpec : ChangeSpec := { name := "nameTaken", fn := fun _ => fun
  | [d] => { results := [.lit (.bool true)], args := [d] }
  | _ => none }
def nameTakenRow : OpenClaim := { program := "ytmddkjmcbddhiaa", sum := "c0f5207746cb1db86eca266df7eb7d071742e1e14f823eaae1f039b526f4e78c", func := "deckle/decklelaw08.NameTaken", spec := "nameTaken", apart := false }
def NameTakenSaid : Prop := nameTakenRow.holds Try.pinned (OpenSpec.ofChange nameTakenSpec)

/-- ITS FALSE NEIGHBOUR: 'it returns false'. Refute it at one input. -/
def nameTakenWrong : ChangeSpec := { name := "nameTaken", fn := fun _ => fun
  | [d] => { results := [.lit (.bool false)], args := [d] }
  | _ => none }
def NameTakenWrongFalsely : Prop := nameTakenRow.holds Try.pinned (OpenSpec.ofChange nameTakenWrong)

/-- 'decklelaw08.NameMore': WHATEVER THE INPUT: true; the input reads as it did. -/
def nameMoreSpec : ChangeSpec := { name := "nameMore", fn := fun _ => fun
  | [d1, d2] => { results := [.lit (.bool true)], args := [d1, d2] }
  | _ => none }
def nameMoreRow : OpenClaim := { program := "ytmddkjmcbddhiaa", sum := "c0f5207746cb1db86eca266df7eb7d071742e1e14f823eaae1f039b526f4e78c", func := "deckle/decklelaw08.NameMore", spec := "nameMore", apart := false }
def NameMoreSaid : Prop := nameMoreRow.holds Try.pinned (OpenSpec.ofChange nameMoreSpec)

/-- ITS FALSE NEIGHBOUR: 'it returns false'. Refute it at one input. -/
def nameMoreWrong : ChangeSpec := { name := "nameMore", fn := fun _ => fun
  | [d1, d2] => { results := [.lit (.bool false)], args := [d1, d2] }
  | _ => none }
def NameMoreWrongFalsely : Prop := nameMoreRow.holds Try.pinned (OpenSpec.ofChange nameMoreWrong)

/-- 'decklelaw08.NameUnlike': WHATEVER THE INPUT: true; the input reads as it did. -/
def nameUnlikeSpec : ChangeSpec := { name := "nameUnlike", fn := fun _ => fun
  | [d1, d2] => { results := [.lit (.bool true)], args := [d1, d2] }
  | _ => none }
def nameUnlikeRow : OpenClaim := { program := "ytmddkjmcbddhiaa", sum := "c0f5207746cb1db86eca266df7eb7d071742e1e14f823eaae1f039b526f4e78c", func := "deckle/decklelaw08.NameUnlike", spec := "nameUnlike", apart := false }
def NameUnlikeSaid : Prop := nameUnlikeRow.holds Try.pinned (OpenSpec.ofChange nameUnlikeSpec)

/-- ITS FALSE NEIGHBOUR: 'it returns false'. Refute it at one input. -/
def nameUnlikeWrong : ChangeSpec := { name := "nameUnlike", fn := fun _ => fun
  | [d1, d2] => { results := [.lit (.bool false)], args := [d1, d2] }
  | _ => none }
def NameUnlikeWrongFalsely : Prop := nameUnlikeRow.holds Try.pinned (OpenSpec.ofChange nameUnlikeWrong)

/-- 'decklelaw08.NameSystem': WHATEVER THE INPUT: true; the input reads as it did. -/
def nameSystemSpec : ChangeSpec := { name := "nameSystem", fn := fun _ => fun
  | [d1, d2] => { results := [.lit (.bool true)], args := [d1, d2] }
  | _ => none }
def nameSystemRow : OpenClaim := { program := "ytmddkjmcbddhiaa", sum := "c0f5207746cb1db86eca266df7eb7d071742e1e14f823eaae1f039b526f4e78c", func := "deckle/decklelaw08.NameSystem", spec := "nameSystem", apart := false }
def NameSystemSaid : Prop := nameSystemRow.holds Try.pinned (OpenSpec.ofChange nameSystemSpec)

/-- ITS FALSE NEIGHBOUR: 'it returns false'. Refute it at one input. -/
def nameSystemWrong : ChangeSpec := { name := "nameSystem", fn := fun _ => fun
  | [d1, d2] => { results := [.lit (.bool false)], args := [d1, d2] }
  | _ => none }
def NameSystemWrongFalsely : Prop := nameSystemRow.holds Try.pinned (OpenSpec.ofChange nameSystemWrong)

/-- 'decklelaw15.HeaderTells': WHATEVER THE INPUT: true; the input reads as it did. -/
def headerTellsSpec : ChangeSpec := { name := "headerTells", fn := fun _ => fun
  | [d1, d2] => { results := [.lit (.bool true)], args := [d1, d2] }
  | _ => none }
def headerTellsRow : OpenClaim := { program := "ytmddkjmcbddhiaa", sum := "c0f5207746cb1db86eca266df7eb7d071742e1e14f823eaae1f039b526f4e78c", func := "deckle/decklelaw15.HeaderTells", spec := "headerTells", inPlace := ["internal/abi.NoEscape"], unfollowed := true, recurses := true, apart := false }
def HeaderTellsSaid : Prop := headerTellsRow.holds Try.pinned (OpenSpec.ofChange headerTellsSpec)

/-- ITS FALSE NEIGHBOUR: 'it returns false'. Refute it at one input. -/
def headerTellsWrong : ChangeSpec := { name := "headerTells", fn := fun _ => fun
  | [d1, d2] => { results := [.lit (.bool false)], args := [d1, d2] }
  | _ => none }
def HeaderTellsWrongFalsely : Prop := headerTellsRow.holds Try.pinned (OpenSpec.ofChange headerTellsWrong)

/-- 'decklelaw15.HeaderBack': WHATEVER THE INPUT: true; the input reads as it did. -/
def headerBackSpec : ChangeSpec := { name := "headerBack", fn := fun _ => fun
  | [d] => { results := [.lit (.bool true)], args := [d] }
  | _ => none }
def headerBackRow : OpenClaim := { program := "ytmddkjmcbddhiaa", sum := "c0f5207746cb1db86eca266df7eb7d071742e1e14f823eaae1f039b526f4e78c", func := "deckle/decklelaw15.HeaderBack", spec := "headerBack", inPlace := ["internal/abi.NoEscape"], unfollowed := true, recurses := true, apart := false }
def HeaderBackSaid : Prop := headerBackRow.holds Try.pinned (OpenSpec.ofChange headerBackSpec)

/-- ITS FALSE NEIGHBOUR: 'it returns false'. Refute it at one input. -/
def headerBackWrong : ChangeSpec := { name := "headerBack", fn := fun _ => fun
  | [d] => { results := [.lit (.bool false)], args := [d] }
  | _ => none }
def HeaderBackWrongFalsely : Prop := headerBackRow.holds Try.pinned (OpenSpec.ofChange headerBackWrong)

/-- 'decklelaw15.HeaderOnce': WHATEVER THE INPUT: true; the input reads as it did. -/
def headerOnceSpec : ChangeSpec := { name := "headerOnce", fn := fun _ => fun
  | [d] => { results := [.lit (.bool true)], args := [d] }
  | _ => none }
def headerOnceRow : OpenClaim := { program := "ytmddkjmcbddhiaa", sum := "c0f5207746cb1db86eca266df7eb7d071742e1e14f823eaae1f039b526f4e78c", func := "deckle/decklelaw15.HeaderOnce", spec := "headerOnce", inPlace := ["internal/abi.NoEscape"], unfollowed := true, recurses := true, apart := false }
def HeaderOnceSaid : Prop := headerOnceRow.holds Try.pinned (OpenSpec.ofChange headerOnceSpec)

/-- ITS FALSE NEIGHBOUR: 'it returns false'. Refute it at one input. -/
def headerOnceWrong : ChangeSpec := { name := "headerOnce", fn := fun _ => fun
  | [d] => { results := [.lit (.bool false)], args := [d] }
  | _ => none }
def HeaderOnceWrongFalsely : Prop := headerOnceRow.holds Try.pinned (OpenSpec.ofChange headerOnceWrong)

/-- 'decklelaw15.HeaderLocals': WHATEVER THE INPUT: true; the input reads as it did. -/
def headerLocalsSpec : ChangeSpec := { name := "headerLocals", fn := fun _ => fun
  | [d1, d2] => { results := [.lit (.bool true)], args := [d1, d2] }
  | _ => none }
def headerLocalsRow : OpenClaim := { program := "ytmddkjmcbddhiaa", sum := "c0f5207746cb1db86eca266df7eb7d071742e1e14f823eaae1f039b526f4e78c", func := "deckle/decklelaw15.HeaderLocals", spec := "headerLocals", inPlace := ["internal/abi.NoEscape"], unfollowed := true, recurses := true, apart := false }
def HeaderLocalsSaid : Prop := headerLocalsRow.holds Try.pinned (OpenSpec.ofChange headerLocalsSpec)

/-- ITS FALSE NEIGHBOUR: 'it returns false'. Refute it at one input. -/
def headerLocalsWrong : ChangeSpec := { name := "headerLocals", fn := fun _ => fun
  | [d1, d2] => { results := [.lit (.bool false)], args := [d1, d2] }
  | _ => none }
def HeaderLocalsWrongFalsely : Prop := headerLocalsRow.holds Try.pinned (OpenSpec.ofChange headerLocalsWrong)

/-- 'decklelaw15.HeaderResult': WHATEVER THE INPUT: true; the input reads as it did. -/
def headerResultSpec : ChangeSpec := { name := "headerResult", fn := fun _ => fun
  | [d1, d2] => { results := [.lit (.bool true)], args := [d1, d2] }
  | _ => none }
def headerResultRow : OpenClaim := { program := "ytmddkjmcbddhiaa", sum := "c0f5207746cb1db86eca266df7eb7d071742e1e14f823eaae1f039b526f4e78c", func := "deckle/decklelaw15.HeaderResult", spec := "headerResult", inPlace := ["internal/abi.NoEscape"], unfollowed := true, recurses := true, apart := false }
def HeaderResultSaid : Prop := headerResultRow.holds Try.pinned (OpenSpec.ofChange headerResultSpec)

/-- ITS FALSE NEIGHBOUR: 'it returns false'. Refute it at one input. -/
def headerResultWrong : ChangeSpec := { name := "headerResult", fn := fun _ => fun
  | [d1, d2] => { results := [.lit (.bool false)], args := [d1, d2] }
  | _ => none }
def HeaderResultWrongFalsely : Prop := headerResultRow.holds Try.pinned (OpenSpec.ofChange headerResultWrong)

/- THE SECOND FORM. 'bulk': how many values and letters a reading holds, each counted each time it is reached (what is shared counts as often as it is met; a slice's spare places count too). A statement '..UptoSaid' is the law's where the arguments, and the package variables that the reading takes, are together of bulk at most 1048576: NARROWER than '..Said'. Prove '..Said' where nothing that the law and all that it calls make is longer than what came in: it says more and counts as full. Else prove '..UptoSaid'. A law counts once. -/
mutual
def uptoBulk {H : Type} : DataW H → Nat
  | .lit (.string bytes) => bytes.length + 1
  | .lit _ => 1
  | .nil => 1
  | .ptr d => uptoBulk d + 1
  | .slice elems spare => uptoBulkAll elems + uptoBulkAll spare + 1
  | .agg parts => uptoBulkAll parts + 1
  | .iface _ d => uptoBulk d + 1
  | .map entries => uptoBulkEntries entries + 1
  | .held _ => 1
def uptoBulkAll {H : Type} : List (DataW H) → Nat
  | [] => 0
  | d :: r => uptoBulk d + uptoBulkAll r
def uptoBulkEntries {H : Type} : List (Lit × DataW H) → Nat
  | [] => 0
  | x :: r => uptoBulkEntry x + uptoBulkEntries r
def uptoBulkEntry {H : Type} : Lit × DataW H → Nat
  | (.string bytes, d) => bytes.length + uptoBulk d + 1
  | (_, d) => uptoBulk d + 1
 end
def uptoSmall : (H : Type) → List (DataW H) → Bool := fun _ ds => decide (uptoBulkAll ds ≤ 1048576)
def OpenSpec.upto (s : _root_.Go.ChangeSpec) : _root_.Go.OpenSpec := { _root_.Go.OpenSpec.ofChange s with cond := some uptoSmall }

/-- 'decklelaw08.NameTells', WHERE WHAT IT READS IS OF BULK AT MOST 1048576: true; the input reads as it did. -/
def nameTellsUptoRow : OpenClaim := { program := "ytmddkjmcbddhiaa", sum := "c0f5207746cb1db86eca266df7eb7d071742e1e14f823eaae1f039b526f4e78c", func := "deckle/decklelaw08.NameTells", spec := "nameTells", apart := false, narrowed := true }
def NameTellsUptoSaid : Prop := nameTellsUptoRow.holds Try.pinned (OpenSpec.upto nameTellsSpec)

/-- 'decklelaw08.NameTaken', WHERE WHAT IT READS IS OF BULK AT MOST 1048576: true; the input reads as it did. -/
def nameTakenUptoRow : OpenClaim := { program := "ytmddkjmcbddhiaa", sum := "c0f5207746cb1db86eca266df7eb7d071742e1e14f823eaae1f039b526f4e78c", func := "deckle/decklelaw08.NameTaken", spec := "nameTaken", apart := false, narrowed := true }
def NameTakenUptoSaid : Prop := nameTakenUptoRow.holds Try.pinned (OpenSpec.upto nameTakenSpec)

/-- 'decklelaw08.NameMore', WHERE WHAT IT READS IS OF BULK AT MOST 1048576: true; the input reads as it did. -/
def nameMoreUptoRow : OpenClaim := { program := "ytmddkjmcbddhiaa", sum := "c0f5207746cb1db86eca266df7eb7d071742e1e14f823eaae1f039b526f4e78c", func := "deckle/decklelaw08.NameMore", spec := "nameMore", apart := false, narrowed := true }
def NameMoreUptoSaid : Prop := nameMoreUptoRow.holds Try.pinned (OpenSpec.upto nameMoreSpec)

/-- 'decklelaw08.NameUnlike', WHERE WHAT IT READS IS OF BULK AT MOST 1048576: true; the input reads as it did. -/
def nameUnlikeUptoRow : OpenClaim := { program := "ytmddkjmcbddhiaa", sum := "c0f5207746cb1db86eca266df7eb7d071742e1e14f823eaae1f039b526f4e78c", func := "deckle/decklelaw08.NameUnlike", spec := "nameUnlike", apart := false, narrowed := true }
def NameUnlikeUptoSaid : Prop := nameUnlikeUptoRow.holds Try.pinned (OpenSpec.upto nameUnlikeSpec)

/-- 'decklelaw08.NameSystem', WHERE WHAT IT READS IS OF BULK AT MOST 1048576: true; the input reads as it did. -/
def nameSystemUptoRow : OpenClaim := { program := "ytmddkjmcbddhiaa", sum := "c0f5207746cb1db86eca266df7eb7d071742e1e14f823eaae1f039b526f4e78c", func := "deckle/decklelaw08.NameSystem", spec := "nameSystem", apart := false, narrowed := true }
def NameSystemUptoSaid : Prop := nameSystemUptoRow.holds Try.pinned (OpenSpec.upto nameSystemSpec)

/-- 'decklelaw15.HeaderTells', WHERE WHAT IT READS IS OF BULK AT MOST 1048576: true; the input reads as it did. -/
def headerTellsUptoRow : OpenClaim := { program := "ytmddkjmcbddhiaa", sum := "c0f5207746cb1db86eca266df7eb7d071742e1e14f823eaae1f039b526f4e78c", func := "deckle/decklelaw15.HeaderTells", spec := "headerTells", inPlace := ["internal/abi.NoEscape"], unfollowed := true, recurses := true, apart := false, narrowed := true }
def HeaderTellsUptoSaid : Prop := headerTellsUptoRow.holds Try.pinned (OpenSpec.upto headerTellsSpec)

/-- 'decklelaw15.HeaderBack', WHERE WHAT IT READS IS OF BULK AT MOST 1048576: true; the input reads as it did. -/
def headerBackUptoRow : OpenClaim := { program := "ytmddkjmcbddhiaa", sum := "c0f5207746cb1db86eca266df7eb7d071742e1e14f823eaae1f039b526f4e78c", func := "deckle/decklelaw15.HeaderBack", spec := "headerBack", inPlace := ["internal/abi.NoEscape"], unfollowed := true, recurses := true, apart := false, narrowed := true }
def HeaderBackUptoSaid : Prop := headerBackUptoRow.holds Try.pinned (OpenSpec.upto headerBackSpec)

/-- 'decklelaw15.HeaderOnce', WHERE WHAT IT READS IS OF BULK AT MOST 1048576: true; the input reads as it did. -/
def headerOnceUptoRow : OpenClaim := { program := "ytmddkjmcbddhiaa", sum := "c0f5207746cb1db86eca266df7eb7d071742e1e14f823eaae1f039b526f4e78c", func := "deckle/decklelaw15.HeaderOnce", spec := "headerOnce", inPlace := ["internal/abi.NoEscape"], unfollowed := true, recurses := true, apart := false, narrowed := true }
def HeaderOnceUptoSaid : Prop := headerOnceUptoRow.holds Try.pinned (OpenSpec.upto headerOnceSpec)

/-- 'decklelaw15.HeaderLocals', WHERE WHAT IT READS IS OF BULK AT MOST 1048576: true; the input reads as it did. -/
def headerLocalsUptoRow : OpenClaim := { program := "ytmddkjmcbddhiaa", sum := "c0f5207746cb1db86eca266df7eb7d071742e1e14f823eaae1f039b526f4e78c", func := "deckle/decklelaw15.HeaderLocals", spec := "headerLocals", inPlace := ["internal/abi.NoEscape"], unfollowed := true, recurses := true, apart := false, narrowed := true }
def HeaderLocalsUptoSaid : Prop := headerLocalsUptoRow.holds Try.pinned (OpenSpec.upto headerLocalsSpec)

/-- 'decklelaw15.HeaderResult', WHERE WHAT IT READS IS OF BULK AT MOST 1048576: true; the input reads as it did. -/
def headerResultUptoRow : OpenClaim := { program := "ytmddkjmcbddhiaa", sum := "c0f5207746cb1db86eca266df7eb7d071742e1e14f823eaae1f039b526f4e78c", func := "deckle/decklelaw15.HeaderResult", spec := "headerResult", inPlace := ["internal/abi.NoEscape"], unfollowed := true, recurses := true, apart := false, narrowed := true }
def HeaderResultUptoSaid : Prop := headerResultUptoRow.holds Try.pinned (OpenSpec.upto headerResultSpec)

end Rows
end Go.Proofs.Ytmddkjmcbddhiaa
