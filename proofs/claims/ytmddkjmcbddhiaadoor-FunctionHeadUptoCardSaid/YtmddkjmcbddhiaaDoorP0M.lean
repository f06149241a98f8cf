/-
  P0
-/
import Derived.Test.YtmddkjmcbddhiaaDoorProg
import Derived.Below
import Derived.Deep.Draws
import Derived.Deep.AppendLies
import Derived.Maps.AppendAt
import Derived.OwnWalk
import Derived.Laws.BytesArg
import Derived.Laws.MakeOwn
import Derived.Laws.OwnMore
import Derived.Deep.OwnRows
import Derived.Tactics
import Derived.Lib.ConvBytes
import Derived.Laws.Slices
import Derived.WalkKit
import Derived.KernelRfl
import Derived.RowKit3
import Derived.Deep.LoopGhost
import Derived.Deep.QuietTactic
import Derived.BigQuiet
import Derived.WideLaws
import Derived.Deep.DeepCutAuto
import Derived.Deep.CutBlock
import Derived.Deep.RegionHeld3
import Derived.Laws.Rows
import Derived.Lib.AppendStr
import Derived.ArgAppend
import Derived.Laws.IdiomCopy
import Derived.OrdersHeld
import Derived.Laws.BitsLemmas
import Derived.RowKit
import Derived.Test.YtmddkjmcbddhiaaDoorWWords
import Derived.Test.YtmddkjmcbddhiaaDoorWLast
import Derived.Test.YtmddkjmcbddhiaaDoorWTab
import Derived.Test.YtmddkjmcbddhiaaDoorWFour
import Derived.Test.YtmddkjmcbddhiaaDoorWQPut
import Derived.Test.YtmddkjmcbddhiaaDoorWApart
import Derived.Test.YtmddkjmcbddhiaaDoorWNM
import Derived.Test.YtmddkjmcbddhiaaDoorWAtM
import Derived.Test.YtmddkjmcbddhiaaDoorWEqStruct
import Derived.Test.YtmddkjmcbddhiaaDoorWRepsOne
import Derived.Test.YtmddkjmcbddhiaaDoorWInv
import Derived.Test.YtmddkjmcbddhiaaDoorWInvWordsM
import Derived.Test.YtmddkjmcbddhiaaDoorWGuard
import Derived.Test.YtmddkjmcbddhiaaDoorWNEvM
import Derived.Test.YtmddkjmcbddhiaaDoorWMoreM
-- written by wip/tools/print2.py (a program of this session over the kit's print); not trusted: Lean checks it
namespace Go.Proofs.YtmddkjmcbddhiaaDoor.P
open Go.RowKit Go.Proofs.YtmddkjmcbddhiaaDoorW.PrintWords Go.Proofs.YtmddkjmcbddhiaaDoorW.PrintLast Go.Proofs.YtmddkjmcbddhiaaDoorW.PrintMore
attribute [local go_sem] max2_int min2_int max_two min_two max_three min_three max_four min_four   -- for this text's walks alone
set_option linter.unusedVariables false
set_option linter.unusedSimpArgs false



def errW : Option Int → Value
  | none => .nilIface
  | some c => .iface 0 (.int .i64 c)
theorem errW_none : errW none = .nilIface := rfl
theorem errW_some (c : Int) : errW (some c) = .iface 0 (.int .i64 c) := rfl

theorem info3 : (Tryd.prog.info? 3).map (fun i => (i.zero, i.size, i.bytes)) = some (some (.int .i64 0), 1, 8) := by kernel_rfl
theorem info5 : (Tryd.prog.info? 5).map (fun i => (i.zero, i.size, i.bytes)) = some (some (.int .u8 0), 1, 1) := by kernel_rfl
theorem info9 : (Tryd.prog.info? 9).map (fun i => (i.zero, i.size, i.bytes)) = some (some (.string ⟨#[]⟩), 1, 16) := by kernel_rfl
-- the values' own types

end Go.Proofs.YtmddkjmcbddhiaaDoor.P
