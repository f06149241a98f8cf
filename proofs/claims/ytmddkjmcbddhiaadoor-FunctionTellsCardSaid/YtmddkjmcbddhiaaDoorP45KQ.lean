/-
  P45
-/
import Derived.Test.YtmddkjmcbddhiaaDoorP0KQ
-- written by wip/tools/print2.py (a program of this session over the kit's print); not trusted: Lean checks it
namespace Go.Proofs.YtmddkjmcbddhiaaDoor.P
open Go.RowKit Go.Proofs.YtmddkjmcbddhiaaDoorW.PrintWords Go.Proofs.YtmddkjmcbddhiaaDoorW.PrintLast Go.Proofs.YtmddkjmcbddhiaaDoorW.PrintMore
attribute [local go_sem] max2_int min2_int max_two min_two max_three min_three max_four min_four   -- for this text's walks alone
set_option linter.unusedVariables false
set_option linter.unusedSimpArgs false

/-! ### decklelaw15_Few: function 37 -/
mutual
def decklelaw15_Few.l0 : Nat → Int → ByteArray → ByteArray → ByteArray → ByteArray → ByteArray → ByteArray → List ByteArray → Option (Bool)
  | 0, _, _, _, _, _, _, _, _ => none
  | k + 1, x3, x581000, x581001, x581002, x581003, x581004, x581005, x581006 => if x3 < (x581006.length : Int) then (decklelaw15_Few.j1 k x3 (decide (x3 < 50)) x581000 x581001 x581002 x581003 x581004 x581005 x581006) else (decklelaw15_Few.j1 k x3 false x581000 x581001 x581002 x581003 x581004 x581005 x581006)
def decklelaw15_Few.j1 : Nat → Int → Bool → ByteArray → ByteArray → ByteArray → ByteArray → ByteArray → ByteArray → List ByteArray → Option (Bool)
  | 0, _, _, _, _, _, _, _, _, _ => none
  | k + 1, x3, x12, x581000, x581001, x581002, x581003, x581004, x581005, x581006 => if x12 = true then (if 0 ≤ x3 then (if x3 < (x581006.length : Int) then (if ((rdOf ByteArray.empty x581006 x3).size : Int) > 100 then (some false) else (decklelaw15_Few.l0 k (wrap64 (x3 + 1)) x581000 x581001 x581002 x581003 x581004 x581005 x581006)) else (none)) else (none)) else (if (x581006.length : Int) ≤ 30 then (if (x581000.size : Int) ≤ 100 then (if (x581001.size : Int) ≤ 100 then (if (x581002.size : Int) ≤ 100 then (if (x581003.size : Int) ≤ 100 then (if (x581004.size : Int) ≤ 100 then (some (decide ((x581005.size : Int) ≤ 100))) else (some false)) else (some false)) else (some false)) else (some false)) else (some false)) else (some false))
end
def decklelaw15_Few.f (k : Nat) (a0_0 : ByteArray) (a0_1 : ByteArray) (a0_2 : ByteArray) (a0_3 : ByteArray) (a0_4 : ByteArray) (a0_5 : ByteArray) (l0_6 : List ByteArray) : Option (Bool) := decklelaw15_Few.l0 k 0 a0_0 a0_1 a0_2 a0_3 a0_4 a0_5 l0_6
end Go.Proofs.YtmddkjmcbddhiaaDoor.P
