/-
  Plain: which texts are unlike, and what a map that counts them holds round by round. No program in sight.
-/
import Derived.Maps.Own
import Derived.Maps.OwnOps
import Derived.Maps.Views
import Derived.WalkKit
namespace Go.Proofs.Ytmddkjmcbddhiaa.Sp
set_option linter.unusedVariables false
set_option linter.unusedSimpArgs false
open Go.RowKit Go.Maps

/-- Are those of the list that are not empty unlike one another, and unlike what was seen? -/
def unlFrom (seen : List (List UInt8)) : List (List UInt8) → Bool
  | [] => true
  | x :: t => if x ≠ [] ∧ x ∈ seen then false else unlFrom (seen ++ [x]) t
def unl (xs : List (List UInt8)) : Bool := unlFrom [] xs
/-- Texts as lists of bytes. -/
def bys (l : List ByteArray) : List (List UInt8) := l.map fun s => s.data.toList
abbrev i64d (n : Int) : DataW Unit := .lit (.int .i64 n)
/-- The map D counts the texts of 'seen'. -/
structure Counts (D : DataW Unit) (seen : List (List UInt8)) : Prop where
  isMap : IsMap D
  at_ : ∀ x : List UInt8, D.atKey (.string x) (i64d 0) = i64d (seen.count x : Int)

theorem counts_start : Counts (.map []) [] := ⟨isMap_empty, fun x => rfl⟩
theorem counts_step {D : DataW Unit} {seen : List (List UInt8)} (h : Counts D seen) (x : List UInt8) {n : Int} (hn : n = (seen.count x : Int) + 1) :
    Counts (D.put (.string x) (i64d n)) (seen ++ [x]) := by
  refine ⟨h.isMap.put _ _, fun y => ?_⟩
  by_cases e : y = x
  · subst e
    rw [atKey_put_same h.isMap (by trivial), hn]
    congr 3
    rw [List.count_append, List.count_singleton_self]
    omega
  · rw [atKey_put_other (fun e' => e (by injection e')), h.at_ y, List.count_append, List.count_eq_zero_of_not_mem (l := [x]) (by simpa using e)]
    simp
end Go.Proofs.Ytmddkjmcbddhiaa.Sp
