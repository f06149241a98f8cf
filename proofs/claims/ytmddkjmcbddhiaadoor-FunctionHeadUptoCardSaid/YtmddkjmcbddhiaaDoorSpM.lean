/-
  Plain definitions of layer 8 over the model's own decoding of UTF-8: which runes begin a name or go on, and how far a name reaches. No program in sight.
  Plain: which texts are unlike, and what a map that counts them holds round by round. No program in sight.
-/
import GoSem.Core.Utf8
import Derived.Laws.RangeAny
import Derived.Maps.Own
import Derived.Maps.OwnOps
import Derived.Maps.Views
import Derived.WalkKit
section
namespace Go.Proofs.YtmddkjmcbddhiaaDoor.Sp
set_option linter.unusedVariables false
set_option linter.unusedSimpArgs false

/-- Does a rune begin a name? -/
def beginsR (c : Int) : Bool := (65 ≤ c && c ≤ 90) || (97 ≤ c && c ≤ 122) || c == 95 || c == 8710 || c == 9049
/-- Does a rune go on? -/
def goesR (c : Int) : Bool := beginsR c || (48 ≤ c && c ≤ 57) || c == 175

/-- Where the name ends that is read from place pos on, by at most b runes. -/
def takeFrom (s : ByteArray) : Nat → Nat → Nat
  | 0, _ => s.size
  | b + 1, pos => if pos < s.size then
      (if pos = 0 ∧ beginsR (Utf8.decode s pos).1 = false then 0 else if goesR (Utf8.decode s pos).1 = false then pos else takeFrom s b (pos + (Utf8.decode s pos).2))
    else s.size
def takeLen (s : ByteArray) : Nat := takeFrom s s.size 0

theorem decode_pos (s : ByteArray) (pos : Nat) (h : pos < s.size) : 1 ≤ (Utf8.decode s pos).2 := by
  by_cases ha : (s[pos]'h).toNat < 128
  · rw [decode_ascii s pos h ha]
    exact Nat.le_refl _
  · exact (decode_high s pos h (by omega)).2

theorem takeFrom_end (s : ByteArray) (b pos : Nat) (h : ¬ pos < s.size) : takeFrom s b pos = s.size := by
  cases b <;> simp [takeFrom, h]

theorem takeFrom_le (s : ByteArray) : ∀ b pos, takeFrom s b pos ≤ s.size
  | 0, _ => by simp [takeFrom]
  | b + 1, pos => by
    have ih := takeFrom_le s b (pos + (Utf8.decode s pos).2)
    unfold takeFrom
    split
    · split
      · omega
      · split
        · omega
        · exact ih
    · omega
theorem takeLen_le (s : ByteArray) : takeLen s ≤ s.size := takeFrom_le s _ _
theorem extract_nil (s : ByteArray) (a : Nat) : s.extract a a = ⟨#[]⟩ := by
  apply ByteArray.ext
  simp
theorem extract_all (s : ByteArray) : s.extract 0 s.size = s := by
  apply ByteArray.ext
  simp
end Go.Proofs.YtmddkjmcbddhiaaDoor.Sp
end
section
namespace Go.Proofs.YtmddkjmcbddhiaaDoor.Sp
set_option linter.unusedVariables false
set_option linter.unusedSimpArgs false
open Go.RowKit Go.Maps

/-- Are those of the list that are not empty unlike one another, and unlike what was seen? -/
def unlFrom (seen : List (List UInt8)) : List (List UInt8) → Bool
  | [] => true
  | x :: t => if x ≠ [] ∧ x ∈ seen then false else unlFrom (seen ++ [x]) t
def unl (xs : List (List UInt8)) : Bool := unlFrom [] xs
/-- Texts as lists of bytes. -/
def bys (l : List ByteArray) : List (List UInt8) := l.map fun s => s.data.toList
abbrev i64d (n : Int) : DataW Unit := .lit (.int .i64 n)
/-- The map D counts the texts of 'seen'. -/
structure Counts (D : DataW Unit) (seen : List (List UInt8)) : Prop where
  isMap : IsMap D
  at_ : ∀ x : List UInt8, D.atKey (.string x) (i64d 0) = i64d (seen.count x : Int)

theorem counts_start : Counts (.map []) [] := ⟨isMap_empty, fun x => rfl⟩
theorem counts_step {D : DataW Unit} {seen : List (List UInt8)} (h : Counts D seen) (x : List UInt8) {n : Int} (hn : n = (seen.count x : Int) + 1) :
    Counts (D.put (.string x) (i64d n)) (seen ++ [x]) := by
  refine ⟨h.isMap.put _ _, fun y => ?_⟩
  by_cases e : y = x
  · subst e
    rw [atKey_put_same h.isMap (by trivial), hn]
    congr 3
    rw [List.count_append, List.count_singleton_self]
    omega
  · rw [atKey_put_other (fun e' => e (by injection e')), h.at_ y, List.count_append, List.count_eq_zero_of_not_mem (l := [x]) (by simpa using e)]
    simp
end Go.Proofs.YtmddkjmcbddhiaaDoor.Sp
end
