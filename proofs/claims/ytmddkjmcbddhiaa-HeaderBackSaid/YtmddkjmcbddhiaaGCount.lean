/-
  The walk of unicode/utf8.RuneCountInString at every string: the number of its runes. Condition: the string has fewer than 2^63 - 1 bytes.
-/
import Derived.Test.YtmddkjmcbddhiaaP0
import Derived.Lib.OthersKept
import Derived.Lib.RuneCount
namespace Go.Proofs.Ytmddkjmcbddhiaa.P
open Go.RowKit Go.Proofs.YtmddkjmcbddhiaaW.PrintWords
set_option linter.unusedVariables false
set_option linter.unusedSimpArgs false

def utf8_RuneCountInString.f (a0 : ByteArray) : Option Int :=
  if a0.size < 9223372036854775807 then some (Lib.runeCount a0 : Int) else none

set_option maxHeartbeats 1000000 in
set_option maxRecDepth 100000 in
theorem count_walk (s : ByteArray) (w : World) (hs : s.size < 9223372036854775807) :
    Calls Try.prog 35 #[.string s] w fun e w' => e = .returned (.int .i64 (Lib.runeCount s)) ∧ Below w.heap.size w w' := by
  go_enter Try.func35, Try.ntmps35
  go_wp2
  go_loopw [2] (fun n w' => ∃ (pos b acc : Nat), w' = w.iter s pos ∧ n = .int .i64 acc ∧ acc + Lib.runeCountFrom s b pos = Lib.runeCount s ∧ s.size ≤ pos + b ∧ acc ≤ pos) (fun _ w' => s.size - w'.iterPos w.heap.size)
  case atStart => exact ⟨0, s.size, 0, rfl, rfl, by simp [Lib.runeCount], by omega, Nat.le_refl _⟩
  case round =>
    obtain ⟨pos, b, acc, rfl, rfl, hc, hb, ha⟩ := hrel
    by_cases hp : pos < s.size
    · have hnx : ∀ ty, (Instr.next (.pointer (some ⟨w.heap.size, 0, none⟩)) true ty).run Try.prog (w.iter s pos) = _ := fun ty => run_next_any w s pos ty hp
      have hwd := Lib.decode_width_pos s pos hp
      go_wp2
      go_roundw
      case rel =>
        cases b with
        | zero => omega
        | succ b =>
          refine ⟨pos + (Utf8.decode s pos).2, b, acc + 1, rfl, by go_num, ?_, by omega, by omega⟩
          rw [← hc]
          simp [Lib.runeCountFrom, hp]
          omega
      case measure =>
        simp
        omega
    · have hnx : ∀ ty, (Instr.next (.pointer (some ⟨w.heap.size, 0, none⟩)) true ty).run Try.prog (w.iter s pos) = _ := fun ty => run_next_end w s pos ty hp
      go_wp2
      go_ret
      rw [Lib.runeCountFrom_end s b pos hp, Nat.add_zero] at hc
      subst hc
      exact ⟨rfl, (Below.refl _ _).alloc (Nat.le_refl _) _⟩

theorem utf8_RuneCountInString.calls (a0 : ByteArray) (r : Int) (w : World) (h : utf8_RuneCountInString.f a0 = some r) :
    Calls Try.prog 35 #[.string a0] w fun e w' => e = .returned (.int .i64 r) ∧ Below w.heap.size w w' := by
  unfold utf8_RuneCountInString.f at h
  split at h
  · rename_i hs
    obtain rfl := Option.some.inj h
    exact count_walk a0 w hs
  · cases h
end Go.Proofs.Ytmddkjmcbddhiaa.P
