/-
  Proved: whatever text is the name of a variable of the system's: it is no name, nothing is taken of it, and a sign more or less makes it none. No condition.
-/
import Derived.Test.YtmddkjmcbddhiaaP6
import Derived.Test.YtmddkjmcbddhiaaLw8
namespace Go.Proofs.Ytmddkjmcbddhiaa.Pure
set_option linter.unusedSimpArgs false
open Go.RowKit Go.Proofs.Ytmddkjmcbddhiaa.P Go.Proofs.YtmddkjmcbddhiaaW.PrintWords Go.Proofs.YtmddkjmcbddhiaaW.PrintLast Go.Proofs.Ytmddkjmcbddhiaa.Sp

theorem sys_facts {l : List UInt8} (h : isSys l = true) : isName l = false ∧ nameLen l = 0 ∧ l.length = 5 ∧ isSys (l.take 4) = false ∧ isName (l.drop 3) = true := by
  have h1 := of_decide_eq_true h
  unfold sysNames at h1
  simp only [List.mem_cons, List.not_mem_nil, or_false] at h1
  rcases h1 with rfl | rfl | rfl | rfl | rfl | rfl <;> decide
theorem sys_more {l m : List UInt8} (h : isSys l = true) (hm : m ≠ []) : isSys (l ++ m) = false := by
  cases hs : isSys (l ++ m) with
  | false => rfl
  | true =>
    have h1 := (sys_facts h).2.2.1
    have h2 := (sys_facts hs).2.2.1
    rw [List.length_append] at h2
    exact absurd (List.eq_nil_of_length_eq_zero (by omega)) hm

theorem NameSystem : decklelaw08_NameSystem.Pure := by
  intro s m hs hm
  refine ⟨2, ?_⟩
  unfold decklelaw08_NameSystem.f
  rw [small08, name_System_f]
  simp only [Option.bind_some]
  have hj : ∀ k, decklelaw08_NameSystem.j0 (k + 1) s m true true = some true := fun k => by simp only [decklelaw08_NameSystem.j0, if_true]
  by_cases h1 : (s.size : Int) > 100
  · rw [if_pos h1]; exact hj 1
  · rw [if_neg h1]
    by_cases h2 : (m.size : Int) > 100
    · rw [if_pos h2]; exact hj 1
    · rw [if_neg h2]
      cases hy : isSys s.data.toList with
      | false => exact hj 1
      | true =>
        obtain ⟨f1, f2, f3, f4, f5⟩ := sys_facts hy
        have hsz := length_data s
        have hr3 : (s.extract 3 s.size).data.toList = s.data.toList.drop 3 := extract_data s 3
        have hz3 : (s.extract 3 s.size).size ≤ s.size := by rw [← length_data, hr3, List.length_drop]; omega
        simp only [decklelaw08_NameSystem.j0, Bool.not_true, Bool.false_eq_true, if_false, if_true, name_Take_f, Option.bind_some, f2]
        rw [name_Right_f s (by omega), f1]
        simp only [Option.bind_some, Bool.false_eq_true, if_false, ByteArray.toList_eq, ext_take_data, extract_data, List.take_zero, List.drop_zero, if_true]
        rw [if_pos (by omega), if_pos (by omega), if_pos (by omega)]
        rw [name_System_f, ext_take_data, f4, name_Right_f _ (by omega), hr3, f5]
        simp only [Option.bind_some, Bool.false_eq_true, if_false]
        by_cases hm0 : m.data.toList = []
        · rw [if_pos hm0, if_pos (by omega)]
        · rw [if_neg hm0, if_pos (by omega), name_System_f, append_data, sys_more hy hm0]
          simp only [Option.bind_some, Bool.false_eq_true, if_false]
          rw [if_pos (by omega)]
end Go.Proofs.Ytmddkjmcbddhiaa.Pure
