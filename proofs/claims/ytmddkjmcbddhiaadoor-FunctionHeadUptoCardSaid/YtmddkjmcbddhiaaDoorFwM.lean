/-
  Plain: what Few and the reference's Same come to. No memory in sight.
-/
import Derived.Test.YtmddkjmcbddhiaaDoorP45M
import Derived.Test.YtmddkjmcbddhiaaDoorPcM
namespace Go.Proofs.YtmddkjmcbddhiaaDoor.P
open Go.RowKit Go.Proofs.YtmddkjmcbddhiaaDoorW.PrintWords Go.Proofs.YtmddkjmcbddhiaaDoor.Sp
set_option linter.unusedVariables false
set_option linter.unusedSimpArgs false

/-- Few and short. -/
structure FewH (a b c d e f : ByteArray) (l : List ByteArray) : Prop where
  a : a.size ≤ 100
  b : b.size ≤ 100
  c : c.size ≤ 100
  d : d.size ≤ 100
  e : e.size ≤ 100
  f : f.size ≤ 100
  n : l.length ≤ 30
  l : ∀ x ∈ l, x.size ≤ 100
theorem few_end (a b c d e f : ByteArray) (l : List ByteArray) (i : Int) : ∃ r, (∀ k, decklelaw15_Few.j1 (k + 1) i false a b c d e f l = some r) ∧ (r = true → a.size ≤ 100 ∧ b.size ≤ 100 ∧ c.size ≤ 100 ∧ d.size ≤ 100 ∧ e.size ≤ 100 ∧ f.size ≤ 100 ∧ l.length ≤ 30) := by
  simp only [decklelaw15_Few.j1, Bool.false_eq_true, if_false]
  repeat' split
  all_goals first
    | exact ⟨false, fun _ => rfl, fun h => by cases h⟩
    | (refine ⟨_, fun _ => rfl, fun h => ?_⟩; have := of_decide_eq_true h; omega)
theorem few_loop (a b c d e f : ByteArray) (l : List ByteArray) (hl : l.length ≤ 4611686018427387904) (n : Nat) : ∀ i : Nat, l.length ≤ i + n →
    ∃ r, Ev (fun k => decklelaw15_Few.l0 k (i : Int) a b c d e f l) r ∧ (r = true → (a.size ≤ 100 ∧ b.size ≤ 100 ∧ c.size ≤ 100 ∧ d.size ≤ 100 ∧ e.size ≤ 100 ∧ f.size ≤ 100 ∧ l.length ≤ 30) ∧ ∀ j x, i ≤ j → j < 50 → l[j]? = some x → x.size ≤ 100) := by
  have hend : ∀ i : Nat, ¬ i < l.length ∨ ¬ i < 50 → ∃ r, Ev (fun k => decklelaw15_Few.l0 k (i : Int) a b c d e f l) r ∧ (r = true → (a.size ≤ 100 ∧ b.size ≤ 100 ∧ c.size ≤ 100 ∧ d.size ≤ 100 ∧ e.size ≤ 100 ∧ f.size ≤ 100 ∧ l.length ≤ 30) ∧ ∀ j x, i ≤ j → j < 50 → l[j]? = some x → x.size ≤ 100) := by
    intro i hi
    obtain ⟨r, h1, h2⟩ := few_end a b c d e f l (i : Int)
    refine ⟨r, ⟨2, fun k hk => ?_⟩, fun hr => ⟨h2 hr, fun j x hj h50 hx => ?_⟩⟩
    · obtain ⟨m, rfl⟩ : ∃ m, k = m + 2 := ⟨k - 2, by omega⟩
      show decklelaw15_Few.l0 (m + 1 + 1) _ _ _ _ _ _ _ _ = _
      rw [decklelaw15_Few.l0]
      split
      · rw [decide_eq_false (by omega)]; exact h1 m
      · exact h1 m
    · obtain ⟨hlt, _⟩ := List.getElem?_eq_some_iff.1 hx
      rcases hi with hi | hi <;> omega
  induction n with
  | zero => intro i hi; exact hend i (.inl (by omega))
  | succ n ih =>
    intro i hi
    by_cases h1 : i < l.length
    · by_cases h2 : i < 50
      · by_cases h3 : l[i].size ≤ 100
        · obtain ⟨r, hr, hq⟩ := ih (i + 1) (by omega)
          refine ⟨r, Ev.step (fun k => ?_) (Ev.step (f := fun k => decklelaw15_Few.l0 k ((i + 1 : Nat) : Int) a b c d e f l) (g := fun k => decklelaw15_Few.j1 k (i : Int) true a b c d e f l) (fun k => ?_) hr), fun h => ⟨(hq h).1, fun j x hj h50 hx => ?_⟩⟩
          · rw [decklelaw15_Few.l0, if_pos (by omega), decide_eq_true (by omega)]
          · rw [decklelaw15_Few.j1, if_pos rfl, if_pos (by omega), if_pos (by omega), rdOf_at l i h1, if_neg (by omega), wrap_nat rfl (by omega)]
          · by_cases e : j = i
            · subst e
              rw [List.getElem?_eq_getElem h1] at hx
              exact Option.some.inj hx ▸ h3
            · exact (hq h).2 j x (by omega) h50 hx
        · refine ⟨false, Ev.step (fun k => ?_) (Ev.step (f := fun _ => some false) (g := fun k => decklelaw15_Few.j1 k (i : Int) true a b c d e f l) (fun k => ?_) (Ev.now _)), fun h => by cases h⟩
          · rw [decklelaw15_Few.l0, if_pos (by omega), decide_eq_true (by omega)]
          · rw [decklelaw15_Few.j1, if_pos rfl, if_pos (by omega), if_pos (by omega), rdOf_at l i h1, if_pos (by omega)]
      · exact hend i (.inr h2)
    · exact hend i (.inl h1)
theorem few_ev (a b c d e f : ByteArray) (l : List ByteArray) (hl : l.length ≤ 4611686018427387904) : ∃ r, Ev (fun k => decklelaw15_Few.f k a b c d e f l) r ∧ (r = true → FewH a b c d e f l) := by
  obtain ⟨r, h1, h2⟩ := few_loop a b c d e f l hl l.length 0 (by omega)
  refine ⟨r, h1, fun h => ?_⟩
  obtain ⟨⟨q1, q2, q3, q4, q5, q6, q7⟩, q8⟩ := h2 h
  refine ⟨q1, q2, q3, q4, q5, q6, q7, fun x hx => ?_⟩
  obtain ⟨j, hj, rfl⟩ := List.getElem_of_mem hx
  exact q8 j _ (Nat.zero_le _) (by omega) (List.getElem?_eq_getElem hj)
theorem FewH.lsum_le {a b c d e f : ByteArray} {l : List ByteArray} (h : FewH a b c d e f l) : lsum l ≤ 3100 := by
  have h1 : ∀ l : List ByteArray, (∀ x ∈ l, x.size ≤ 100) → lsum l ≤ l.length * 101 := by
    intro l
    induction l with
    | nil => intro _; exact Nat.le_refl _
    | cons x t ih =>
      intro hx
      have := ih (fun y hy => hx y (List.mem_cons_of_mem _ hy))
      have h2 := hx x (List.mem_cons_self ..)
      simp only [lsum, List.map_cons, List.sum_cons, List.length_cons] at this ⊢
      omega
  have := h1 l h.l
  have := h.n
  omega
theorem FewH.sized {a b c d e f : ByteArray} {l : List ByteArray} (h : FewH a b c d e f l) : HSized a b c d e f l := by
  have := h.lsum_le
  obtain ⟨h1, h2, h3, h4, h5, h6, h7, _⟩ := h
  exact ⟨by omega, by omega⟩

end Go.Proofs.YtmddkjmcbddhiaaDoor.P
