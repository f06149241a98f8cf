/-
  Plain: what Few and the reference's Same come to. No memory in sight.
  Plain: a header with one local more, or with a result; how long a header's text is. No memory in sight.
-/
import Derived.Test.YtmddkjmcbddhiaaP13
import Derived.Test.YtmddkjmcbddhiaaP12
import Derived.Test.YtmddkjmcbddhiaaPa
section
namespace Go.Proofs.Ytmddkjmcbddhiaa.P
open Go.RowKit Go.Proofs.YtmddkjmcbddhiaaW.PrintWords Go.Proofs.Ytmddkjmcbddhiaa.Sp
set_option linter.unusedVariables false
set_option linter.unusedSimpArgs false

/-- Few and short. -/
structure FewH (a b c d e f : ByteArray) (l : List ByteArray) : Prop where
  a : a.size ≤ 100
  b : b.size ≤ 100
  c : c.size ≤ 100
  d : d.size ≤ 100
  e : e.size ≤ 100
  f : f.size ≤ 100
  n : l.length ≤ 30
  l : ∀ x ∈ l, x.size ≤ 100
theorem few_end (a b c d e f : ByteArray) (l : List ByteArray) (i : Int) : ∃ r, (∀ k, decklelaw15_Few.j1 (k + 1) i false a b c d e f l = some r) ∧ (r = true → a.size ≤ 100 ∧ b.size ≤ 100 ∧ c.size ≤ 100 ∧ d.size ≤ 100 ∧ e.size ≤ 100 ∧ f.size ≤ 100 ∧ l.length ≤ 30) := by
  simp only [decklelaw15_Few.j1, Bool.false_eq_true, if_false]
  repeat' split
  all_goals first
    | exact ⟨false, fun _ => rfl, fun h => by cases h⟩
    | (refine ⟨_, fun _ => rfl, fun h => ?_⟩; have := of_decide_eq_true h; omega)
theorem few_loop (a b c d e f : ByteArray) (l : List ByteArray) (hl : l.length ≤ 4611686018427387904) (n : Nat) : ∀ i : Nat, l.length ≤ i + n →
    ∃ r, Ev (fun k => decklelaw15_Few.l0 k (i : Int) a b c d e f l) r ∧ (r = true → (a.size ≤ 100 ∧ b.size ≤ 100 ∧ c.size ≤ 100 ∧ d.size ≤ 100 ∧ e.size ≤ 100 ∧ f.size ≤ 100 ∧ l.length ≤ 30) ∧ ∀ j x, i ≤ j → j < 50 → l[j]? = some x → x.size ≤ 100) := by
  have hend : ∀ i : Nat, ¬ i < l.length ∨ ¬ i < 50 → ∃ r, Ev (fun k => decklelaw15_Few.l0 k (i : Int) a b c d e f l) r ∧ (r = true → (a.size ≤ 100 ∧ b.size ≤ 100 ∧ c.size ≤ 100 ∧ d.size ≤ 100 ∧ e.size ≤ 100 ∧ f.size ≤ 100 ∧ l.length ≤ 30) ∧ ∀ j x, i ≤ j → j < 50 → l[j]? = some x → x.size ≤ 100) := by
    intro i hi
    obtain ⟨r, h1, h2⟩ := few_end a b c d e f l (i : Int)
    refine ⟨r, ⟨2, fun k hk => ?_⟩, fun hr => ⟨h2 hr, fun j x hj h50 hx => ?_⟩⟩
    · obtain ⟨m, rfl⟩ : ∃ m, k = m + 2 := ⟨k - 2, by omega⟩
      show decklelaw15_Few.l0 (m + 1 + 1) _ _ _ _ _ _ _ _ = _
      rw [decklelaw15_Few.l0]
      split
      · rw [decide_eq_false (by omega)]; exact h1 m
      · exact h1 m
    · obtain ⟨hlt, _⟩ := List.getElem?_eq_some_iff.1 hx
      rcases hi with hi | hi <;> omega
  induction n with
  | zero => intro i hi; exact hend i (.inl (by omega))
  | succ n ih =>
    intro i hi
    by_cases h1 : i < l.length
    · by_cases h2 : i < 50
      · by_cases h3 : l[i].size ≤ 100
        · obtain ⟨r, hr, hq⟩ := ih (i + 1) (by omega)
          refine ⟨r, Ev.step (fun k => ?_) (Ev.step (f := fun k => decklelaw15_Few.l0 k ((i + 1 : Nat) : Int) a b c d e f l) (g := fun k => decklelaw15_Few.j1 k (i : Int) true a b c d e f l) (fun k => ?_) hr), fun h => ⟨(hq h).1, fun j x hj h50 hx => ?_⟩⟩
          · rw [decklelaw15_Few.l0, if_pos (by omega), decide_eq_true (by omega)]
          · rw [decklelaw15_Few.j1, if_pos rfl, if_pos (by omega), if_pos (by omega), rdOf_at l i h1, if_neg (by omega), wrap_nat rfl (by omega)]
          · by_cases e : j = i
            · subst e
              rw [List.getElem?_eq_getElem h1] at hx
              exact Option.some.inj hx ▸ h3
            · exact (hq h).2 j x (by omega) h50 hx
        · refine ⟨false, Ev.step (fun k => ?_) (Ev.step (f := fun _ => some false) (g := fun k => decklelaw15_Few.j1 k (i : Int) true a b c d e f l) (fun k => ?_) (Ev.now _)), fun h => by cases h⟩
          · rw [decklelaw15_Few.l0, if_pos (by omega), decide_eq_true (by omega)]
          · rw [decklelaw15_Few.j1, if_pos rfl, if_pos (by omega), if_pos (by omega), rdOf_at l i h1, if_pos (by omega)]
      · exact hend i (.inr h2)
    · exact hend i (.inl h1)
theorem few_ev (a b c d e f : ByteArray) (l : List ByteArray) (hl : l.length ≤ 4611686018427387904) : ∃ r, Ev (fun k => decklelaw15_Few.f k a b c d e f l) r ∧ (r = true → FewH a b c d e f l) := by
  obtain ⟨r, h1, h2⟩ := few_loop a b c d e f l hl l.length 0 (by omega)
  refine ⟨r, h1, fun h => ?_⟩
  obtain ⟨⟨q1, q2, q3, q4, q5, q6, q7⟩, q8⟩ := h2 h
  refine ⟨q1, q2, q3, q4, q5, q6, q7, fun x hx => ?_⟩
  obtain ⟨j, hj, rfl⟩ := List.getElem_of_mem hx
  exact q8 j _ (Nat.zero_le _) (by omega) (List.getElem?_eq_getElem hj)
theorem FewH.lsum_le {a b c d e f : ByteArray} {l : List ByteArray} (h : FewH a b c d e f l) : lsum l ≤ 3100 := by
  have h1 : ∀ l : List ByteArray, (∀ x ∈ l, x.size ≤ 100) → lsum l ≤ l.length * 101 := by
    intro l
    induction l with
    | nil => intro _; exact Nat.le_refl _
    | cons x t ih =>
      intro hx
      have := ih (fun y hy => hx y (List.mem_cons_of_mem _ hy))
      have h2 := hx x (List.mem_cons_self ..)
      simp only [lsum, List.map_cons, List.sum_cons, List.length_cons] at this ⊢
      omega
  have := h1 l h.l
  have := h.n
  omega
theorem FewH.sized {a b c d e f : ByteArray} {l : List ByteArray} (h : FewH a b c d e f l) : HSized a b c d e f l := by
  have := h.lsum_le
  obtain ⟨h1, h2, h3, h4, h5, h6, h7, _⟩ := h
  exact ⟨by omega, by omega⟩

theorem same_loop (x y : List ByteArray) (he : x.length = y.length) (hl : x.length ≤ 4611686018427387904) (n : Nat) : ∀ i : Nat, x.length ≤ i + n →
    Ev (fun k => deckleref15_Same.l0 k x y (i : Int)) (decide (bys (x.drop i) = bys (y.drop i))) := by
  induction n with
  | zero =>
    intro i hi
    refine Ev.step (f := fun _ => some _) (fun k => ?_) (Ev.now _)
    rw [deckleref15_Same.l0, if_neg (by omega), List.drop_eq_nil_of_le (by omega), List.drop_eq_nil_of_le (by omega)]
    rfl
  | succ n ih =>
    intro i hi
    by_cases h1 : i < x.length
    · have h2 : i < y.length := by omega
      have dx := drop_cons x i h1
      have dy := drop_cons y i h2
      by_cases h3 : x[i].data.toList = y[i].data.toList
      · refine Ev.step (f := fun k => deckleref15_Same.l0 k x y ((i + 1 : Nat) : Int)) (fun k => ?_) ?_
        · rw [deckleref15_Same.l0, if_pos (by omega), if_pos (by omega), if_pos (by omega), rdOf_at x i h1, rdOf_at y i h2, ByteArray.toList_eq, ByteArray.toList_eq, if_pos h3, wrap_nat rfl (by omega)]
        · have e : decide (bys (x.drop i) = bys (y.drop i)) = decide (bys (x.drop (i + 1)) = bys (y.drop (i + 1))) := by
            refine decide_eq_decide.2 ⟨fun h => ?_, fun h => ?_⟩
            · rw [dx, dy] at h
              exact (List.cons.inj h).2
            · rw [dx, dy]
              show x[i].data.toList :: bys (x.drop (i + 1)) = y[i].data.toList :: bys (y.drop (i + 1))
              rw [h3, h]
          rw [e]
          exact ih (i + 1) (by omega)
      · refine Ev.step (f := fun _ => some _) (fun k => ?_) (Ev.now _)
        rw [deckleref15_Same.l0, if_pos (by omega), if_pos (by omega), if_pos (by omega), rdOf_at x i h1, rdOf_at y i h2, ByteArray.toList_eq, ByteArray.toList_eq, if_neg h3, decide_eq_false]
        intro h
        rw [dx, dy] at h
        exact h3 (List.cons.inj h).1
    · refine Ev.step (f := fun _ => some _) (fun k => ?_) (Ev.now _)
      rw [deckleref15_Same.l0, if_neg (by omega), List.drop_eq_nil_of_le (by omega), List.drop_eq_nil_of_le (by omega)]
      rfl
/-- The reference's Same of a header and itself. -/
theorem same_self (a b c d e f : ByteArray) (l : List ByteArray) (hl : l.length ≤ 1099511627776) : Ev (fun k => deckleref15_Same.f k a b c d e f l a b c d e f l) true := by
  have h := same_loop ([a, b, c, d, e, f] ++ l) ([a, b, c, d, e, f] ++ l) rfl (by rw [List.length_append]; simp; omega) _ 0 (Nat.le_add_left _ _)
  rw [decide_eq_true rfl] at h
  refine Ev.congr (fun k => ?_) h
  have h6 : ([a, b, c, d, e, f] : List ByteArray).length + l.length < 8796093022208 := by simp; omega
  unfold deckleref15_Same.f deckleref15_all.f
  simp only [Option.bind_some, if_pos h6, if_true]
  rfl
end Go.Proofs.Ytmddkjmcbddhiaa.P
end
section
namespace Go.Proofs.Ytmddkjmcbddhiaa.P
open Go.RowKit Go.Proofs.YtmddkjmcbddhiaaW.PrintWords Go.Proofs.Ytmddkjmcbddhiaa.Sp
set_option linter.unusedVariables false
set_option linter.unusedSimpArgs false

theorem unlFrom_snoc (s : List UInt8) : ∀ (xs seen : List (List UInt8)), unlFrom seen (xs ++ [s]) = (unlFrom seen xs && !(decide (s ≠ [] ∧ s ∈ seen ++ xs)))
  | [], seen => by
    simp only [List.nil_append, List.append_nil, unlFrom]
    by_cases h : s ≠ [] ∧ s ∈ seen
    · rw [if_pos h]; simp [h]
    · rw [if_neg h, decide_eq_false h]; rfl
  | x :: t, seen => by
    simp only [List.cons_append, unlFrom]
    by_cases h : x ≠ [] ∧ x ∈ seen
    · rw [if_pos h, if_pos h]; rfl
    · rw [if_neg h, if_neg h, unlFrom_snoc s t (seen ++ [x])]
      simp
theorem unl_snoc (s : List UInt8) (xs : List (List UInt8)) : unl (xs ++ [s]) = (unl xs && !(decide (s ≠ [] ∧ s ∈ xs))) := by
  unfold unl
  rw [unlFrom_snoc]
  simp
theorem hdrOk_snoc {r lf nm rt f g s : List UInt8} {ls : List (List UInt8)} (hs : isName s = true) : hdrOk r lf nm rt f g (ls ++ [s]) = (hdrOk r lf nm rt f g ls && !(decide (s ∈ [r, lf, nm, rt, f, g] ++ ls))) := by
  have hne := isName_ne hs
  have h1 : mayB s = true := mayB_iff.2 (.inr hs)
  have h2 : (!(s == [])) = true := by simpa using hne
  unfold hdrOk
  rw [← List.append_assoc, List.all_append, List.all_append, List.all_append, unl_snoc]
  have e1 : ([s].all mayB) = true := by simp [h1]
  have e2 : ([s].all fun x => !(x == [])) = true := by simpa using hne
  have e3 : (decide (s ≠ [] ∧ s ∈ [r, lf, nm, rt, f, g] ++ ls)) = decide (s ∈ [r, lf, nm, rt, f, g] ++ ls) := decide_eq_decide.2 ⟨fun h => h.2, fun h => ⟨hne, h⟩⟩
  rw [e1, e2, e3]
  simp only [Bool.and_true, Bool.and_assoc]
theorem hdrText_snoc (r lf nm rt f g s : List UInt8) (ls : List (List UInt8)) : hdrText r lf nm rt f g (ls ++ [s]) = hdrText r lf nm rt f g ls ++ 59 :: s := by
  unfold hdrText
  simp
theorem hdrOk_result {lf nm rt f g s : List UInt8} {ls : List (List UInt8)} (hs : isName s = true) (h : hdrOk [] lf nm rt f g ls = true) : hdrOk s lf nm rt f g ls = unl ([s, lf, nm, rt, f, g] ++ ls) := by
  have h1 : mayB s = true := mayB_iff.2 (.inr hs)
  unfold hdrOk at h ⊢
  simp only [Bool.and_eq_true, List.all_append, List.all_cons] at h ⊢
  obtain ⟨⟨⟨⟨⟨k1, ⟨⟨_, k2⟩, k3⟩⟩, k4⟩, k5⟩, k6⟩, _⟩ := h
  simp only [k1, h1, k2, k3, k4, k5, k6, Bool.true_and, Bool.and_true]
theorem hdrText_result {s : List UInt8} (hs : isName s = true) (lf nm rt f g : List UInt8) (ls : List (List UInt8)) : hdrText s lf nm rt f g ls = s ++ [226, 134, 144] ++ hdrText [] lf nm rt f g ls := by
  unfold hdrText putS
  rw [if_neg (isName_ne hs), if_pos rfl]
  simp
theorem putS_len (s t : List UInt8) : (putS s t).length ≤ s.length + t.length := by
  unfold putS
  split
  · exact Nat.zero_le _
  · rw [List.length_append]; exact Nat.le_refl _
theorem flat_len2 (ls : List (List UInt8)) : (ls.flatMap fun s => 59 :: s).length = (ls.map fun s => s.length + 1).sum := by
  induction ls with
  | nil => rfl
  | cons a t ih => simp only [List.flatMap_cons, List.length_append, List.length_cons, ih, List.map_cons, List.sum_cons]
theorem text_len (r lf nm rt f g : List UInt8) (ls : List (List UInt8)) : (hdrText r lf nm rt f g ls).length ≤ r.length + lf.length + nm.length + rt.length + f.length + g.length + (ls.map fun s => s.length + 1).sum + 20 := by
  have h1 := putS_len r [226, 134, 144]
  have h2 := putS_len lf [32]
  have h3 := flat_len2 ls
  have h4 : (if f = [] then nm else 40 :: f ++ 32 :: nm ++ (if g = [] then [] else 32 :: g) ++ [41]).length ≤ f.length + nm.length + g.length + 5 := by
    repeat' split
    all_goals (try simp only [List.length_append, List.length_cons, List.length_nil])
    all_goals omega
  have h5 : (if rt = [] then [] else 32 :: rt).length ≤ rt.length + 1 := by
    split
    · exact Nat.zero_le _
    · simp
  unfold hdrText
  simp only [List.length_append, h3]
  simp only [List.length_cons, List.length_nil] at h1 h2
  omega
theorem lsum_bys (l : List ByteArray) : ((bys l).map fun s => s.length + 1).sum = lsum l := by
  unfold bys lsum
  rw [List.map_map]
  congr 1
theorem Raw.text_len {R : Raw} {n : Nat} (h : R.a.size + R.b.size + R.c.size + R.d.size + R.e.size + R.f.size + lsum R.ls ≤ n) : R.text.length ≤ n + 20 := by
  have := P.text_len R.a.data.toList R.b.data.toList R.c.data.toList R.d.data.toList R.e.data.toList R.f.data.toList (bys R.ls)
  rw [lsum_bys] at this
  simp only [length_data] at this
  unfold Raw.text
  omega
end Go.Proofs.Ytmddkjmcbddhiaa.P
end
