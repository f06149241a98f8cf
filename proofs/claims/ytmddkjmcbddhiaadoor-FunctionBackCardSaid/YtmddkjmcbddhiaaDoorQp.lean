/-
  Plain: signs in quotes: quotes doubled (esc), halved (unq), where they end; strings.ReplaceAll of two quotes by one is unq. No program in sight.
-/
import Derived.Lib.Replace
import Derived.Lib.MapLaws
import Derived.Lib.RuneBytes
namespace Go.Proofs.YtmddkjmcbddhiaaDoor.Q
set_option linter.unusedVariables false
set_option linter.unusedSimpArgs false

/-- Two quotes made one. -/
def unq : List UInt8 → List UInt8
  | [] => []
  | [c] => [c]
  | c :: d :: t => if c = 39 ∧ d = 39 then 39 :: unq t else c :: unq (d :: t)
theorem unq_skip {c : UInt8} {t : List UInt8} (h : ¬ [39, 39] <+: c :: t) : unq (c :: t) = c :: unq t := by
  cases t with
  | nil => rfl
  | cons d u =>
    rw [unq, if_neg]
    rintro ⟨rfl, rfl⟩
    exact h ⟨u, rfl⟩
theorem unq_two (t : List UInt8) : unq (39 :: 39 :: t) = 39 :: unq t := by rw [unq, if_pos ⟨rfl, rfl⟩]
theorem unq_len : ∀ (n : Nat) (s : List UInt8), s.length ≤ n → (unq s).length ≤ s.length
  | _, [], _ => Nat.le_refl _
  | _, [c], _ => Nat.le_refl _
  | 0, c :: d :: t, h => by simp at h
  | n + 1, c :: d :: t, h => by
    rw [unq]
    simp only [List.length_cons] at h
    split
    · have := unq_len n t (by omega)
      simp only [List.length_cons]
      omega
    · have := unq_len n (d :: t) (by simp only [List.length_cons]; omega)
      simp only [List.length_cons] at this ⊢
      omega
theorem pre_iff (s : List UInt8) : ([39, 39] : List UInt8).isPrefixOf s = true ↔ [39, 39] <+: s := List.isPrefixOf_iff_prefix
theorem unq_miss : ∀ s : List UInt8, Lib.index s [39, 39] = -1 → unq s = s
  | [], _ => rfl
  | b :: l, h => by
    unfold Lib.index at h
    split at h
    · cases h
    · rename_i hp
      have hg := Lib.index_ge l [39, 39]
      have h2 : Lib.index l [39, 39] = -1 := by
        split at h
        · rename_i h3; exact beq_iff_eq.1 h3
        · omega
      rw [unq_skip (fun hh => hp ((pre_iff _).2 hh)), unq_miss l h2]
theorem unq_hit : ∀ (s : List UInt8) (i : Nat), Lib.index s [39, 39] = (i : Int) → unq s = s.take i ++ 39 :: unq (s.drop (i + 2))
  | [], i, h => by
    unfold Lib.index at h
    simp at h
  | b :: l, i, h => by
    unfold Lib.index at h
    split at h
    · rename_i hp
      obtain ⟨t, ht⟩ := (pre_iff _).1 hp
      have hi : i = 0 := by omega
      subst hi
      rw [← ht]
      simp only [List.cons_append, List.nil_append, List.take_zero, List.drop_succ_cons, List.drop_zero]
      exact unq_two t
    · rename_i hp
      have hg := Lib.index_ge l [39, 39]
      split at h
      · omega
      · rename_i h3
        have h4 : ¬ Lib.index l [39, 39] = -1 := fun e => h3 (beq_iff_eq.2 e)
        obtain ⟨j, hj⟩ : ∃ j : Nat, Lib.index l [39, 39] = (j : Int) := ⟨(Lib.index l [39, 39]).toNat, by omega⟩
        have hi : i = j + 1 := by omega
        subst hi
        rw [unq_skip (fun hh => hp ((pre_iff _).2 hh)), unq_hit l j hj]
        simp
theorem replaceK_unq : ∀ (k : Nat) (s : List UInt8), Lib.count s [39, 39] ≤ k → Lib.replaceK [39, 39] [39] k s = unq s
  | 0, s, h => by
    have hg := Lib.index_ge s [39, 39]
    by_cases hm : Lib.index s [39, 39] = -1
    · rw [unq_miss s hm]; rfl
    · obtain ⟨i, hi⟩ : ∃ i : Nat, Lib.index s [39, 39] = (i : Int) := ⟨(Lib.index s [39, 39]).toNat, by omega⟩
      have := Lib.count_hit (sub := [39, 39]) (by simp) hi
      omega
  | k + 1, s, h => by
    have hg := Lib.index_ge s [39, 39]
    by_cases hm : Lib.index s [39, 39] = -1
    · rw [unq_miss s hm, Lib.replaceK, if_pos (beq_iff_eq.2 hm)]
    · obtain ⟨i, hi⟩ : ∃ i : Nat, Lib.index s [39, 39] = (i : Int) := ⟨(Lib.index s [39, 39]).toNat, by omega⟩
      have hc := Lib.count_hit (sub := [39, 39]) (by simp) hi
      rw [Lib.replaceK_hit _ _ _ _ _ hi, replaceK_unq k _ (by simp only [List.length_cons, List.length_nil] at hc ⊢; omega), unq_hit s i hi]
      simp
theorem replaceAll_unq (s : List UInt8) : Lib.replaceAll s [39, 39] [39] = unq s := by
  unfold Lib.replaceAll Lib.replace
  rw [if_neg (by decide)]
  unfold Lib.replaceNum
  rw [if_pos (.inl (by decide))]
  exact replaceK_unq _ s (Nat.le_refl _)

/-- Every quote doubled. -/
def esc : List UInt8 → List UInt8
  | [] => []
  | c :: t => if c = 39 then 39 :: 39 :: esc t else c :: esc t
theorem esc_append : ∀ a b : List UInt8, esc (a ++ b) = esc a ++ esc b
  | [], b => rfl
  | c :: t, b => by
    simp only [List.cons_append, esc]
    split
    · rw [esc_append t b]; rfl
    · rw [esc_append t b]; rfl
theorem unq_esc : ∀ a : List UInt8, unq (esc a) = a
  | [] => rfl
  | c :: t => by
    rw [esc]
    split
    · rename_i h
      rw [unq_two, unq_esc t, h]
    · rename_i h
      rw [unq_skip (fun hh => h (List.cons_prefix_cons.1 hh).1.symm), unq_esc t]
/-- Where signs end: the place of the first quote that no quote follows, quotes taken in twos; none: nowhere. -/
def endsL : List UInt8 → Option Nat
  | [] => none
  | [c] => if c = 39 then some 0 else none
  | c :: d :: t => if c = 39 then (if d = 39 then (endsL t).map (· + 2) else some 0) else (endsL (d :: t)).map (· + 1)
theorem endsL_skip {c : UInt8} (t : List UInt8) (h : c ≠ 39) : endsL (c :: t) = (endsL t).map (· + 1) := by
  cases t with
  | nil => simp [endsL, h]
  | cons d u => rw [endsL, if_neg h]
theorem endsL_two (t : List UInt8) : endsL (39 :: 39 :: t) = (endsL t).map (· + 2) := by rw [endsL, if_pos rfl, if_pos rfl]
theorem endsL_end {t : List UInt8} (h : ∀ u, t ≠ 39 :: u) : endsL (39 :: t) = some 0 := by
  cases t with
  | nil => rfl
  | cons d u =>
    rw [endsL, if_pos rfl, if_neg]
    rintro rfl
    exact h u rfl
theorem endsL_esc {r : List UInt8} (h : ∀ u, r ≠ 39 :: u) : ∀ a : List UInt8, endsL (esc a ++ 39 :: r) = some (esc a).length
  | [] => endsL_end h
  | c :: t => by
    rw [esc]
    split
    · simp only [List.cons_append, endsL_two, endsL_esc h t, Option.map_some, List.length_cons]
    · rename_i hc
      simp only [List.cons_append, endsL_skip _ hc, endsL_esc h t, Option.map_some, List.length_cons]
/-- What ends is doubled quotes, a quote, and what begins with none. -/
theorem endsL_some : ∀ (n : Nat) (s : List UInt8) (e : Nat), s.length ≤ n → endsL s = some e → ∃ a r, s = esc a ++ 39 :: r ∧ (esc a).length = e ∧ ∀ u, r ≠ 39 :: u
  | _, [], e, _, h => by cases h
  | _, [c], e, _, h => by
    unfold endsL at h
    split at h
    · rename_i hc
      obtain rfl := Option.some.inj h
      exact ⟨[], [], by rw [hc]; rfl, rfl, fun u h => by cases h⟩
    · cases h
  | 0, c :: d :: t, e, hn, _ => by simp at hn
  | n + 1, c :: d :: t, e, hn, h => by
    simp only [List.length_cons] at hn
    by_cases hc : c = 39
    · subst hc
      by_cases hd : d = 39
      · subst hd
        rw [endsL_two] at h
        obtain ⟨e2, h1, h2⟩ := Option.map_eq_some_iff.1 h
        obtain ⟨a, r, rfl, h4, h5⟩ := endsL_some n t e2 (by omega) h1
        exact ⟨39 :: a, r, by rw [esc, if_pos rfl]; rfl, by rw [esc, if_pos rfl]; simp only [List.length_cons]; omega, h5⟩
      · rw [endsL, if_pos rfl, if_neg hd] at h
        obtain rfl := Option.some.inj h
        exact ⟨[], d :: t, rfl, rfl, fun u hu => hd (List.cons.inj hu).1⟩
    · rw [endsL_skip _ hc] at h
      obtain ⟨e2, h1, h2⟩ := Option.map_eq_some_iff.1 h
      obtain ⟨a, r, h3, h4, h5⟩ := endsL_some n (d :: t) e2 (by simp only [List.length_cons]; omega) h1
      exact ⟨c :: a, r, by rw [h3, esc, if_neg hc]; rfl, by rw [esc, if_neg hc]; simp only [List.length_cons]; omega, h5⟩
end Go.Proofs.YtmddkjmcbddhiaaDoor.Q
