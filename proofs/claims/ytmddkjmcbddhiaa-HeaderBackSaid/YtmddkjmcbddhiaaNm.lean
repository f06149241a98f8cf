/-
  Plain: names as lists of bytes: how many bytes a sign has that begins a name or goes on, how far a name reaches, how many signs it has; and that the program's runes tell the same. No program in sight.
-/
import Derived.Test.YtmddkjmcbddhiaaSp
import Derived.Lib.DecodeN
import Derived.Lib.RuneCount
namespace Go.Proofs.Ytmddkjmcbddhiaa.Sp
set_option linter.unusedVariables false
set_option linter.unusedSimpArgs false

/-- The byte at place i, as a number (0 beyond the end). -/
def at8 (l : List UInt8) (i : Nat) : Nat := (l.getD i 0).toNat
theorem at8_lt (l : List UInt8) (i : Nat) : at8 l i < 256 := (l.getD i 0).toNat_lt
def letN (b : Nat) : Bool := (65 ≤ b && b ≤ 90) || (97 ≤ b && b ≤ 122) || b == 95
def bgN (n b0 b1 b2 : Nat) : Nat :=
  if letN b0 = true then 1 else if b0 = 226 ∧ 2 < n ∧ (b1 = 136 ∧ b2 = 134 ∨ b1 = 141 ∧ b2 = 153) then 3 else 0
def gN (n b0 b1 b2 : Nat) : Nat :=
  if 48 ≤ b0 ∧ b0 ≤ 57 then 1 else if b0 = 194 ∧ 1 < n ∧ b1 = 175 then 2 else bgN n b0 b1 b2
/-- How many bytes a sign has that begins a name, or goes on, and stands first (0: none does). -/
def bgW (l : List UInt8) : Nat := bgN l.length (at8 l 0) (at8 l 1) (at8 l 2)
def gW (l : List UInt8) : Nat := gN l.length (at8 l 0) (at8 l 1) (at8 l 2)

theorem at8_drop (l : List UInt8) (p i : Nat) : at8 (l.drop p) i = at8 l (p + i) := by simp [at8, List.getD, List.getElem?_drop]
theorem at8_append (l r : List UInt8) (i : Nat) (h : i < l.length) : at8 (l ++ r) i = at8 l i := by simp [at8, List.getD, List.getElem?_append_left h]
theorem at8_take (l : List UInt8) (m i : Nat) (h : i < m) : at8 (l.take m) i = at8 l i := by simp [at8, List.getD, List.getElem?_take, h]
theorem at8_end (l : List UInt8) (i : Nat) (h : l.length ≤ i) : at8 l i = 0 := by simp [at8, List.getD, List.getElem?_eq_none h]

theorem letN_pos {b : Nat} (h : letN b = true) : 65 ≤ b ∧ b ≤ 122 := by
  simp only [letN, Bool.or_eq_true, Bool.and_eq_true, decide_eq_true_eq, beq_iff_eq] at h
  omega
theorem bgN_le {n b0 b1 b2 : Nat} (h0 : n = 0 → b0 = 0) : bgN n b0 b1 b2 ≤ n ∧ bgN n b0 b1 b2 ≤ 3 := by
  unfold bgN
  split
  · rename_i h
    have := letN_pos h
    omega
  · split <;> omega
theorem gN_le {n b0 b1 b2 : Nat} (h0 : n = 0 → b0 = 0) : gN n b0 b1 b2 ≤ n ∧ gN n b0 b1 b2 ≤ 3 := by
  unfold gN
  split
  · omega
  · split
    · omega
    · exact bgN_le h0
theorem at8_nil0 (l : List UInt8) : l.length = 0 → at8 l 0 = 0 := fun h => at8_end l 0 (by omega)
theorem bgW_le (l : List UInt8) : bgW l ≤ l.length := (bgN_le (at8_nil0 l)).1
theorem gW_le (l : List UInt8) : gW l ≤ l.length := (gN_le (at8_nil0 l)).1
theorem gW_le3 (l : List UInt8) : gW l ≤ 3 := (gN_le (at8_nil0 l)).2
theorem gW_nil : gW [] = 0 := rfl
theorem bgW_nil : bgW [] = 0 := rfl

/-- What begins a name goes on. -/
theorem gW_of_bgW {l : List UInt8} (h : bgW l ≠ 0) : gW l = bgW l := by
  unfold bgW at h ⊢
  unfold gW gN
  have hb : ¬ (48 ≤ at8 l 0 ∧ at8 l 0 ≤ 57) ∧ at8 l 0 ≠ 194 := by
    unfold bgN at h
    split at h
    · rename_i h1
      have := letN_pos h1
      refine ⟨?_, by omega⟩
      intro h2
      omega
    · split at h
      · rename_i h1
        omega
      · exact absurd rfl h
  rw [if_neg hb.1, if_neg (fun h1 => hb.2 h1.1)]

/-- A sign is told by its own bytes: what stands behind it makes no odds. -/
theorem gN_more {n m b0 b1 b2 c1 c2 : Nat} (hm : n ≤ m) (h : gN n b0 b1 b2 ≠ 0) (h1 : 1 < gN n b0 b1 b2 → c1 = b1) (h2 : 2 < gN n b0 b1 b2 → c2 = b2) (hn : gN n b0 b1 b2 ≤ n) : gN m b0 c1 c2 = gN n b0 b1 b2 := by
  unfold gN at *
  split
  · rfl
  · rename_i hd
    rw [if_neg hd] at h h1 h2 hn
    by_cases ho : b0 = 194 ∧ 1 < n ∧ b1 = 175
    · rw [if_pos ho] at h1 ⊢
      rw [if_pos ⟨ho.1, by omega, by rw [h1 (by omega)]; exact ho.2.2⟩]
    · rw [if_neg ho] at h h1 h2 hn ⊢
      unfold bgN at *
      by_cases hl : letN b0 = true
      · have := letN_pos hl
        rw [if_neg (by omega), if_pos hl, if_pos hl]
      · rw [if_neg hl] at h h1 h2 hn ⊢
        by_cases h3 : b0 = 226 ∧ 2 < n ∧ (b1 = 136 ∧ b2 = 134 ∨ b1 = 141 ∧ b2 = 153)
        · rw [if_pos h3] at h1 h2 ⊢
          rw [if_neg (by omega), if_neg hl, if_pos ⟨h3.1, by omega, by rw [h1 (by omega), h2 (by omega)]; exact h3.2.2⟩]
        · rw [if_neg h3] at h
          exact absurd rfl h
theorem gW_append {l : List UInt8} (r : List UInt8) (h : gW l ≠ 0) : gW (l ++ r) = gW l := by
  have hl := gW_le l
  have e0 : at8 (l ++ r) 0 = at8 l 0 := at8_append l r 0 (by omega)
  unfold gW at *
  rw [e0]
  exact gN_more (by simp) h (fun h1 => at8_append l r 1 (by omega)) (fun h2 => at8_append l r 2 (by omega)) hl
theorem gW_take {l : List UInt8} {m : Nat} (h : gW (l.take m) ≠ 0) : gW l = gW (l.take m) := by
  have := gW_append (l.drop m) h
  rwa [List.take_append_drop] at this
theorem bgW_more {n m b0 b1 b2 c1 c2 : Nat} (hm : n ≤ m) (h : bgN n b0 b1 b2 ≠ 0) (h1 : 1 < bgN n b0 b1 b2 → c1 = b1) (h2 : 2 < bgN n b0 b1 b2 → c2 = b2) (hn : bgN n b0 b1 b2 ≤ n) : bgN m b0 c1 c2 = bgN n b0 b1 b2 := by
  unfold bgN at *
  by_cases hl : letN b0 = true
  · rw [if_pos hl, if_pos hl]
  · rw [if_neg hl] at h h1 h2 hn ⊢
    by_cases h3 : b0 = 226 ∧ 2 < n ∧ (b1 = 136 ∧ b2 = 134 ∨ b1 = 141 ∧ b2 = 153)
    · rw [if_pos h3] at h1 h2 ⊢
      rw [if_neg hl, if_pos ⟨h3.1, by omega, by rw [h1 (by omega), h2 (by omega)]; exact h3.2.2⟩]
    · rw [if_neg h3] at h
      exact absurd rfl h
theorem bgW_append {l : List UInt8} (r : List UInt8) (h : bgW l ≠ 0) : bgW (l ++ r) = bgW l := by
  have hl := bgW_le l
  have e0 : at8 (l ++ r) 0 = at8 l 0 := at8_append l r 0 (by omega)
  unfold bgW at *
  rw [e0]
  exact bgW_more (by simp) h (fun h1 => at8_append l r 1 (by omega)) (fun h2 => at8_append l r 2 (by omega)) hl
/-- Cut behind its own bytes a sign is the same. -/
theorem gW_take_of {l : List UInt8} {m : Nat} (h : gW l ≤ m) : gW (l.take m) = gW l := by
  by_cases hz : gW l = 0
  · by_cases hz2 : gW (l.take m) = 0
    · rw [hz, hz2]
    · exact (gW_take hz2).symm
  · have hle := gW_le l
    by_cases hml : l.length ≤ m
    · rw [List.take_of_length_le hml]
    · have hlen : (l.take m).length = m := by rw [List.length_take]; omega
      have e0 : at8 (l.take m) 0 = at8 l 0 := at8_take l m 0 (by omega)
      have hl3 := gW_le3 l
      unfold gW at *
      rw [e0, hlen]
      have e1 : 1 < m → at8 (l.take m) 1 = at8 l 1 := fun h1 => at8_take l m 1 h1
      have e2 : 2 < m → at8 (l.take m) 2 = at8 l 2 := fun h1 => at8_take l m 2 h1
      unfold gN bgN at *
      by_cases hd : 48 ≤ at8 l 0 ∧ at8 l 0 ≤ 57
      · rw [if_pos hd, if_pos hd]
      · rw [if_neg hd] at h hz hle ⊢
        rw [if_neg hd]
        by_cases ho : at8 l 0 = 194 ∧ 1 < l.length ∧ at8 l 1 = 175
        · rw [if_pos ho] at h ⊢
          rw [if_pos ⟨ho.1, by omega, by rw [e1 (by omega)]; exact ho.2.2⟩]
        · rw [if_neg ho] at h hz hle ⊢
          by_cases hl : letN (at8 l 0) = true
          · have := letN_pos hl
            rw [if_neg (by omega), if_pos hl, if_pos hl]
          · rw [if_neg hl] at h hz hle ⊢
            by_cases h3 : at8 l 0 = 226 ∧ 2 < l.length ∧ (at8 l 1 = 136 ∧ at8 l 2 = 134 ∨ at8 l 1 = 141 ∧ at8 l 2 = 153)
            · rw [if_pos h3] at h ⊢
              rw [if_neg (by omega), if_neg hl, if_pos ⟨h3.1, by omega, by rw [e1 (by omega), e2 (by omega)]; exact h3.2.2⟩]
            · rw [if_neg h3] at hz
              exact absurd rfl hz

theorem bgW_take_of {l : List UInt8} {m : Nat} (h : bgW l ≤ m) : bgW (l.take m) = bgW l := by
  by_cases hz2 : bgW (l.take m) = 0
  · by_cases hz : bgW l = 0
    · rw [hz, hz2]
    · exfalso
      have hg : gW (l.take m) = bgW l := by rw [← gW_of_bgW hz]; exact gW_take_of (by rw [gW_of_bgW hz]; exact h)
      have e0 : at8 (l.take m) 0 = at8 l 0 := at8_take l m 0 (by omega)
      -- what begins is no digit and not the sign that only goes on
      unfold gW gN at hg
      unfold bgW at hz2
      rw [hz2, e0] at hg
      unfold bgW at hz hg
      have hb : ¬ (48 ≤ at8 l 0 ∧ at8 l 0 ≤ 57) ∧ at8 l 0 ≠ 194 := by
        unfold bgN at hz
        by_cases h1 : letN (at8 l 0) = true
        · have := letN_pos h1
          refine ⟨?_, by omega⟩
          intro h2
          omega
        · rw [if_neg h1] at hz
          by_cases h2 : at8 l 0 = 226 ∧ 2 < l.length ∧ (at8 l 1 = 136 ∧ at8 l 2 = 134 ∨ at8 l 1 = 141 ∧ at8 l 2 = 153)
          · omega
          · rw [if_neg h2] at hz
            exact absurd rfl hz
      rw [if_neg hb.1, if_neg (fun h1 => hb.2 h1.1)] at hg
      exact hz hg.symm
  · have := bgW_append (l.drop m) hz2
    rw [List.take_append_drop] at this
    exact this.symm

/-! ### How far signs go on, and how many they are -/
def goLen : Nat → List UInt8 → Nat
  | 0, _ => 0
  | f + 1, l => if gW l = 0 then 0 else gW l + goLen f (l.drop (gW l))
def gl (l : List UInt8) : Nat := goLen l.length l
def csN : Nat → List UInt8 → Nat
  | 0, _ => 0
  | f + 1, l => if gW l = 0 then 0 else 1 + csN f (l.drop (gW l))
/-- The number of signs that go on from the start. -/
def cs (l : List UInt8) : Nat := csN l.length l
theorem goLen_fuel : ∀ (f g : Nat) (l : List UInt8), l.length ≤ f → l.length ≤ g → goLen f l = goLen g l
  | 0, 0, _, _, _ => rfl
  | 0, g + 1, l, h, _ => by
    have : l = [] := List.eq_nil_of_length_eq_zero (by omega)
    subst this
    simp [goLen, gW_nil]
  | f + 1, 0, l, _, h => by
    have : l = [] := List.eq_nil_of_length_eq_zero (by omega)
    subst this
    simp [goLen, gW_nil]
  | f + 1, g + 1, l, h1, h2 => by
    unfold goLen
    by_cases hz : gW l = 0
    · rw [if_pos hz, if_pos hz]
    · rw [if_neg hz, if_neg hz, goLen_fuel f g (l.drop (gW l)) (by rw [List.length_drop]; omega) (by rw [List.length_drop]; omega)]
theorem csN_fuel : ∀ (f g : Nat) (l : List UInt8), l.length ≤ f → l.length ≤ g → csN f l = csN g l
  | 0, 0, _, _, _ => rfl
  | 0, g + 1, l, h, _ => by
    have : l = [] := List.eq_nil_of_length_eq_zero (by omega)
    subst this
    simp [csN, gW_nil]
  | f + 1, 0, l, _, h => by
    have : l = [] := List.eq_nil_of_length_eq_zero (by omega)
    subst this
    simp [csN, gW_nil]
  | f + 1, g + 1, l, h1, h2 => by
    unfold csN
    by_cases hz : gW l = 0
    · rw [if_pos hz, if_pos hz]
    · rw [if_neg hz, if_neg hz, csN_fuel f g (l.drop (gW l)) (by rw [List.length_drop]; omega) (by rw [List.length_drop]; omega)]
theorem gl_zero {l : List UInt8} (h : gW l = 0) : gl l = 0 := by
  unfold gl
  cases l with
  | nil => rfl
  | cons a t => simp only [List.length_cons, goLen, if_pos h]
theorem gl_step {l : List UInt8} (h : gW l ≠ 0) : gl l = gW l + gl (l.drop (gW l)) := by
  unfold gl
  have hl := gW_le l
  obtain ⟨n, hn⟩ : ∃ n, l.length = n + 1 := ⟨l.length - 1, by omega⟩
  rw [hn]
  show (if gW l = 0 then 0 else gW l + goLen n (l.drop (gW l))) = _
  rw [if_neg h, goLen_fuel n (l.drop (gW l)).length _ (by rw [List.length_drop]; omega) (Nat.le_refl _)]
theorem cs_zero {l : List UInt8} (h : gW l = 0) : cs l = 0 := by
  unfold cs
  cases l with
  | nil => rfl
  | cons a t => simp only [List.length_cons, csN, if_pos h]
theorem cs_step {l : List UInt8} (h : gW l ≠ 0) : cs l = 1 + cs (l.drop (gW l)) := by
  unfold cs
  have hl := gW_le l
  obtain ⟨n, hn⟩ : ∃ n, l.length = n + 1 := ⟨l.length - 1, by omega⟩
  rw [hn]
  show (if gW l = 0 then 0 else 1 + csN n (l.drop (gW l))) = _
  rw [if_neg h, csN_fuel n (l.drop (gW l)).length _ (by rw [List.length_drop]; omega) (Nat.le_refl _)]
/-- Induction along the signs. -/
theorem signs_ind {p : List UInt8 → Prop} (h0 : ∀ l, gW l = 0 → p l) (h1 : ∀ l, gW l ≠ 0 → p (l.drop (gW l)) → p l) : ∀ l, p l := by
  have key : ∀ n (l : List UInt8), l.length ≤ n → p l := by
    intro n
    induction n with
    | zero =>
      intro l hl
      exact h0 l (by have := gW_le l; omega)
    | succ n ih =>
      intro l hl
      by_cases hz : gW l = 0
      · exact h0 l hz
      · exact h1 l hz (ih _ (by rw [List.length_drop]; have := gW_le l; omega))
  exact fun l => key l.length l (Nat.le_refl _)
theorem gl_le (l : List UInt8) : gl l ≤ l.length := by
  induction l using signs_ind with
  | h0 l h => rw [gl_zero h]; omega
  | h1 l h ih =>
    rw [gl_step h]
    rw [List.length_drop] at ih
    have := gW_le l
    omega
/-- Behind the last sign none goes on. -/
theorem gW_behind (l : List UInt8) : gW (l.drop (gl l)) = 0 := by
  induction l using signs_ind with
  | h0 l h => rw [gl_zero h]; exact h
  | h1 l h ih =>
    rw [gl_step h, ← List.drop_drop]
    exact ih
/-- Signs that reach the end, and more. -/
theorem gl_append {l : List UInt8} (r : List UInt8) (h : gl l = l.length) : gl (l ++ r) = l.length + gl r := by
  induction l using signs_ind with
  | h0 l hz =>
    rw [gl_zero hz] at h
    have : l = [] := List.eq_nil_of_length_eq_zero h.symm
    subst this
    simp
  | h1 l hz ih =>
    have hle := gW_le l
    rw [gl_step hz] at h
    have h2 : gl (l.drop (gW l)) = (l.drop (gW l)).length := by rw [List.length_drop]; omega
    rw [gl_step (by rw [gW_append r hz]; exact hz), gW_append r hz, List.drop_append_of_le_length hle, ih h2, List.length_drop]
    omega
theorem cs_append {l : List UInt8} (r : List UInt8) (h : gl l = l.length) : cs (l ++ r) = cs l + cs r := by
  induction l using signs_ind with
  | h0 l hz =>
    rw [gl_zero hz] at h
    have : l = [] := List.eq_nil_of_length_eq_zero h.symm
    subst this
    simp [cs, csN]
  | h1 l hz ih =>
    have hle := gW_le l
    rw [gl_step hz] at h
    have h2 : gl (l.drop (gW l)) = (l.drop (gW l)).length := by rw [List.length_drop]; omega
    rw [cs_step (by rw [gW_append r hz]; exact hz), gW_append r hz, List.drop_append_of_le_length hle, ih h2, cs_step hz]
    omega
/-- What is taken reaches its end. -/
theorem gl_take (l : List UInt8) : gl (l.take (gl l)) = gl l := by
  induction l using signs_ind with
  | h0 l hz => rw [gl_zero hz]; rfl
  | h1 l hz ih =>
    have e := gl_step hz
    have hw : gW (l.take (gl l)) = gW l := gW_take_of (by omega)
    rw [gl_step (by rw [hw]; exact hz), hw, List.drop_take, e, Nat.add_sub_cancel_left, ih]
theorem cs_take (l : List UInt8) : cs (l.take (gl l)) = cs l := by
  induction l using signs_ind with
  | h0 l hz => rw [gl_zero hz, cs_zero hz]; rfl
  | h1 l hz ih =>
    have e := gl_step hz
    have hw : gW (l.take (gl l)) = gW l := gW_take_of (by omega)
    rw [cs_step (by rw [hw]; exact hz), hw, List.drop_take, e, Nat.add_sub_cancel_left, ih, cs_step hz]
theorem cs_le_gl (l : List UInt8) : cs l ≤ gl l ∧ gl l ≤ 3 * cs l := by
  induction l using signs_ind with
  | h0 l hz => rw [gl_zero hz, cs_zero hz]; omega
  | h1 l hz ih =>
    have := gW_le3 l
    rw [gl_step hz, cs_step hz]
    omega

/-! ### Names -/
/-- How many bytes the name takes that stands first (0: none does). -/
def nameLen (l : List UInt8) : Nat := if bgW l = 0 then 0 else gl l
/-- A name: one sign that begins, any that go on, 32 at most. -/
def isName (l : List UInt8) : Bool := decide (bgW l ≠ 0) && decide (gl l = l.length) && decide (cs l ≤ 32)
theorem nameLen_le (l : List UInt8) : nameLen l ≤ l.length := by
  unfold nameLen
  split
  · omega
  · exact gl_le l

theorem nameLen_zero {l : List UInt8} (h : bgW l = 0) : nameLen l = 0 := by unfold nameLen; rw [if_pos h]
theorem nameLen_gl {l : List UInt8} (h : bgW l ≠ 0) : nameLen l = gl l := by unfold nameLen; rw [if_neg h]
theorem gl_pos {l : List UInt8} (h : bgW l ≠ 0) : bgW l ≤ gl l ∧ 0 < gl l := by
  have hg := gW_of_bgW h
  rw [gl_step (by rw [hg]; exact h), hg]
  omega
theorem nameLen_pos {l : List UInt8} (h : bgW l ≠ 0) : 0 < nameLen l := by rw [nameLen_gl h]; exact (gl_pos h).2
theorem nameLen_ne {l : List UInt8} (h : nameLen l ≠ 0) : bgW l ≠ 0 := fun h0 => h (nameLen_zero h0)
/-- What is taken is taken whole. -/
theorem nameLen_take (l : List UInt8) : nameLen (l.take (nameLen l)) = nameLen l := by
  by_cases h : bgW l = 0
  · rw [nameLen_zero h]; rfl
  · have hp := gl_pos h
    have hb : bgW (l.take (gl l)) = bgW l := bgW_take_of hp.1
    rw [nameLen_gl h, nameLen_gl (by rw [hb]; exact h), gl_take]
theorem bgW_take_name {l : List UInt8} (h : bgW l ≠ 0) : bgW (l.take (nameLen l)) ≠ 0 := by
  rw [nameLen_gl h, bgW_take_of (gl_pos h).1]
  exact h
theorem isName_iff (l : List UInt8) : isName l = true ↔ bgW l ≠ 0 ∧ gl l = l.length ∧ cs l ≤ 32 := by
  simp only [isName, Bool.and_eq_true, decide_eq_true_eq, and_assoc]
theorem nameLen_isName {l : List UInt8} (h : isName l = true) : nameLen l = l.length := by
  obtain ⟨h1, h2, _⟩ := (isName_iff l).1 h
  rw [nameLen_gl h1, h2]
theorem isName_ne {l : List UInt8} (h : isName l = true) : l ≠ [] := by
  intro e
  subst e
  cases h
/-- What is taken is a name, if it is not too long. -/
theorem isName_take {l : List UInt8} (h : bgW l ≠ 0) : isName (l.take (nameLen l)) = decide (cs l ≤ 32) := by
  have hp := gl_pos h
  have hle := gl_le l
  rw [nameLen_gl h]
  unfold isName
  have hb : bgW (l.take (gl l)) = bgW l := bgW_take_of hp.1
  have hl : (l.take (gl l)).length = gl l := by rw [List.length_take]; omega
  rw [hb, gl_take, hl, cs_take, decide_eq_true h]
  simp
/-- A name, and what goes on with no sign of a name: the name is taken. -/
theorem nameLen_append {l r : List UInt8} (h1 : bgW l ≠ 0) (h2 : gl l = l.length) (hr : gW r = 0) : nameLen (l ++ r) = l.length := by
  have hb : bgW (l ++ r) = bgW l := bgW_append r h1
  rw [nameLen_gl (by rw [hb]; exact h1), gl_append r h2, gl_zero hr, Nat.add_zero]
theorem nameLen_name {l r : List UInt8} (h : isName l = true) (hr : gW r = 0) : nameLen (l ++ r) = l.length := by
  obtain ⟨h1, h2, _⟩ := (isName_iff l).1 h
  exact nameLen_append h1 h2 hr

/-! ### The program's runes -/
def dec (l : List UInt8) : Nat × Nat := Lib.decodeN l.length (at8 l 0) (at8 l 1) (at8 l 2) (at8 l 3)
theorem get!_at8 (s : ByteArray) (i : Nat) : (s.get! i).toNat = at8 s.data.toList i := by
  unfold at8
  congr 1
  cases s with
  | mk d =>
    show d[i]! = d.toList.getD i 0
    by_cases h : i < d.size
    · rw [getElem!_pos d i h]; simp [List.getD, h]
    · rw [getElem!_neg d i h]; simp [List.getD, h]; rfl
theorem decode_dec (s : ByteArray) (pos : Nat) : Utf8.decode s pos = dec (s.data.toList.drop pos) := by
  rw [Lib.decode_at, get!_at8, get!_at8, get!_at8, get!_at8]
  unfold dec
  rw [List.length_drop, at8_drop, at8_drop, at8_drop, at8_drop, Nat.add_zero]
  rfl

set_option maxHeartbeats 1000000 in
theorem dec_goes (n b0 b1 b2 b3 : Nat) (hn : 0 < n) (h0 : b0 < 256) (h1 : b1 < 256) (h2 : b2 < 256) :
    (goesR (Lib.decodeN n b0 b1 b2 b3).1 = decide (gN n b0 b1 b2 ≠ 0)) ∧ (gN n b0 b1 b2 ≠ 0 → (Lib.decodeN n b0 b1 b2 b3).2 = gN n b0 b1 b2) ∧
    (beginsR (Lib.decodeN n b0 b1 b2 b3).1 = decide (bgN n b0 b1 b2 ≠ 0)) := by
  have hg : ∀ c : Nat, goesR (c : Int) = decide ((65 ≤ c ∧ c ≤ 90) ∨ (97 ≤ c ∧ c ≤ 122) ∨ c = 95 ∨ c = 8710 ∨ c = 9049 ∨ (48 ≤ c ∧ c ≤ 57) ∨ c = 175) := by
    intro c
    simp only [goesR, beginsR]
    rw [Bool.eq_iff_iff]
    simp only [Bool.or_eq_true, Bool.and_eq_true, decide_eq_true_eq, beq_iff_eq]
    omega
  have hb : ∀ c : Nat, beginsR (c : Int) = decide ((65 ≤ c ∧ c ≤ 90) ∨ (97 ≤ c ∧ c ≤ 122) ∨ c = 95 ∨ c = 8710 ∨ c = 9049) := by
    intro c
    simp only [beginsR]
    rw [Bool.eq_iff_iff]
    simp only [Bool.or_eq_true, Bool.and_eq_true, decide_eq_true_eq, beq_iff_eq]
    omega
  have hl : (letN b0 = true) ↔ ((65 ≤ b0 ∧ b0 ≤ 90) ∨ (97 ≤ b0 ∧ b0 ≤ 122) ∨ b0 = 95) := by
    simp only [letN, Bool.or_eq_true, Bool.and_eq_true, decide_eq_true_eq, beq_iff_eq]
    omega
  rw [hg, hb]
  unfold gN bgN
  simp only [hl, decide_eq_decide]
  unfold Lib.decodeN
  refine ⟨?_, ?_, ?_⟩
  all_goals
    repeat' split
    all_goals first | (simp only at *; omega) | (intro _; simp only at *; omega) | (intro h; exact absurd rfl h) | (intro _; rfl)

theorem goes_dec {l : List UInt8} (h : l ≠ []) : goesR (dec l).1 = decide (gW l ≠ 0) ∧ (gW l ≠ 0 → (dec l).2 = gW l) ∧ beginsR (dec l).1 = decide (bgW l ≠ 0) :=
  dec_goes _ _ _ _ _ (List.length_pos_iff.2 h) (at8_lt _ _) (at8_lt _ _) (at8_lt _ _)

/-- From a place on: the runes reach as far as the signs. -/
theorem takeFrom_gl (s : ByteArray) : ∀ (b pos : Nat), 0 < pos → pos ≤ s.size → s.size ≤ pos + b → takeFrom s b pos = pos + gl (s.data.toList.drop pos)
  | 0, pos, h0, h1, h2 => by
    have : s.data.toList.drop pos = [] := List.drop_eq_nil_of_le (by rw [Array.length_toList]; show s.size ≤ pos; omega)
    rw [this]
    simp [takeFrom, gl, goLen]
    omega
  | b + 1, pos, h0, h1, h2 => by
    have hlen : (s.data.toList.drop pos).length = s.size - pos := by rw [List.length_drop, Array.length_toList]; rfl
    by_cases hp : pos < s.size
    · have hne : s.data.toList.drop pos ≠ [] := by
        intro h
        rw [h] at hlen
        simp at hlen
        omega
      obtain ⟨g1, g2, _⟩ := goes_dec hne
      have hle := gW_le (s.data.toList.drop pos)
      rw [takeFrom, if_pos hp, if_neg (by omega), decode_dec, g1]
      by_cases hz : gW (s.data.toList.drop pos) = 0
      · rw [if_pos (by simp [hz]), gl_zero hz, Nat.add_zero]
      · rw [if_neg (by simp [hz]), g2 hz, takeFrom_gl s b _ (by omega) (by omega) (by omega), gl_step hz, List.drop_drop, Nat.add_assoc]
    · have h3 : gl (s.data.toList.drop pos) ≤ s.size - pos := by rw [← hlen]; exact gl_le _
      rw [takeFrom_end s _ pos hp]
      omega
theorem length_data (s : ByteArray) : s.data.toList.length = s.size := by rw [Array.length_toList]; rfl
/-- WHAT THE PROGRAM TAKES is the name that stands first. -/
theorem takeLen_eq (s : ByteArray) : takeLen s = nameLen s.data.toList := by
  unfold takeLen nameLen
  by_cases hs : s.size = 0
  · have : s.data.toList = [] := List.eq_nil_of_length_eq_zero (by rw [length_data]; exact hs)
    rw [this, hs]
    simp [takeFrom, bgW_nil, hs]
  · obtain ⟨n, hn⟩ : ∃ n, s.size = n + 1 := ⟨s.size - 1, by omega⟩
    have hne : s.data.toList ≠ [] := by
      intro h
      have := length_data s
      rw [h] at this
      simp at this
      omega
    obtain ⟨g1, g2, g3⟩ := goes_dec hne
    have hle := gW_le s.data.toList
    rw [length_data] at hle
    have hd : Utf8.decode s 0 = dec s.data.toList := by rw [decode_dec, List.drop_zero]
    have hu : takeFrom s s.size 0 = if beginsR (dec s.data.toList).1 = false then 0 else if goesR (dec s.data.toList).1 = false then 0 else takeFrom s n (0 + (dec s.data.toList).2) := by
      rw [show s.size = n + 1 from hn, takeFrom, if_pos (by omega), hd]
      simp only [true_and]
    rw [hu, g3]
    by_cases hz : bgW s.data.toList = 0
    · rw [if_pos (by simp [hz]), if_pos hz]
    · have hg : gW s.data.toList ≠ 0 := by rw [gW_of_bgW hz]; exact hz
      rw [if_neg (by simp [hz]), if_neg hz, g1, if_neg (by simp [hg]), g2 hg, Nat.zero_add, takeFrom_gl s n _ (by omega) (by omega) (by omega), gl_step hg]
/-- A text that is all signs has as many runes. -/
theorem runeCountFrom_cs (s : ByteArray) (h : gl s.data.toList = s.size) : ∀ (b pos : Nat), pos ≤ s.size → s.size ≤ pos + b → gl (s.data.toList.drop pos) = s.size - pos → Lib.runeCountFrom s b pos = cs (s.data.toList.drop pos)
  | 0, pos, h1, h2, h3 => by
    have : s.data.toList.drop pos = [] := List.drop_eq_nil_of_le (by rw [length_data]; omega)
    rw [this]
    rfl
  | b + 1, pos, h1, h2, h3 => by
    have hlen : (s.data.toList.drop pos).length = s.size - pos := by rw [List.length_drop, length_data]
    by_cases hp : pos < s.size
    · have hz : gW (s.data.toList.drop pos) ≠ 0 := by
        intro hz
        rw [gl_zero hz] at h3
        omega
      have hne : s.data.toList.drop pos ≠ [] := by
        intro e
        rw [e] at hz
        exact hz rfl
      obtain ⟨g1, g2, _⟩ := goes_dec hne
      have hle := gW_le (s.data.toList.drop pos)
      have h4 := gl_step hz
      rw [Lib.runeCountFrom, if_pos hp, decode_dec, g2 hz, cs_step hz, runeCountFrom_cs s h b _ (by omega) (by omega) (by rw [← List.drop_drop]; omega), List.drop_drop]
    · rw [Lib.runeCountFrom_end s _ pos hp]
      have : s.data.toList.drop pos = [] := List.drop_eq_nil_of_le (by rw [length_data]; omega)
      rw [this]
      rfl
theorem runeCount_cs {s : ByteArray} (h : gl s.data.toList = s.size) : Lib.runeCount s = cs s.data.toList := by
  unfold Lib.runeCount
  rw [runeCountFrom_cs s h s.size 0 (by omega) (by omega) (by simpa using h), List.drop_zero]
end Go.Proofs.Ytmddkjmcbddhiaa.Sp
