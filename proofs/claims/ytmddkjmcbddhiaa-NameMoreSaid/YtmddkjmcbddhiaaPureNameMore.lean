/-
  Proved: whatever name and byte below 128 there are: a name with a sign that goes on is one as long as it has no more than 32 bytes, and with another sign is none. No condition.
-/
import Derived.Test.YtmddkjmcbddhiaaP6
import Derived.Test.YtmddkjmcbddhiaaLw8
namespace Go.Proofs.Ytmddkjmcbddhiaa.Pure
open Go.RowKit Go.Proofs.Ytmddkjmcbddhiaa.P Go.Proofs.YtmddkjmcbddhiaaW.PrintWords Go.Proofs.YtmddkjmcbddhiaaW.PrintLast Go.Proofs.Ytmddkjmcbddhiaa.Sp

/-- A byte that goes on, behind a name. -/
theorem more_on {l : List UInt8} {c : UInt8} (h : isName l = true) (hc : gW [c] = 1) (h32 : l.length < 32) : isName (l ++ [c]) = true := by
  obtain ⟨h1, h2, h3⟩ := (isName_iff l).1 h
  have g1 : gl [c] = 1 := by rw [gl_step (by omega), hc]; rfl
  refine (isName_iff _).2 ⟨by rw [bgW_append _ h1]; exact h1, by rw [gl_append _ h2, g1]; simp, ?_⟩
  have := (cs_le_gl (l ++ [c])).1
  rw [gl_append _ h2, g1] at this
  omega
theorem more_off {l : List UInt8} {c : UInt8} (h : isName l = true) (hc : gW [c] = 0) : isName (l ++ [c]) = false := by
  obtain ⟨h1, h2, h3⟩ := (isName_iff l).1 h
  cases hn : isName (l ++ [c]) with
  | false => rfl
  | true =>
    obtain ⟨_, h5, _⟩ := (isName_iff _).1 hn
    rw [gl_append _ h2, gl_zero hc] at h5
    simp at h5
theorem sys_no_name {l : List UInt8} (h : isName l = true) : isSys l = false := by
  cases hs : isSys l with
  | false => rfl
  | true =>
    have h1 := of_decide_eq_true hs
    unfold sysNames at h1
    simp only [List.mem_cons, List.not_mem_nil, or_false] at h1
    rcases h1 with rfl | rfl | rfl | rfl | rfl | rfl <;> exact absurd h (by decide)
theorem more_j1 (s t : ByteArray) (c : UInt8) (k : Nat) (on : Bool) (hs : s.size ≤ 300) (h : isName s.data.toList = true) (ht : t.data.toList = s.data.toList ++ [c])
    (hon : on = true → gW [c] = 1) (hoff : on = false → gW [c] = 0) : decklelaw08_NameMore.j1 (k + 1) s true t on = some true := by
  have hsz := length_data s
  have hszt := length_data t
  rw [ht, List.length_append, List.length_singleton] at hszt
  simp only [decklelaw08_NameMore.j1, name_System_f, sys_no_name h, Option.bind_some, if_true]
  rw [name_Right_f t (by omega), ht]
  cases on with
  | true =>
    rw [if_pos rfl]
    by_cases h32 : (s.size : Int) ≥ 32
    · rw [if_pos h32]; rfl
    · rw [if_neg h32, more_on h (hon rfl) (by omega)]
      rfl
  | false =>
    rw [if_neg (by simp), more_off h (hoff rfl)]
    rfl

theorem NameMore : decklelaw08_NameMore.Pure := by
  intro s x hs hw
  have hx : 0 ≤ x ∧ x < 256 := by
    simp [Lit.wf, IntKind.min, IntKind.max, IntKind.bits, IntKind.signed] at hw
    omega
  refine ⟨4, ?_⟩
  unfold decklelaw08_NameMore.f
  rw [small08, name_Right_f s (by omega)]
  simp only [Option.bind_some]
  have hj : ∀ k, decklelaw08_NameMore.j0 (k + 1) s x true true = some true := fun k => by simp only [decklelaw08_NameMore.j0, if_true]
  cases hn : isName s.data.toList with
  | false =>
    rw [if_neg (by simp)]
    exact hj 3
  | true =>
    rw [if_pos rfl]
    by_cases h300 : (s.size : Int) > 300
    · rw [if_pos h300]
      exact hj 3
    · rw [if_neg h300]
      by_cases h128 : x ≥ 128
      · rw [decide_eq_true h128]
        exact hj 3
      · rw [decide_eq_false h128]
        obtain ⟨b, rfl⟩ := Int.eq_ofNat_of_zero_le hx.1
        have hstr : (strOfNums [(b : Int)]).data.toList = [UInt8.ofNat b] := by rw [strOfNums_data]; simp
        have ht : (s ++ strOfNums [(b : Int)]).data.toList = s.data.toList ++ [UInt8.ofNat b] := by rw [append_data, hstr]
        have hb8 : at8 [UInt8.ofNat b] 0 = b := by
          simp [at8]
          omega
        have hg : gW [UInt8.ofNat b] = if 48 ≤ b ∧ b ≤ 57 then 1 else if letN b = true then 1 else 0 := by
          unfold gW gN bgN
          rw [hb8]
          simp only [List.length_singleton]
          repeat' split
          all_goals first | rfl | omega
        have hl : (letN b = true) ↔ ((65 ≤ b ∧ b ≤ 90) ∨ (97 ≤ b ∧ b ≤ 122) ∨ b = 95) := by
          simp only [letN, Bool.or_eq_true, Bool.and_eq_true, decide_eq_true_eq, beq_iff_eq]
          omega
        simp only [hl] at hg
        have hsize : (strOfNums [(b : Int)]).size = 1 := strOfNums_size _
        simp only [decklelaw08_NameMore.j0, Bool.false_eq_true, if_false, Option.bind_some]
        rw [if_pos (by rw [hsize]; omega)]
        have key : ∀ on : Bool, (on = true → (48 ≤ b ∧ b ≤ 57) ∨ (65 ≤ b ∧ b ≤ 90) ∨ (97 ≤ b ∧ b ≤ 122) ∨ b = 95) → (on = false → ¬ ((48 ≤ b ∧ b ≤ 57) ∨ (65 ≤ b ∧ b ≤ 90) ∨ (97 ≤ b ∧ b ≤ 122) ∨ b = 95)) →
            decklelaw08_NameMore.j1 3 s true (s ++ strOfNums [(b : Int)]) on = some true := by
          intro on h1 h2
          refine more_j1 s _ (UInt8.ofNat b) 2 on (by omega) hn ht (fun e => ?_) (fun e => ?_)
          · have := h1 e
            rw [hg]
            split
            · rfl
            · rw [if_pos (by omega)]
          · have := h2 e
            rw [hg, if_neg (by omega), if_neg (by omega)]
        repeat' split
        all_goals
          refine key _ (fun e => ?_) (fun e => ?_)
          all_goals first | (cases e; done) | (have := of_decide_eq_true e; omega) | (have := of_decide_eq_false e; omega) | omega
end Go.Proofs.Ytmddkjmcbddhiaa.Pure
