/-
  Plain: texts that are unlike are so in any order, and not with one of them once more, if it is not empty. Conditions: the reach of the form on sizes.
-/
import Derived.Test.YtmddkjmcbddhiaaP7
import Derived.Test.YtmddkjmcbddhiaaRw8
import Derived.Test.YtmddkjmcbddhiaaUp
import Derived.Test.YtmddkjmcbddhiaaPureNameTells
namespace Go.Proofs.Ytmddkjmcbddhiaa.Pure
open Go.RowKit Go.Proofs.Ytmddkjmcbddhiaa.P Go.Proofs.YtmddkjmcbddhiaaW.PrintWords Go.Proofs.YtmddkjmcbddhiaaW.PrintLast Go.Proofs.Ytmddkjmcbddhiaa.Sp
set_option linter.unusedVariables false
set_option linter.unusedSimpArgs false

theorem unlike_end (l : List ByteArray) (x : Int) (h0 : 0 ≤ x) (hx : x < l.length) (h30 : l.length ≤ 30) (hb : ∀ x ∈ l, x.size ≤ maxLen) (k : Nat) :
    decklelaw08_NameUnlike.l1 (k + 1) l x true (unl (bys l)) l.reverse (-1) = some true := by
  obtain ⟨i, rfl⟩ := Int.eq_ofNat_of_zero_le h0
  have hi : i < l.length := by omega
  have hm : l[i] ∈ l := List.getElem_mem hi
  have hrev : name_Unlike.f l.reverse = some (unl (bys l)) := by
    rw [unlike_f (by simp; omega) (fun y hy => hb y (by simpa using hy)), bys_reverse, unl_reverse]
  have hone : name_Unlike.f (l ++ [l[i]]) = some (unl (bys l) && (l[i].data.toList == [])) := by
    rw [unlike_f (by simp; omega) (fun y hy => hb y (by
      rcases List.mem_append.1 hy with h | h
      · exact h
      · rw [List.mem_singleton.1 h]; exact hm)), bys_append]
    congr 1
    exact unl_snoc_mem (bys_mem hm)
  have hnil : name_Unlike.f (l ++ [(⟨#[]⟩ : ByteArray)]) = some (unl (bys l)) := by
    rw [unlike_f (by simp; omega) (fun y hy => by
      rcases List.mem_append.1 hy with h | h
      · exact hb y h
      · rw [List.mem_singleton.1 h]; exact Nat.zero_le _), bys_append]
    congr 1
    exact unl_snoc_nil _
  have htake : unl (bys l) = true → name_Unlike.f (l.take i) = some true := by
    intro hu
    rw [unlike_f (by rw [List.length_take]; omega) (fun y hy => hb y (List.mem_of_mem_take hy)), bys_take, unl_take hu]
  rw [decklelaw08_NameUnlike.l1, if_neg (by omega)]
  simp only [Option.bind_some, List.nil_append, List.length_nil, List.length_append, List.length_cons]
  rw [if_pos (by omega), if_pos (by omega), if_pos (by omega), rdOf_at l i hi, if_pos (by omega), hone]
  simp only [Option.bind_some]
  rw [if_pos (by omega), if_pos (by omega), hnil]
  simp only [Option.bind_some, if_true, hrev, beq_self_eq_true]
  cases hu : unl (bys l) with
  | true =>
    rw [if_pos rfl, ByteArray.toList_eq, Bool.true_and, beq_self_eq_true, if_pos rfl, if_pos (by omega), Int.toNat_natCast, htake hu]
    rfl
  | false => rfl

theorem unlike_l1 (l : List ByteArray) (x : Int) (h0 : 0 ≤ x) (hx : x < l.length) (h30 : l.length ≤ 30) (hb : ∀ x ∈ l, x.size ≤ maxLen) (d : Nat) : ∀ n : Nat, n ≤ d → n ≤ l.length →
    Ev (fun k => decklelaw08_NameUnlike.l1 k l x true (unl (bys l)) (l.reverse.take (l.length - n)) ((n : Int) - 1)) true := by
  have hend : Ev (fun k => decklelaw08_NameUnlike.l1 k l x true (unl (bys l)) (l.reverse.take (l.length - 0)) (((0 : Nat) : Int) - 1)) true := by
    refine Ev.step (f := fun _ => some true) (fun k => ?_) (Ev.now _)
    have ht : l.reverse.take (l.length - 0) = l.reverse := List.take_of_length_le (by simp)
    rw [ht]
    exact unlike_end l x h0 hx h30 hb k
  induction d with
  | zero =>
    intro n hn _
    obtain rfl : n = 0 := by omega
    exact hend
  | succ d ih =>
    intro n hn hl
    cases n with
    | zero => exact hend
    | succ n =>
      have h2 := ih n (by omega) (by omega)
      refine Ev.step (fun k => ?_) h2
      have hn' : n < l.length := by omega
      have e1 : (((n + 1 : Nat) : Int) - 1) = (n : Int) := by omega
      have hw : wrap64 ((n : Int) - 1) = (n : Int) - 1 := by unfold wrap64; omega
      have ht : l.reverse.take (l.length - n) = l.reverse.take (l.length - (n + 1)) ++ [l[n]] := by
        have e2 : l.length - n = (l.length - (n + 1)) + 1 := by omega
        rw [e2, List.take_add_one, List.getElem?_reverse (by omega)]
        have e3 : l.length - 1 - (l.length - (n + 1)) = n := by omega
        rw [e3, List.getElem?_eq_getElem hn']
        rfl
      rw [decklelaw08_NameUnlike.l1, e1, if_pos (by omega), if_pos (by omega), if_pos (by omega), rdOf_at l n hn']
      simp only [Option.bind_some]
      rw [if_pos (by rw [List.length_take]; simp; omega), hw, ← ht]

theorem unlike_l0 (l : List ByteArray) (x : Int) (h0 : 0 ≤ x) (hx : x < l.length) (h30 : l.length ≤ 30) (hb : ∀ x ∈ l, x.size ≤ maxLen) (d : Nat) : ∀ i : Nat, l.length ≤ i + d →
    Ev (fun k => decklelaw08_NameUnlike.l0 k l x true (i : Int)) true := by
  have hend : ∀ i : Nat, ¬ i < l.length → Ev (fun k => decklelaw08_NameUnlike.l0 k l x true (i : Int)) true := by
    intro i hi
    have h1 := unlike_l1 l x h0 hx h30 hb l.length l.length (Nat.le_refl _) (Nat.le_refl _)
    rw [Nat.sub_self, List.take_zero] at h1
    refine Ev.step (fun k => ?_) h1
    have hw : wrap64 ((l.length : Int) - 1) = (l.length : Int) - 1 := by unfold wrap64; omega
    rw [decklelaw08_NameUnlike.l0, if_neg (by omega), unlike_f (by omega) hb]
    simp only [Option.bind_some]
    rw [hw]
  induction d with
  | zero =>
    intro i hi
    exact hend i (by omega)
  | succ d ih =>
    intro i hi
    by_cases hlt : i < l.length
    · by_cases h100 : (l[i].size : Int) > 100
      · refine Ev.step (f := fun _ => some true) (fun k => ?_) (Ev.now _)
        rw [decklelaw08_NameUnlike.l0, if_pos (by omega), if_pos (by omega), rdOf_at l i hlt, if_pos h100]
      · refine Ev.step (fun k => ?_) (ih (i + 1) (by omega))
        rw [decklelaw08_NameUnlike.l0, if_pos (by omega), if_pos (by omega), rdOf_at l i hlt, if_neg h100, wrap_nat rfl (by omega)]
    · exact hend i hlt

theorem NameUnlike (l : List ByteArray) (x : Int) (hl : l.length ≤ 8796093022208) (hb : ∀ x ∈ l, x.size ≤ maxLen) (hw : (Lit.int .i64 x).wf = true) :
    ∃ k, decklelaw08_NameUnlike.f k l x = some true := by
  unfold decklelaw08_NameUnlike.f
  rw [small08]
  have hj : ∀ k, decklelaw08_NameUnlike.j0 (k + 1) l x true true = some true := fun k => by rw [decklelaw08_NameUnlike.j0, if_pos rfl]
  simp only [Option.bind_some]
  by_cases h1 : (l.length : Int) < 1
  · exact ⟨1, by rw [if_pos h1]; exact hj 0⟩
  · by_cases h2 : (l.length : Int) > 30
    · exact ⟨1, by rw [if_neg h1, if_pos h2]; exact hj 0⟩
    · by_cases h3 : x < 0
      · exact ⟨1, by rw [if_neg h1, if_neg h2, if_pos h3]; exact hj 0⟩
      · by_cases h4 : x ≥ (l.length : Int)
        · exact ⟨1, by rw [if_neg h1, if_neg h2, if_neg h3, decide_eq_true h4]; exact hj 0⟩
        · have h := unlike_l0 l x (by omega) (by omega) (by omega) hb l.length 0 (by omega)
          have h5 : Ev (fun k => decklelaw08_NameUnlike.j0 k l x true false) true := by
            refine Ev.step (fun k => ?_) h
            rw [decklelaw08_NameUnlike.j0, if_neg (by simp)]
            rfl
          obtain ⟨k, hk⟩ := h5.rounds
          exact ⟨k, by rw [if_neg h1, if_neg h2, if_neg h3, decide_eq_false h4]; exact hk⟩
end Go.Proofs.Ytmddkjmcbddhiaa.Pure
