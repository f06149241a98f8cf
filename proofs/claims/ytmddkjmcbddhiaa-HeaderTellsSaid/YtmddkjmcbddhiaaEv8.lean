/-
  What the printed functions of the reference 08 come to, in plain words: the widths of signs. No memory in sight.
-/
import Derived.Test.YtmddkjmcbddhiaaP4
import Derived.Test.YtmddkjmcbddhiaaNm
namespace Go.Proofs.Ytmddkjmcbddhiaa.P
open Go.RowKit Go.Proofs.YtmddkjmcbddhiaaW.PrintWords Go.Proofs.Ytmddkjmcbddhiaa.Sp
set_option linter.unusedVariables false
set_option linter.unusedSimpArgs false

theorem bt_at8 (s : ByteArray) (i : Nat) : bt s (i : Int) = (at8 s.data.toList i : Int) := by
  unfold bt at8
  simp only [Int.toNat_natCast]
  split
  · rename_i h
    have h' : i < s.data.toList.length := by rw [length_data]; exact h
    rw [List.getD_eq_getElem?_getD, List.getElem?_eq_getElem h', Option.getD_some]
    simp
    rfl
  · rename_i h
    have h' : s.data.toList.length ≤ i := by rw [length_data]; omega
    rw [List.getD_eq_getElem?_getD, List.getElem?_eq_none h']
    rfl
theorem bt_zero (s : ByteArray) : bt s 0 = (at8 s.data.toList 0 : Int) := bt_at8 s 0
theorem take3_iff (l : List UInt8) (x y z : UInt8) : l.take 3 = [x, y, z] ↔ 2 < l.length ∧ at8 l 0 = x.toNat ∧ at8 l 1 = y.toNat ∧ at8 l 2 = z.toNat := by
  match l with
  | [] => simp
  | [a] => simp
  | [a, b] => simp
  | a :: b :: c :: t => simp [at8, UInt8.toNat_inj]
theorem take2_iff (l : List UInt8) (x y : UInt8) : l.take 2 = [x, y] ↔ 1 < l.length ∧ at8 l 0 = x.toNat ∧ at8 l 1 = y.toNat := by
  match l with
  | [] => simp
  | [a] => simp
  | a :: b :: t => simp [at8, UInt8.toNat_inj]
theorem ext_take (s : ByteArray) (n : Nat) : (s.extract 0 n).toList = s.data.toList.take n := by
  rw [ByteArray.toList_eq]
  simp
theorem toList_nil_iff (s : ByteArray) : s.toList = [] ↔ s.size = 0 := by
  rw [ByteArray.toList_eq, ← length_data]
  exact List.length_eq_zero_iff.symm

theorem ref_begins (s : ByteArray) (k : Nat) : deckleref08_begins.f (k + 1) s = some (bgW s.data.toList : Int) := by
  have hsz := length_data s
  have hl : (letN (at8 s.data.toList 0) = true) ↔ ((65 ≤ at8 s.data.toList 0 ∧ at8 s.data.toList 0 ≤ 90) ∨ (97 ≤ at8 s.data.toList 0 ∧ at8 s.data.toList 0 ≤ 122) ∨ at8 s.data.toList 0 = 95) := by
    simp only [letN, Bool.or_eq_true, Bool.and_eq_true, decide_eq_true_eq, beq_iff_eq]
    omega
  have e0 := at8_nil0 s.data.toList
  have hj : ∀ b : Bool, (b = true → at8 s.data.toList 0 = 226 ∧ 2 < s.size ∧ (at8 s.data.toList 1 = 136 ∧ at8 s.data.toList 2 = 134 ∨ at8 s.data.toList 1 = 141 ∧ at8 s.data.toList 2 = 153)) →
      (b = false → ¬ (at8 s.data.toList 0 = 226 ∧ 2 < s.size ∧ (at8 s.data.toList 1 = 136 ∧ at8 s.data.toList 2 = 134 ∨ at8 s.data.toList 1 = 141 ∧ at8 s.data.toList 2 = 153))) →
      deckleref08_begins.j0 (k + 1) s b = some (bgW s.data.toList : Int) := by
    intro b h1 h2
    unfold bgW bgN
    simp only [hl, hsz]
    simp only [deckleref08_begins.j0, bt_zero, toList_nil_iff]
    cases b with
    | true =>
      have h := h1 rfl
      rw [if_pos rfl, if_neg (by omega), if_pos h]
      rfl
    | false =>
      have h := h2 rfl
      rw [if_neg (by simp), if_neg (c := _ ∧ _ ∧ _) h]
      by_cases hz : s.size = 0
      · rw [if_pos hz, if_neg (by omega)]
        rfl
      · rw [if_neg hz, if_pos (by omega)]
        repeat' split
        all_goals first | rfl | (exfalso; omega)
  unfold deckleref08_begins.f
  rw [ext_take]
  by_cases h3 : (s.size : Int) ≥ 3
  · rw [if_pos h3, if_pos (by omega), if_pos (by omega)]
    by_cases ha : s.data.toList.take 3 = [226, 136, 134]
    · rw [if_pos ha]
      have h := (take3_iff _ _ _ _).1 ha
      refine hj true (fun _ => ?_) (fun h => by cases h)
      refine ⟨h.2.1, by omega, .inl ⟨h.2.2.1, h.2.2.2⟩⟩
    · rw [if_neg ha]
      have ha' := fun h => ha ((take3_iff _ _ _ _).2 h)
      refine hj _ (fun h => ?_) (fun h => ?_)
      · have h := (take3_iff _ _ _ _).1 (beq_iff_eq.1 h)
        exact ⟨h.2.1, by omega, .inr ⟨h.2.2.1, h.2.2.2⟩⟩
      · have hb := fun h' => (beq_eq_false_iff_ne.1 h) ((take3_iff _ _ _ _).2 h')
        rintro ⟨h1, h2, h4 | h4⟩
        · exact ha' ⟨by omega, h1, h4.1, h4.2⟩
        · exact hb ⟨by omega, h1, h4.1, h4.2⟩
  · rw [if_neg h3]
    refine hj false (fun h => by cases h) (fun _ h => ?_)
    omega

theorem ref_goes (s : ByteArray) (k : Nat) : deckleref08_goes.f (k + 2) s = some (gW s.data.toList : Int) := by
  have hsz := length_data s
  have e0 := at8_nil0 s.data.toList
  have hj : ∀ b : Bool, (b = true ↔ 48 ≤ at8 s.data.toList 0 ∧ at8 s.data.toList 0 ≤ 57) → deckleref08_goes.j0 (k + 2) s b = some (gW s.data.toList : Int) := by
    intro b hb
    have hg : gW s.data.toList = if 48 ≤ at8 s.data.toList 0 ∧ at8 s.data.toList 0 ≤ 57 then 1 else if at8 s.data.toList 0 = 194 ∧ 1 < s.size ∧ at8 s.data.toList 1 = 175 then 2 else bgW s.data.toList := by
      rw [← hsz]; rfl
    rw [hg]
    simp only [deckleref08_goes.j0, ext_take, ref_begins, Option.bind_some]
    cases b with
    | true => rw [if_pos rfl, if_pos (hb.1 rfl)]; rfl
    | false =>
      rw [if_neg (by simp), if_neg (c := _ ∧ _) (fun h => by have := hb.2 h; cases this)]
      by_cases h2 : (s.size : Int) ≥ 2
      · rw [if_pos h2, if_pos (by omega), if_pos (by omega)]
        by_cases ha : s.data.toList.take 2 = [194, 175]
        · have h := (take2_iff _ _ _).1 ha
          rw [if_pos ha, if_pos ⟨h.2.1, by omega, h.2.2⟩]
          rfl
        · rw [if_neg ha, if_neg (fun h => ha ((take2_iff _ _ _).2 ⟨by omega, h.1, h.2.2⟩))]
      · rw [if_neg h2, if_neg (by omega)]
  unfold deckleref08_goes.f
  simp only [bt_zero, toList_nil_iff]
  by_cases hz : s.size = 0
  · rw [if_pos hz]
    exact hj false ⟨(fun h => by cases h), (fun h => by omega)⟩
  · rw [if_neg hz, if_pos (by omega)]
    by_cases h48 : (at8 s.data.toList 0 : Int) ≥ 48
    · rw [if_pos h48]
      refine hj _ ⟨fun h => ?_, fun h => ?_⟩
      · have := of_decide_eq_true h
        omega
      · exact decide_eq_true (by omega)
    · rw [if_neg h48]
      exact hj false ⟨(fun h => by cases h), (fun h => by omega)⟩
end Go.Proofs.Ytmddkjmcbddhiaa.P
