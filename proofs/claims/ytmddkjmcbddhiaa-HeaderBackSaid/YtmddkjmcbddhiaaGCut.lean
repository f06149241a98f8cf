/-
  What the reference 15's cut and split come to: where a text first stands in another one, and the parts between. No memory in sight.
-/
import Derived.Test.YtmddkjmcbddhiaaP16
import Derived.Test.YtmddkjmcbddhiaaHd
namespace Go.Proofs.Ytmddkjmcbddhiaa.P
open Go.RowKit Go.Proofs.YtmddkjmcbddhiaaW.PrintWords Go.Proofs.Ytmddkjmcbddhiaa.Sp
set_option linter.unusedVariables false
set_option linter.unusedSimpArgs false

/-- What stands ahead of the first p, what behind it, and whether there is one. -/
def cutL (p : List UInt8) : List UInt8 → List UInt8 × List UInt8 × Bool
  | [] => ([], [], false)
  | c :: t => if p <+: c :: t then ([], (c :: t).drop p.length, true) else (c :: (cutL p t).1, (cutL p t).2.1, (cutL p t).2.2)
def cutA (s p : ByteArray) : ByteArray := ⟨(cutL p.data.toList s.data.toList).1.toArray⟩
def cutB (s p : ByteArray) : ByteArray := ⟨(cutL p.data.toList s.data.toList).2.1.toArray⟩
def cutK (s p : ByteArray) : Bool := (cutL p.data.toList s.data.toList).2.2
theorem ba_ext {a b : ByteArray} (h : a.data.toList = b.data.toList) : a = b := by
  cases a; cases b
  simp only [ByteArray.mk.injEq]
  exact Array.toList_inj.1 h
theorem cutL_short {p : List UInt8} : ∀ {l : List UInt8}, l.length < p.length → cutL p l = (l, [], false)
  | [], _ => rfl
  | c :: t, h => by
    have hn : ¬ p <+: c :: t := fun hh => by have := hh.length_le; omega
    have ht : t.length < p.length := by simp at h; omega
    simp only [cutL, if_neg hn, cutL_short ht]
theorem cutL_len (p : List UInt8) : ∀ l : List UInt8, (cutL p l).1.length + (cutL p l).2.1.length ≤ l.length ∧ ((cutL p l).2.2 = true → (cutL p l).1.length + p.length + (cutL p l).2.1.length = l.length)
  | [] => by simp [cutL]
  | c :: t => by
    have ih := cutL_len p t
    unfold cutL
    split
    · rename_i h
      have := h.length_le
      refine ⟨by simp, fun _ => ?_⟩
      simp only [List.length_nil, List.length_drop]
      omega
    · refine ⟨by simp only [List.length_cons]; omega, fun hk => ?_⟩
      have := ih.2 hk
      simp only [List.length_cons]
      omega
theorem ext_mid (s : ByteArray) (i n : Nat) : (s.extract i (i + n)).toList = (s.data.toList.drop i).take n := by
  rw [ByteArray.toList_eq]
  simp [List.drop_take]
theorem take_eq_iff {p l : List UInt8} : l.take p.length = p ↔ p <+: l := by
  constructor
  · intro h; exact h ▸ List.take_prefix _ _
  · intro h; exact (List.prefix_iff_eq_take.1 h).symm

theorem wrap_sum {a b : Nat} (h : a + b ≤ 9223372036854775807) : wrap64 ((a : Int) + (b : Int)) = ((a + b : Nat) : Int) := by
  unfold wrap64
  omega
theorem cut_ev (s p : ByteArray) (hp : 0 < p.size) (hs : s.size ≤ 1099511627776) (hps : p.size ≤ 1099511627776) : Ev (fun k => deckleref15_cut.f k s p) (cutA s p, cutB s p, cutK s p) := by
  have hlp := length_data p
  have hls := length_data s
  have key : ∀ d i : Nat, s.size ≤ i + d → i ≤ s.size → Ev (fun k => deckleref15_cut.l0 k s p (i : Int)) (⟨(s.data.toList.take i ++ (cutL p.data.toList (s.data.toList.drop i)).1).toArray⟩, ⟨(cutL p.data.toList (s.data.toList.drop i)).2.1.toArray⟩, (cutL p.data.toList (s.data.toList.drop i)).2.2) := by
    intro d
    induction d with
    | zero =>
      intro i hd hi
      have e : i = s.size := by omega
      refine Ev.step (f := fun _ => some _) (fun k => ?_) (Ev.now _)
      rw [deckleref15_cut.l0, wrap_sum (a := i) (b := p.size) (by omega), if_neg (by omega), cutL_short (by rw [List.length_drop]; omega)]
      simp only [Option.some.injEq, Prod.mk.injEq, and_true]
      refine ba_ext ?_
      simp
    | succ d ih =>
      intro i hd hi
      by_cases h1 : i + p.size ≤ s.size
      · have hlt : i < s.data.toList.length := by omega
        have hdr : s.data.toList.drop i = s.data.toList[i] :: s.data.toList.drop (i + 1) := List.drop_eq_getElem_cons hlt
        by_cases h2 : p.data.toList <+: s.data.toList.drop i
        · refine Ev.step (f := fun _ => some _) (fun k => ?_) (Ev.now _)
          have h3 : (s.extract i (i + p.size)).toList = p.toList := by
            rw [ext_mid, ByteArray.toList_eq, ← hlp]
            exact take_eq_iff.2 h2
          have h4 : cutL p.data.toList (s.data.toList.drop i) = ([], (s.data.toList.drop i).drop p.data.toList.length, true) := by
            rw [hdr] at h2 ⊢
            simp only [cutL, if_pos h2]
          rw [deckleref15_cut.l0, wrap_sum (a := i) (b := p.size) (by omega), if_pos (by omega), if_pos (by omega), if_pos (by omega)]
          simp only [Int.toNat_natCast]
          rw [if_pos h3, if_pos (by omega), if_pos (by omega), h4]
          simp only [Option.some.injEq, Prod.mk.injEq, and_true]
          refine ⟨ba_ext ?_, ba_ext ?_⟩
          · rw [ext_take_data]; simp
          · rw [extract_data]; simp [hlp, Nat.add_comm]
        · have h3 : ¬ (s.extract i (i + p.size)).toList = p.toList := by
            rw [ext_mid, ByteArray.toList_eq, ← hlp]
            exact fun h => h2 (take_eq_iff.1 h)
          have h4 : cutL p.data.toList (s.data.toList.drop i) = (s.data.toList[i] :: (cutL p.data.toList (s.data.toList.drop (i + 1))).1, (cutL p.data.toList (s.data.toList.drop (i + 1))).2.1, (cutL p.data.toList (s.data.toList.drop (i + 1))).2.2) := by
            rw [hdr] at h2 ⊢
            simp only [cutL, if_neg h2]
          refine Ev.step (fun k => ?_) (by rw [h4]; have := ih (i + 1) (by omega) (by omega); rw [List.take_add_one, List.getElem?_eq_getElem hlt] at this; simpa using this)
          rw [deckleref15_cut.l0, wrap_sum (a := i) (b := p.size) (by omega), if_pos (by omega), if_pos (by omega), if_pos (by omega)]
          simp only [Int.toNat_natCast]
          rw [if_neg h3, wrap_nat (m := i + 1) (by omega) (by omega)]
          simp
      · refine Ev.step (f := fun _ => some _) (fun k => ?_) (Ev.now _)
        rw [deckleref15_cut.l0, wrap_sum (a := i) (b := p.size) (by omega), if_neg (by omega), cutL_short (by rw [List.length_drop]; omega)]
        simp only [Option.some.injEq, Prod.mk.injEq, and_true]
        refine ba_ext ?_
        simp
  have h := key s.size 0 (by omega) (by omega)
  simpa [deckleref15_cut.f, cutA, cutB, cutK] using h

/-- The parts between. -/
def splitB (p : ByteArray) : Nat → ByteArray → List ByteArray
  | 0, s => [s]
  | n + 1, s => if cutK s p = true then cutA s p :: splitB p n (cutB s p) else [cutA s p]
theorem cutB_less {s p : ByteArray} (hp : 0 < p.size) (h : cutK s p = true) : (cutB s p).size < s.size := by
  have h1 := (cutL_len p.data.toList s.data.toList).2 h
  have e1 := length_data p
  have e2 := length_data s
  have e3 : (cutB s p).size = (cutL p.data.toList s.data.toList).2.1.length := by simp [cutB, ByteArray.size]
  omega
theorem cutB_le (s p : ByteArray) : (cutB s p).size ≤ s.size := by
  have h1 := (cutL_len p.data.toList s.data.toList).1
  have e2 := length_data s
  have e3 : (cutB s p).size = (cutL p.data.toList s.data.toList).2.1.length := by simp [cutB, ByteArray.size]
  omega
theorem cutA_le (s p : ByteArray) : (cutA s p).size ≤ s.size := by
  have h1 := (cutL_len p.data.toList s.data.toList).1
  have e2 := length_data s
  have e3 : (cutA s p).size = (cutL p.data.toList s.data.toList).1.length := by simp [cutA, ByteArray.size]
  omega
theorem split_ev (p : ByteArray) (hp : 0 < p.size) (hps : p.size ≤ 1099511627776) : ∀ (n : Nat) (s : ByteArray) (acc : List ByteArray), s.size ≤ n → s.size ≤ 1099511627776 → acc.length + n ≤ 1099511627776 →
    Ev (fun k => deckleref15_split.l0 k s p acc) (acc ++ splitB p (n + 1) s) := by
  intro n
  induction n with
  | zero =>
    intro s acc h1 h2 h3
    obtain ⟨K, hK⟩ := cut_ev s p hp h2 hps
    have hk : cutK s p = false := by
      cases h : cutK s p with
      | false => rfl
      | true => have := cutB_less hp h; omega
    refine ⟨K + 1, fun k hk2 => ?_⟩
    obtain ⟨m, rfl⟩ : ∃ m, k = m + 1 := ⟨k - 1, by omega⟩
    simp only [deckleref15_split.l0, hK m (by omega), Option.bind_some, if_pos (show acc.length < 8796093022208 by omega), hk, splitB, Bool.false_eq_true, if_false]
  | succ n ih =>
    intro s acc h1 h2 h3
    obtain ⟨K, hK⟩ := cut_ev s p hp h2 hps
    cases hk : cutK s p with
    | false =>
      refine ⟨K + 1, fun k hk2 => ?_⟩
      obtain ⟨m, rfl⟩ : ∃ m, k = m + 1 := ⟨k - 1, by omega⟩
      simp only [deckleref15_split.l0, hK m (by omega), Option.bind_some, if_pos (show acc.length < 8796093022208 by omega), hk, splitB, Bool.false_eq_true, if_false]
    | true =>
      have hl := cutB_less hp hk
      obtain ⟨K2, hK2⟩ := ih (cutB s p) (acc ++ [cutA s p]) (by omega) (by omega) (by rw [List.length_append, List.length_singleton]; omega)
      refine ⟨K + K2 + 1, fun k hk2 => ?_⟩
      obtain ⟨m, rfl⟩ : ∃ m, k = m + 1 := ⟨k - 1, by omega⟩
      simp only [deckleref15_split.l0, hK m (by omega), Option.bind_some, if_pos (show acc.length < 8796093022208 by omega), hk, if_true]
      refine (hK2 m (by omega)).trans ?_
      have e : splitB p (n + 1 + 1) s = cutA s p :: splitB p (n + 1) (cutB s p) := by
        rw [splitB.eq_2 p s (n + 1), if_pos hk]
      rw [e]
      simp
/-- The parts of a text. -/
def parts (s p : ByteArray) : List ByteArray := splitB p (s.size + 1) s
theorem split_f (s p : ByteArray) (hp : 0 < p.size) (hps : p.size ≤ 1099511627776) (hs : s.size ≤ 1099511627776) : Ev (fun k => deckleref15_split.f k s p) (parts s p) := by
  have h := split_ev p hp hps s.size s [] (Nat.le_refl _) hs (by simpa using hs)
  simpa [deckleref15_split.f, parts] using h
theorem parts_cons (s p : ByteArray) : ∃ t, parts s p = cutA s p :: t := by
  unfold parts splitB
  split <;> exact ⟨_, rfl⟩
end Go.Proofs.Ytmddkjmcbddhiaa.P
