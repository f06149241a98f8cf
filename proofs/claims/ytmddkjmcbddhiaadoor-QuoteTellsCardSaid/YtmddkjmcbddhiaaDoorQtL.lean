/-
  What the printed functions of the reference 07 that read signs come to, in plain words. No memory in sight.
  What the printed functions that read the signs of a text, and tell right lines, come to, in plain words. No memory in sight.
  What the printed functions of the reference 13 come to, in plain words: the bytes of a sign, signs in quotes, and how they are read. No memory in sight.
-/
import Derived.Test.YtmddkjmcbddhiaaDoorP10
import Derived.Test.YtmddkjmcbddhiaaDoorLw8L
import Derived.Test.YtmddkjmcbddhiaaDoorQdL
import Derived.Test.YtmddkjmcbddhiaaDoorRw8L
import Derived.Test.YtmddkjmcbddhiaaDoorSxL
import Derived.Test.YtmddkjmcbddhiaaDoorP31
import Derived.Test.YtmddkjmcbddhiaaDoorQsL
import Derived.Test.YtmddkjmcbddhiaaDoorP8
import Derived.Test.YtmddkjmcbddhiaaDoorP9
import Derived.Test.YtmddkjmcbddhiaaDoorP11
section
namespace Go.Proofs.YtmddkjmcbddhiaaDoor.P
open Go.RowKit Go.Proofs.YtmddkjmcbddhiaaDoorW.PrintWords Go.Proofs.YtmddkjmcbddhiaaDoor.Sp
set_option linter.unusedVariables false
set_option linter.unusedSimpArgs false

theorem wr {z : Int} (h1 : -9223372036854775808 ≤ z) (h2 : z ≤ 9223372036854775807) : wrap64 z = z := by
  unfold wrap64
  omega
theorem next_end (k : Nat) (s : ByteArray) (x w lo : Int) (i : Int) (h : ¬ i < w) : deckleref07_next.l0 (k + 1) s x w lo i = some (if x < lo ∨ x > 1114111 ∨ (55296 ≤ x ∧ x ≤ 57343) then (0, 0) else (x, w)) := by
  rw [deckleref07_next.l0, if_neg h]
  by_cases h1 : x < lo
  · rw [if_pos h1, if_pos (.inl h1)]
  · rw [if_neg h1]
    by_cases h2 : x > 1114111
    · rw [if_pos h2, if_pos (.inr (.inl h2))]
    · rw [if_neg h2]
      by_cases h3 : x ≥ 55296
      · rw [if_pos h3]
        by_cases h4 : x ≤ 57343
        · rw [if_pos h4, if_pos (.inr (.inr ⟨h3, h4⟩))]
        · rw [if_neg h4, if_neg (by omega)]
      · rw [if_neg h3, if_neg (by omega)]
theorem next_bad (k : Nat) (s : ByteArray) (x w lo : Int) (i : Nat) (h : (i : Int) < w) (hs : i < s.size) (hb : ¬ at8 s.data.toList i / 64 = 2) : deckleref07_next.l0 (k + 1) s x w lo (i : Int) = some (0, 0) := by
  have h1 := at8_lt s.data.toList i
  rw [deckleref07_next.l0, if_pos h, if_pos (by omega), if_pos (by omega), bt_at8]
  by_cases h2 : (at8 s.data.toList i : Int) < 128
  · rw [if_pos h2]
  · rw [if_neg h2, if_pos (by omega)]
theorem next_go (k : Nat) (s : ByteArray) (x w lo : Int) (i : Nat) (h : (i : Int) < w) (hw : w ≤ 4) (hs : i < s.size) (hx : 0 ≤ x ∧ x ≤ 4194304) (hb : at8 s.data.toList i / 64 = 2) :
    deckleref07_next.l0 (k + 1) s x w lo (i : Int) = deckleref07_next.l0 k s (64 * x + (at8 s.data.toList i : Int) - 128) w lo ((i + 1 : Nat) : Int) := by
  have h1 := at8_lt s.data.toList i
  rw [deckleref07_next.l0, if_pos h, if_pos (by omega), if_pos (by omega), bt_at8, if_neg (by omega), if_neg (by omega), wr (z := 64 * x) (by omega) (by omega), wr (z := (at8 s.data.toList i : Int)) (by omega) (by omega),
    wr (z := 64 * x + (at8 s.data.toList i : Int)) (by omega) (by omega), wr (by omega) (by omega), wr (z := (i : Int) + 1) (by omega) (by omega)]
  rfl
theorem next_end' {k : Nat} {s : ByteArray} {x w lo i v : Int} {c : Prop} [Decidable c] (h : ¬ i < w) (hv : x = v) (hc : c ↔ ¬ (x < lo ∨ x > 1114111 ∨ (55296 ≤ x ∧ x ≤ 57343))) : deckleref07_next.l0 (k + 1) s x w lo i = some (if c then (v, w) else (0, 0)) := by
  rw [next_end k s x w lo i h, hv] at *
  by_cases h1 : c
  · rw [if_pos h1, if_neg (hc.1 h1)]
  · rw [if_neg h1, if_pos (Classical.byContradiction fun hh => h1 (hc.2 hh))]
/-- The next sign, and its width; two zeros: there is none. -/
def nxI (l : List UInt8) : Int × Int := if (Lib.decodeL l).1 = 65533 ∧ (Lib.decodeL l).2 = 1 then (0, 0) else (((Lib.decodeL l).1 : Int), ((Lib.decodeL l).2 : Int))
theorem nxI_of {l : List UInt8} {c : Prop} [Decidable c] {v w : Nat} (hw : 2 ≤ w) (h : Lib.decodeL l = if c then (v, w) else (65533, 1)) : nxI l = if c then ((v : Int), (w : Int)) else (0, 0) := by
  unfold nxI
  rw [h]
  by_cases h1 : c
  · rw [if_pos h1, if_pos h1, if_neg (by rintro ⟨_, h2⟩; have h2 : w = 1 := h2; omega)]
  · rw [if_neg h1, if_neg h1, if_pos ⟨rfl, rfl⟩]
theorem next_two (s : ByteArray) (k : Nat) (h0 : 192 ≤ at8 s.data.toList 0) (h1 : at8 s.data.toList 0 < 224) : deckleref07_next.j2 (k + 7) s ((at8 s.data.toList 0 : Int) - 192) 2 128 = some (nxI s.data.toList) := by
  have hsz := length_data s
  have l1 := at8_lt s.data.toList 1
  have hd : Lib.decodeL s.data.toList = if (1 < s.size ∧ at8 s.data.toList 1 / 64 = 2) ∧ at8 s.data.toList 0 % 32 * 64 + at8 s.data.toList 1 % 64 ≥ 128 then (at8 s.data.toList 0 % 32 * 64 + at8 s.data.toList 1 % 64, 2) else (65533, 1) := by
    rw [Lib.decodeL_N]
    show Lib.decodeN s.data.toList.length (at8 s.data.toList 0) (at8 s.data.toList 1) (at8 s.data.toList 2) (at8 s.data.toList 3) = _
    unfold Lib.decodeN
    rw [if_neg (by omega), hsz]
    by_cases h : 1 < s.size ∧ at8 s.data.toList 1 / 64 = 2
    · rw [if_pos ⟨by omega, h⟩]
      by_cases h3 : at8 s.data.toList 0 % 32 * 64 + at8 s.data.toList 1 % 64 ≥ 128
      · rw [if_pos h3, if_pos ⟨h, h3⟩]
      · rw [if_neg h3, if_neg (fun hh => h3 hh.2)]
    · rw [if_neg (fun hh => h hh.2), if_neg (by omega), if_neg (by omega), if_neg (fun hh => h hh.1)]
  rw [nxI_of (by omega) hd, deckleref07_next.j2]
  by_cases hz : (s.size : Int) < 2
  · rw [if_pos hz, if_neg (by omega)]
  · rw [if_neg hz]
    by_cases hb : at8 s.data.toList 1 / 64 = 2
    · refine (next_go (k + 5) s _ 2 128 1 (by omega) (by omega) (by omega) (by omega) hb).trans ?_
      exact next_end' (by omega) (by omega) (by omega)
    · refine (next_bad (k + 5) s _ 2 128 1 (by omega) (by omega) hb).trans ?_
      rw [if_neg (fun h => hb h.1.2)]
theorem next_three (s : ByteArray) (k : Nat) (h0 : 224 ≤ at8 s.data.toList 0) (h1 : at8 s.data.toList 0 < 240) : deckleref07_next.j2 (k + 7) s ((at8 s.data.toList 0 : Int) - 224) 3 2048 = some (nxI s.data.toList) := by
  have hsz := length_data s
  have l1 := at8_lt s.data.toList 1
  have l2 := at8_lt s.data.toList 2
  have hd : Lib.decodeL s.data.toList = if ((1 < s.size ∧ at8 s.data.toList 1 / 64 = 2) ∧ (2 < s.size ∧ at8 s.data.toList 2 / 64 = 2)) ∧ (at8 s.data.toList 0 % 16 * 4096 + at8 s.data.toList 1 % 64 * 64 + at8 s.data.toList 2 % 64 ≥ 2048 ∧ (at8 s.data.toList 0 % 16 * 4096 + at8 s.data.toList 1 % 64 * 64 + at8 s.data.toList 2 % 64 < 55296 ∨ (57344 ≤ at8 s.data.toList 0 % 16 * 4096 + at8 s.data.toList 1 % 64 * 64 + at8 s.data.toList 2 % 64 ∧ at8 s.data.toList 0 % 16 * 4096 + at8 s.data.toList 1 % 64 * 64 + at8 s.data.toList 2 % 64 ≤ 1114111))) then (at8 s.data.toList 0 % 16 * 4096 + at8 s.data.toList 1 % 64 * 64 + at8 s.data.toList 2 % 64, 3) else (65533, 1) := by
    rw [Lib.decodeL_N]
    show Lib.decodeN s.data.toList.length (at8 s.data.toList 0) (at8 s.data.toList 1) (at8 s.data.toList 2) (at8 s.data.toList 3) = _
    unfold Lib.decodeN
    rw [if_neg (by omega), hsz, if_neg (by omega)]
    by_cases h : (1 < s.size ∧ at8 s.data.toList 1 / 64 = 2) ∧ (2 < s.size ∧ at8 s.data.toList 2 / 64 = 2)
    · rw [if_pos ⟨by omega, h⟩]
      split
      · rename_i h3; rw [if_pos ⟨h, h3⟩]
      · rename_i h3; rw [if_neg (fun hh => h3 hh.2)]
    · rw [if_neg (fun hh => h hh.2), if_neg (by omega), if_neg (fun hh => h hh.1)]
  rw [nxI_of (by omega) hd, deckleref07_next.j2]
  clear hd
  by_cases hz : (s.size : Int) < 3
  · rw [if_pos hz, if_neg (by omega)]
  · rw [if_neg hz]
    by_cases hb : at8 s.data.toList 1 / 64 = 2
    · refine (next_go (k + 5) s _ 3 2048 1 (by omega) (by omega) (by omega) (by omega) hb).trans ?_
      by_cases hb2 : at8 s.data.toList 2 / 64 = 2
      · refine (next_go (k + 4) s _ 3 2048 2 (by omega) (by omega) (by omega) (by omega) hb2).trans ?_
        exact next_end' (by omega) (by omega) (by omega)
      · refine (next_bad (k + 4) s _ 3 2048 2 (by omega) (by omega) hb2).trans ?_
        rw [if_neg (fun h => hb2 h.1.2.2)]
    · refine (next_bad (k + 5) s _ 3 2048 1 (by omega) (by omega) hb).trans ?_
      rw [if_neg (fun h => hb h.1.1.2)]
theorem next_four (s : ByteArray) (k : Nat) (h0 : 240 ≤ at8 s.data.toList 0) (h1 : at8 s.data.toList 0 < 248) : deckleref07_next.j2 (k + 7) s ((at8 s.data.toList 0 : Int) - 240) 4 65536 = some (nxI s.data.toList) := by
  have hsz := length_data s
  have l1 := at8_lt s.data.toList 1
  have l2 := at8_lt s.data.toList 2
  have l3 := at8_lt s.data.toList 3
  have hd : Lib.decodeL s.data.toList = if ((1 < s.size ∧ at8 s.data.toList 1 / 64 = 2) ∧ (2 < s.size ∧ at8 s.data.toList 2 / 64 = 2) ∧ (3 < s.size ∧ at8 s.data.toList 3 / 64 = 2)) ∧ (at8 s.data.toList 0 % 8 * 262144 + at8 s.data.toList 1 % 64 * 4096 + at8 s.data.toList 2 % 64 * 64 + at8 s.data.toList 3 % 64 ≥ 65536 ∧ (at8 s.data.toList 0 % 8 * 262144 + at8 s.data.toList 1 % 64 * 4096 + at8 s.data.toList 2 % 64 * 64 + at8 s.data.toList 3 % 64 < 55296 ∨ (57344 ≤ at8 s.data.toList 0 % 8 * 262144 + at8 s.data.toList 1 % 64 * 4096 + at8 s.data.toList 2 % 64 * 64 + at8 s.data.toList 3 % 64 ∧ at8 s.data.toList 0 % 8 * 262144 + at8 s.data.toList 1 % 64 * 4096 + at8 s.data.toList 2 % 64 * 64 + at8 s.data.toList 3 % 64 ≤ 1114111))) then (at8 s.data.toList 0 % 8 * 262144 + at8 s.data.toList 1 % 64 * 4096 + at8 s.data.toList 2 % 64 * 64 + at8 s.data.toList 3 % 64, 4) else (65533, 1) := by
    rw [Lib.decodeL_N]
    show Lib.decodeN s.data.toList.length (at8 s.data.toList 0) (at8 s.data.toList 1) (at8 s.data.toList 2) (at8 s.data.toList 3) = _
    unfold Lib.decodeN
    rw [if_neg (by omega), hsz, if_neg (by omega), if_neg (by omega)]
    by_cases h : (1 < s.size ∧ at8 s.data.toList 1 / 64 = 2) ∧ (2 < s.size ∧ at8 s.data.toList 2 / 64 = 2) ∧ (3 < s.size ∧ at8 s.data.toList 3 / 64 = 2)
    · rw [if_pos ⟨by omega, h⟩]
      split
      · rename_i h3; rw [if_pos ⟨h, h3⟩]
      · rename_i h3; rw [if_neg (fun hh => h3 hh.2)]
    · rw [if_neg (fun hh => h hh.2), if_neg (fun hh => h hh.1)]
  rw [nxI_of (by omega) hd, deckleref07_next.j2]
  clear hd
  by_cases hz : (s.size : Int) < 4
  · rw [if_pos hz, if_neg (by omega)]
  · rw [if_neg hz]
    by_cases hb : at8 s.data.toList 1 / 64 = 2
    · refine (next_go (k + 5) s _ 4 65536 1 (by omega) (by omega) (by omega) (by omega) hb).trans ?_
      by_cases hb2 : at8 s.data.toList 2 / 64 = 2
      · refine (next_go (k + 4) s _ 4 65536 2 (by omega) (by omega) (by omega) (by omega) hb2).trans ?_
        by_cases hb3 : at8 s.data.toList 3 / 64 = 2
        · refine (next_go (k + 3) s _ 4 65536 3 (by omega) (by omega) (by omega) (by omega) hb3).trans ?_
          exact next_end' (by omega) (by omega) (by omega)
        · refine (next_bad (k + 3) s _ 4 65536 3 (by omega) (by omega) hb3).trans ?_
          rw [if_neg (fun h => hb3 h.1.2.2.2)]
      · refine (next_bad (k + 4) s _ 4 65536 2 (by omega) (by omega) hb2).trans ?_
        rw [if_neg (fun h => hb2 h.1.2.1.2)]
    · refine (next_bad (k + 5) s _ 4 65536 1 (by omega) (by omega) hb).trans ?_
      rw [if_neg (fun h => hb h.1.1.2)]
theorem nxI_none {l : List UInt8} (h : Lib.decodeL l = (65533, 1)) : nxI l = (0, 0) := by
  unfold nxI
  rw [h, if_pos ⟨rfl, rfl⟩]
theorem next_f (s : ByteArray) (k : Nat) (hs : 0 < s.size) : deckleref07_next.f (k + 9) s = some (nxI s.data.toList) := by
  have l0 := at8_lt s.data.toList 0
  unfold deckleref07_next.f
  rw [if_pos (by omega), bt_zero, wr (by omega) (by omega)]
  by_cases h1 : (at8 s.data.toList 0 : Int) < 128
  · rw [if_pos h1]
    have hd : Lib.decodeL s.data.toList = (at8 s.data.toList 0, 1) := by
      rw [Lib.decodeL_N]
      show Lib.decodeN s.data.toList.length (at8 s.data.toList 0) (at8 s.data.toList 1) (at8 s.data.toList 2) (at8 s.data.toList 3) = _
      unfold Lib.decodeN
      rw [if_pos (by omega)]
    unfold nxI
    rw [hd, if_neg (by rintro ⟨h2, _⟩; have h2 : at8 s.data.toList 0 = 65533 := h2; omega)]
    rfl
  · rw [if_neg h1]
    have hbad : at8 s.data.toList 0 < 192 ∨ 248 ≤ at8 s.data.toList 0 → nxI s.data.toList = (0, 0) := by
      intro h
      refine nxI_none ?_
      rw [Lib.decodeL_N]
      show Lib.decodeN s.data.toList.length (at8 s.data.toList 0) (at8 s.data.toList 1) (at8 s.data.toList 2) (at8 s.data.toList 3) = _
      unfold Lib.decodeN
      rw [if_neg (by omega), if_neg (by omega), if_neg (by omega), if_neg (by omega)]
    by_cases h2 : (at8 s.data.toList 0 : Int) ≥ 192
    · rw [if_pos h2]
      by_cases h3 : (at8 s.data.toList 0 : Int) < 224
      · rw [decide_eq_true h3, deckleref07_next.j0, if_pos rfl, wr (by omega) (by omega)]
        exact next_two s (k + 1) (by omega) (by omega)
      · rw [decide_eq_false h3, deckleref07_next.j0, if_neg (by simp), if_pos (by omega)]
        by_cases h4 : (at8 s.data.toList 0 : Int) < 240
        · rw [decide_eq_true h4, deckleref07_next.j1, if_pos rfl, wr (by omega) (by omega)]
          exact next_three s k (by omega) (by omega)
        · rw [decide_eq_false h4, deckleref07_next.j1, if_neg (by simp), if_pos (by omega)]
          by_cases h5 : (at8 s.data.toList 0 : Int) < 248
          · rw [if_pos h5, wr (by omega) (by omega)]
            exact next_four s k (by omega) (by omega)
          · rw [if_neg h5, hbad (by omega)]
    · rw [if_neg h2, deckleref07_next.j0, if_neg (by simp), if_neg (by omega), deckleref07_next.j1, if_neg (by simp), if_neg (by omega), hbad (by omega)]
theorem next_ev (s : ByteArray) (hs : 0 < s.size) : Ev (fun k => deckleref07_next.f k s) (nxI s.data.toList) :=
  ⟨9, fun k hk => by obtain ⟨m, rfl⟩ : ∃ m, k = m + 9 := ⟨k - 9, by omega⟩; exact next_f s m hs⟩
end Go.Proofs.YtmddkjmcbddhiaaDoor.P
end
section
namespace Go.Proofs.YtmddkjmcbddhiaaDoor.P
open Go.RowKit Go.Proofs.YtmddkjmcbddhiaaDoorW.PrintWords Go.Proofs.YtmddkjmcbddhiaaDoor.Sp
set_option linter.unusedVariables false
set_option linter.unusedSimpArgs false

theorem ext_drop_data (s : ByteArray) (n : Nat) : (s.extract n s.size).data.toList = s.data.toList.drop n := by
  rw [← ByteArray.toList_eq]
  exact ext_drop s n
theorem nxI_sign {x : Int} (h : signB x = true) (t : List UInt8) : nxI (Lib.encodeRune x ++ t) = (x, ((Lib.encodeRune x).length : Int)) := by
  unfold nxI
  rw [if_neg (dec_ok h t), dec_enc h]
  have := ((signB_iff x).1 h).1
  dsimp only
  rw [Int.toNat_of_nonneg this]
theorem signs_yes : ∀ (ls : List Int) (s : ByteArray) (acc : List Int), ls.all signB = true → s.data.toList = utf8 ls → acc.length + s.size ≤ 17592186044415 →
    Ev (fun k => deckleref07_Signs.l0 k s acc) (acc ++ ls, true)
  | [], s, acc, _, hs, _ => by
    refine Ev.step (f := fun _ => some (acc ++ [], true)) (fun k => ?_) (Ev.now _)
    rw [deckleref07_Signs.l0, ByteArray.toList_eq, if_pos (show s.data.toList = [] from hs), List.append_nil]
  | x :: t, s, acc, h, hs, hl => by
    rw [List.all_cons, Bool.and_eq_true] at h
    have h1 := congrArg List.length hs
    rw [length_data, utf8_cons, List.length_append] at h1
    have h2 := enc_pos x
    have hne : ¬ s.data.toList = [] := by
      rw [hs, utf8_cons]
      exact enc_ne x _
    obtain ⟨K1, e1⟩ := next_ev s (by omega)
    have hx : nxI s.data.toList = (x, ((Lib.encodeRune x).length : Int)) := by rw [hs, utf8_cons]; exact nxI_sign h.1 _
    have hd : (s.extract (Lib.encodeRune x).length s.size).data.toList = utf8 t := by rw [ext_drop_data, hs, utf8_cons, List.drop_left]
    have hz := congrArg List.length hd
    rw [length_data] at hz
    obtain ⟨K2, e2⟩ := signs_yes t (s.extract (Lib.encodeRune x).length s.size) (acc ++ [x]) h.2 hd (by rw [List.length_append, List.length_singleton]; omega)
    refine ⟨K1 + K2 + 1, fun k hk => ?_⟩
    obtain ⟨m, rfl⟩ : ∃ m, k = m + 1 := ⟨k - 1, by omega⟩
    have e3 : deckleref07_next.f m s = some (nxI s.data.toList) := e1 m (by omega)
    have e4 : deckleref07_Signs.l0 m (s.extract (Lib.encodeRune x).length s.size) (acc ++ [x]) = some ((acc ++ [x]) ++ t, true) := e2 m (by omega)
    show deckleref07_Signs.l0 (m + 1) s acc = _
    rw [deckleref07_Signs.l0, ByteArray.toList_eq, if_neg hne, e3, hx, Option.bind_some]
    dsimp only
    rw [if_neg (by omega), if_pos (by omega), if_pos (by omega), if_pos (by omega), Int.toNat_natCast, e4, List.append_assoc, List.singleton_append]
theorem decodeL_le {l : List UInt8} (h : l ≠ []) : (Lib.decodeL l).2 ≤ l.length := by
  have hp := List.length_pos_iff.2 h
  rw [Lib.decodeL_N]
  rcases Lib.decodeN_shape l.length (l.getD 0 0).toNat (l.getD 1 0).toNat (l.getD 2 0).toNat (l.getD 3 0).toNat with ⟨_, e⟩ | ⟨_, _, _, _, e⟩ | ⟨_, _, _, _, _, _, e⟩ | ⟨_, _, _, _, _, _, _, e⟩ | e
  all_goals rw [e]; dsimp only; omega
theorem signs_no : ∀ (n : Nat) (s : ByteArray) (acc : List Int), Lib.validGoD n s.data.toList = false → acc.length + s.size ≤ 17592186044415 →
    Ev (fun k => deckleref07_Signs.l0 k s acc) ([], false)
  | 0, s, acc, h, _ => by simp [Lib.validGoD] at h
  | n + 1, s, acc, h, hl => by
    rw [Lib.validGoD] at h
    split at h
    · cases h
    · rename_i hne
      have hz := length_data s
      have hp := List.length_pos_iff.2 hne
      obtain ⟨K1, e1⟩ := next_ev s (by omega)
      split at h
      · rename_i hd
        refine ⟨K1 + 1, fun k hk => ?_⟩
        obtain ⟨m, rfl⟩ : ∃ m, k = m + 1 := ⟨k - 1, by omega⟩
        have e3 : deckleref07_next.f m s = some (nxI s.data.toList) := e1 m (by omega)
        have hx : nxI s.data.toList = (0, 0) := by unfold nxI; rw [if_pos hd]
        show deckleref07_Signs.l0 (m + 1) s acc = _
        rw [deckleref07_Signs.l0, ByteArray.toList_eq, if_neg hne, e3, hx, Option.bind_some]
        dsimp only
        rw [if_pos rfl]
      · rename_i hd
        have hw := Lib.decodeL_width s.data.toList
        have hw2 := decodeL_le hne
        obtain ⟨w, hwe⟩ : ∃ w, w = (Lib.decodeL s.data.toList).2 := ⟨_, rfl⟩
        obtain ⟨v, hve⟩ : ∃ v, v = (Lib.decodeL s.data.toList).1 := ⟨_, rfl⟩
        have hx : nxI s.data.toList = ((v : Int), (w : Int)) := by unfold nxI; rw [if_neg hd, hve, hwe]
        rw [← hwe] at h hw hw2
        have hdd := ext_drop_data s w
        have hzz := congrArg List.length hdd
        rw [length_data, List.length_drop] at hzz
        obtain ⟨K2, e2⟩ := signs_no n (s.extract w s.size) (acc ++ [(v : Int)]) (by rw [hdd]; exact h) (by rw [List.length_append, List.length_singleton]; omega)
        refine ⟨K1 + K2 + 1, fun k hk => ?_⟩
        obtain ⟨m, rfl⟩ : ∃ m, k = m + 1 := ⟨k - 1, by omega⟩
        have e3 : deckleref07_next.f m s = some (nxI s.data.toList) := e1 m (by omega)
        have e4 : deckleref07_Signs.l0 m (s.extract w s.size) (acc ++ [(v : Int)]) = some ([], false) := e2 m (by omega)
        show deckleref07_Signs.l0 (m + 1) s acc = _
        rw [deckleref07_Signs.l0, ByteArray.toList_eq, if_neg hne, e3, hx, Option.bind_some]
        dsimp only
        rw [if_neg (by omega), if_pos (by omega), if_pos (by omega), if_pos (by omega), Int.toNat_natCast, e4]
theorem signs_ev_yes {s : ByteArray} {ls : List Int} (h : ls.all signB = true) (hs : s.data.toList = utf8 ls) (hl : s.size ≤ 17592186044415) : Ev (fun k => deckleref07_Signs.f k s) (ls, true) := by
  have := signs_yes ls s [] h hs (by simp only [List.length_nil]; omega)
  exact this
theorem signs_ev_no {s : ByteArray} (h : Lib.validD s.data.toList = false) (hl : s.size ≤ 17592186044415) : Ev (fun k => deckleref07_Signs.f k s) ([], false) :=
  signs_no _ s [] h (by simp only [List.length_nil]; omega)
theorem line16_loop (ls : List Int) (hl : ls.length ≤ 1000) (n : Nat) : ∀ i : Nat, ls.length ≤ i + n → Ev (fun k => deckleref16_Line.l0 k ls (i : Int)) ((ls.drop i).all fun c => !oddR c) := by
  have stop : ∀ i : Nat, ls.length ≤ i → Ev (fun k => deckleref16_Line.l0 k ls (i : Int)) ((ls.drop i).all fun c => !oddR c) := by
    intro i hi
    rw [List.drop_eq_nil_of_le hi]
    exact Ev.step (f := fun _ => some true) (fun k => by rw [deckleref16_Line.l0, if_neg (by omega)]) (Ev.now _)
  induction n with
  | zero => intro i hi; exact stop i (by omega)
  | succ n ih =>
    intro i hi
    by_cases hlt : i < ls.length
    · have hd : ls.drop i = ls[i] :: ls.drop (i + 1) := List.drop_eq_getElem_cons hlt
      rw [hd, List.all_cons]
      have hst : ∀ k, deckleref16_Line.l0 (k + 1) ls (i : Int) = if oddR ls[i] = true then some false else deckleref16_Line.l0 k ls ((i + 1 : Nat) : Int) := by
        intro k
        rw [deckleref16_Line.l0, if_pos (by omega), if_pos (by omega), rd_get ls i hlt, wrap_nat rfl (by omega)]
        unfold oddR
        by_cases h1 : ls[i] < 32
        · rw [if_pos h1, decide_eq_true h1, Bool.true_or, if_pos rfl]
        · rw [if_neg h1, decide_eq_false h1, Bool.false_or]
          by_cases h2 : ls[i] ≥ 127
          · rw [if_pos h2, decide_eq_true (p := 127 ≤ ls[i]) h2, Bool.true_and]
            by_cases h3 : ls[i] ≤ 159
            · rw [if_pos h3, decide_eq_true h3, if_pos rfl]
            · rw [if_neg h3, decide_eq_false h3, if_neg (by simp)]
          · rw [if_neg h2, decide_eq_false (p := 127 ≤ ls[i]) h2, Bool.false_and, if_neg (by simp)]
      cases ho : oddR ls[i] with
      | true =>
        refine Ev.step (f := fun _ => some false) (fun k => ?_) (Ev.now _)
        rw [hst, ho, if_pos rfl]
      | false =>
        refine Ev.step (fun k => ?_) (ih (i + 1) (by omega))
        rw [hst, ho, if_neg (by simp)]
    · exact stop i (by omega)
theorem line16_ev (s : ByteArray) (hl : s.size ≤ 17592186044415) : Ev (fun k => deckleref16_Line.f k s) (lineB s) := by
  cases hv : Lib.validD s.data.toList with
  | false =>
    obtain ⟨K, e⟩ := signs_ev_no hv hl
    have hb : lineB s = false := by unfold lineB; rw [hv, Bool.false_and]
    refine ⟨K + 1, fun k hk => ?_⟩
    obtain ⟨m, rfl⟩ : ∃ m, k = m + 1 := ⟨k - 1, by omega⟩
    have e1 : deckleref07_Signs.f (m + 1) s = some ([], false) := e _ (by omega)
    show deckleref16_Line.f (m + 1) s = _
    unfold deckleref16_Line.f
    rw [e1, Option.bind_some, if_neg (by simp), deckleref16_Line.j0, if_pos rfl, hb]
  | true =>
    obtain ⟨ls, h1, h2⟩ := (valid_iff _).1 hv
    obtain ⟨K, e⟩ := signs_ev_yes h1 h2 hl
    rw [lineB_utf8 h1 h2]
    by_cases h3 : ls.length ≤ 1000
    · obtain ⟨K2, e2⟩ := line16_loop ls h3 _ 0 (Nat.le_add_left _ _)
      refine ⟨K + K2 + 1, fun k hk => ?_⟩
      obtain ⟨m, rfl⟩ : ∃ m, k = m + 1 := ⟨k - 1, by omega⟩
      have e1 : deckleref07_Signs.f (m + 1) s = some (ls, true) := e _ (by omega)
      have e3 : deckleref16_Line.l0 m ls 0 = some (ls.all fun c => !oddR c) := e2 m (by omega)
      show deckleref16_Line.f (m + 1) s = _
      unfold deckleref16_Line.f
      rw [e1, Option.bind_some, if_pos rfl, decide_eq_false (by dsimp only; omega), deckleref16_Line.j0, if_neg (by simp), decide_eq_true h3, Bool.true_and]
      exact e3
    · refine ⟨K + 1, fun k hk => ?_⟩
      obtain ⟨m, rfl⟩ : ∃ m, k = m + 1 := ⟨k - 1, by omega⟩
      have e1 : deckleref07_Signs.f (m + 1) s = some (ls, true) := e _ (by omega)
      show deckleref16_Line.f (m + 1) s = _
      unfold deckleref16_Line.f
      rw [e1, Option.bind_some, if_pos rfl, decide_eq_true (by dsimp only; omega), deckleref16_Line.j0, if_pos rfl, decide_eq_false h3, Bool.false_and]
end Go.Proofs.YtmddkjmcbddhiaaDoor.P
end
section
namespace Go.Proofs.YtmddkjmcbddhiaaDoor.P
open Go.RowKit Go.Proofs.YtmddkjmcbddhiaaDoorW.PrintWords Go.Proofs.YtmddkjmcbddhiaaDoor.Sp Go.Proofs.YtmddkjmcbddhiaaDoor.Q
set_option linter.unusedVariables false
set_option linter.unusedSimpArgs false

theorem tdiv_nn {n d : Int} (h : 0 ≤ n) : Int.tdiv n d = n / d := Int.tdiv_eq_ediv_of_nonneg h
theorem tmod_nn {n d : Int} (h : 0 ≤ n) : Int.tmod n d = n % d := Int.tmod_eq_emod_of_nonneg h
theorem bytes07_yes (n : Int) (k : Nat) (h : signB n = true) : deckleref07_Bytes.f (k + 1) n = some (txt (Lib.encodeRune n)) := by
  obtain ⟨h0, h1, h2⟩ := (signB_iff n).1 h
  have hj : deckleref07_Bytes.j0 (k + 1) n false = some (txt (Lib.encodeRune n)) := by
    have he : ∀ z : List Int, z = Lib.encodeRuneZ n → some (strOfNums z) = some (txt (Lib.encodeRune n)) := fun z hz => by rw [hz]; rfl
    rw [deckleref07_Bytes.j0, if_neg (by simp)]
    by_cases a1 : n < 128
    · rw [if_pos a1]
      refine he _ ?_
      rw [Lib.encodeRuneZ_one h0 (by omega)]
      congr 1
      omega
    · rw [if_neg a1]
      have d1 : wrap64 (Int.tdiv n 64) = n / 64 := by rw [tdiv_nn h0]; exact wr (by omega) (by omega)
      have d2 : wrap64 (Int.tdiv n 4096) = n / 4096 := by rw [tdiv_nn h0]; exact wr (by omega) (by omega)
      have d3 : wrap64 (Int.tdiv n 262144) = n / 262144 := by rw [tdiv_nn h0]; exact wr (by omega) (by omega)
      have m1 : Int.tmod n 64 = n % 64 := tmod_nn h0
      have m2 : Int.tmod (n / 64) 64 = n / 64 % 64 := tmod_nn (by omega)
      have m3 : Int.tmod (n / 4096) 64 = n / 4096 % 64 := tmod_nn (by omega)
      rw [d1, d2, d3, m1, m2, m3]
      clear d1 d2 d3 m1 m2 m3
      have w1 : wrap64 (128 + n % 64) % 256 = 128 + n % 64 := by rw [wr (by omega) (by omega)]; omega
      have w2 : wrap64 (128 + n / 64 % 64) % 256 = 128 + n / 64 % 64 := by rw [wr (by omega) (by omega)]; omega
      have w3 : wrap64 (128 + n / 4096 % 64) % 256 = 128 + n / 4096 % 64 := by rw [wr (by omega) (by omega)]; omega
      rw [w1, w2, w3]
      by_cases a2 : n < 2048
      · rw [if_pos a2]
        refine he _ ?_
        rw [Lib.encodeRuneZ_two (by omega) (by omega), wr (by omega) (by omega)]
        congr 1
        omega
      · rw [if_neg a2]
        by_cases a3 : n < 65536
        · rw [if_pos a3]
          refine he _ ?_
          rw [Lib.encodeRuneZ_three (by omega), wr (by omega) (by omega)]
          congr 1
          omega
        · rw [if_neg a3]
          refine he _ ?_
          rw [Lib.encodeRuneZ_four (by omega) h1, wr (by omega) (by omega)]
          congr 1
          omega
  unfold deckleref07_Bytes.f
  rw [if_neg (by omega), if_neg (by omega)]
  by_cases h3 : n ≥ 55296
  · rw [if_pos h3, decide_eq_false (by omega)]
    exact hj
  · rw [if_neg h3]
    exact hj
theorem bytes07_no (n : Int) (k : Nat) (h : signB n = false) : deckleref07_Bytes.f (k + 1) n = some ⟨#[]⟩ := by
  have hn : ¬ (0 ≤ n ∧ n ≤ 1114111 ∧ ¬ (55296 ≤ n ∧ n ≤ 57343)) := fun hh => by
    rw [(signB_iff n).2 hh] at h
    cases h
  have hj : deckleref07_Bytes.j0 (k + 1) n true = some ⟨#[]⟩ := by rw [deckleref07_Bytes.j0, if_pos rfl]
  unfold deckleref07_Bytes.f
  by_cases h1 : n < 0
  · rw [if_pos h1, hj]
  · rw [if_neg h1]
    by_cases h2 : n > 1114111
    · rw [if_pos h2, hj]
    · rw [if_neg h2, if_pos (by omega), decide_eq_true (by omega), hj]
theorem txt_size (u : List UInt8) : (txt u).size = u.length := rfl
theorem text13_loop (l : List Int) (hl : l.length ≤ 1000) (n : Nat) : ∀ (i : Nat) (x : ByteArray), i ≤ l.length → l.length ≤ i + n → x.size ≤ 1 + 8 * i →
    Ev (fun k => deckleref13_Text.l0 k l x (i : Int)) (if (l.drop i).all signB = true then (txt (x.data.toList ++ ((l.drop i).flatMap qEnc ++ [39])), true) else (⟨#[]⟩, false)) := by
  have stop : ∀ (i : Nat) (x : ByteArray), l.length ≤ i → x.size ≤ 1 + 8 * 1000 → Ev (fun k => deckleref13_Text.l0 k l x (i : Int)) (if (l.drop i).all signB = true then (txt (x.data.toList ++ ((l.drop i).flatMap qEnc ++ [39])), true) else (⟨#[]⟩, false)) := by
    intro i x hi hx
    rw [List.drop_eq_nil_of_le hi, List.all_nil, if_pos rfl]
    refine Ev.step (f := fun _ => some (x ++ (⟨#[39]⟩ : ByteArray), true)) (fun k => by rw [deckleref13_Text.l0, if_neg (by omega), if_pos (by omega)]) ?_
    have e : x ++ (⟨#[39]⟩ : ByteArray) = txt (x.data.toList ++ (([] : List Int).flatMap qEnc ++ [39])) := by
      apply ba_eq
      rw [append_data, txt_data]
      rfl
    rw [e]
    exact Ev.now _
  induction n with
  | zero => intro i x h1 hi hx; exact stop i x (by omega) (by omega)
  | succ n ih =>
    intro i x h1 hi hx
    by_cases hlt : i < l.length
    · have hd : l.drop i = l[i] :: l.drop (i + 1) := List.drop_eq_getElem_cons hlt
      rw [hd, List.all_cons, List.flatMap_cons]
      cases hs : signB l[i] with
      | false =>
        rw [Bool.false_and, if_neg (by simp)]
        refine ⟨2, fun k hk => ?_⟩
        obtain ⟨m, rfl⟩ : ∃ m, k = m + 1 + 1 := ⟨k - 2, by omega⟩
        show deckleref13_Text.l0 (m + 1 + 1) l x (i : Int) = _
        rw [deckleref13_Text.l0, if_pos (by omega), if_pos (by omega), rd_get l i hlt, bytes07_no _ _ hs, Option.bind_some, ByteArray.toList_eq, if_pos rfl]
      | true =>
        rw [Bool.true_and]
        have hp := enc_pos l[i]
        have hp4 : (Lib.encodeRune l[i]).length ≤ 4 := by
          have := Lib.runeCells_le l[i]
          rw [Lib.runeCells_length] at this
          exact this.2
        have hne : ¬ (txt (Lib.encodeRune l[i])).toList = ([] : List UInt8) := by
          rw [ByteArray.toList_eq, txt_data]
          intro h
          rw [h] at hp
          simp at hp
        have hts : (txt (Lib.encodeRune l[i])).size = (Lib.encodeRune l[i]).length := rfl
        have hz1 : (x ++ txt (Lib.encodeRune l[i])).size = x.size + (Lib.encodeRune l[i]).length := by rw [ByteArray.size_append, hts]
        by_cases h39 : l[i] = 39
        · have hq : qEnc l[i] = [39, 39] := by unfold qEnc; rw [if_pos h39]
          have hz2 : ((x ++ txt (Lib.encodeRune l[i])) ++ txt (Lib.encodeRune l[i])).size = x.size + (Lib.encodeRune l[i]).length + (Lib.encodeRune l[i]).length := by rw [ByteArray.size_append, hz1, hts]
          obtain ⟨K, e⟩ := ih (i + 1) ((x ++ txt (Lib.encodeRune l[i])) ++ txt (Lib.encodeRune l[i])) (by omega) (by omega) (by omega)
          have hdat : ((x ++ txt (Lib.encodeRune l[i])) ++ txt (Lib.encodeRune l[i])).data.toList ++ ((l.drop (i + 1)).flatMap qEnc ++ [39]) = x.data.toList ++ ((qEnc l[i] ++ (l.drop (i + 1)).flatMap qEnc) ++ [39]) := by
            rw [append_data, append_data, txt_data, hq, h39, enc_39]
            simp
          rw [hdat] at e
          refine ⟨K + 2, fun k hk => ?_⟩
          obtain ⟨m, rfl⟩ : ∃ m, k = m + 1 + 1 := ⟨k - 2, by omega⟩
          have e1 := e (m + 1) (by omega)
          show deckleref13_Text.l0 (m + 1 + 1) l x (i : Int) = _
          rw [deckleref13_Text.l0, if_pos (by omega), if_pos (by omega), rd_get l i hlt, bytes07_yes _ _ hs, Option.bind_some, if_neg hne, if_pos (by omega), if_pos h39, if_pos (by omega), wrap_nat rfl (by omega)]
          exact e1
        · have hq : qEnc l[i] = Lib.encodeRune l[i] := by unfold qEnc; rw [if_neg h39]
          obtain ⟨K, e⟩ := ih (i + 1) (x ++ txt (Lib.encodeRune l[i])) (by omega) (by omega) (by omega)
          have hdat : (x ++ txt (Lib.encodeRune l[i])).data.toList ++ ((l.drop (i + 1)).flatMap qEnc ++ [39]) = x.data.toList ++ ((qEnc l[i] ++ (l.drop (i + 1)).flatMap qEnc) ++ [39]) := by
            rw [append_data, txt_data, hq]
            simp
          rw [hdat] at e
          refine ⟨K + 2, fun k hk => ?_⟩
          obtain ⟨m, rfl⟩ : ∃ m, k = m + 1 + 1 := ⟨k - 2, by omega⟩
          have e1 := e (m + 1) (by omega)
          show deckleref13_Text.l0 (m + 1 + 1) l x (i : Int) = _
          rw [deckleref13_Text.l0, if_pos (by omega), if_pos (by omega), rd_get l i hlt, bytes07_yes _ _ hs, Option.bind_some, if_neg hne, if_pos (by omega), if_neg h39, wrap_nat rfl (by omega)]
          exact e1
    · exact stop i x (by omega) (by omega)
theorem text13_ev (l : List Int) (hl : l.length ≤ 1000) : Ev (fun k => deckleref13_Text.f k l) (qRes l) := by
  have h := text13_loop l hl _ 0 ⟨#[39]⟩ (Nat.zero_le _) (Nat.le_add_left _ _) (by decide)
  rw [List.drop_zero] at h
  unfold qRes
  have e : txt ((⟨#[39]⟩ : ByteArray).data.toList ++ (l.flatMap qEnc ++ [39])) = ⟨(qText l).toArray⟩ := by
    apply ba_eq
    rw [txt_data]
    unfold qText
    rfl
  rw [e] at h
  exact h
theorem bt_app {s : ByteArray} {p t : List UInt8} {c : UInt8} (h : s.data.toList = p ++ c :: t) : bt s (p.length : Int) = (c.toNat : Int) := by
  rw [bt_at8, h]
  unfold at8
  rw [List.getD_eq_getElem?_getD, List.getElem?_append_right (Nat.le_refl _), Nat.sub_self, List.getElem?_cons_zero, Option.getD_some]
theorem c39 {c : UInt8} (h : c ≠ 39) : ¬ (c.toNat : Int) = 39 := by
  intro h2
  exact h (u8_39.1 (by omega))
theorem read13_char (k : Nat) (s acc : ByteArray) (p t : List UInt8) (c : UInt8) (hs : s.data.toList = p ++ c :: t) (hc : c ≠ 39) (hz : s.size ≤ 1000) (ha : acc.size ≤ 1000) :
    deckleref13_Read.l0 (k + 1) s acc (p.length : Int) = deckleref13_Read.l0 k s (acc ++ txt [c]) ((p.length + 1 : Nat) : Int) := by
  have hl := length_data s
  rw [hs, List.length_append, List.length_cons] at hl
  have hp : s.extract p.length (p.length + 1) = txt [c] := by
    apply ba_eq
    have h1 : (s.extract p.length (p.length + 1)).data.toList = (s.data.toList.drop p.length).take 1 := by simp
    rw [h1, hs, List.drop_left, txt_data]
    rfl
  have hw : wrap64 ((p.length : Int) + 1) = ((p.length + 1 : Nat) : Int) := wrap_nat rfl (by omega)
  have hts : (txt [c]).size = 1 := rfl
  rw [deckleref13_Read.l0, if_pos (by omega), if_pos (by omega), bt_app hs, if_neg (c39 hc), hw, if_pos (by omega), if_pos (by omega), Int.toNat_natCast, Int.toNat_natCast, hp, if_pos (by omega)]
theorem read13_two (k : Nat) (s acc : ByteArray) (p t : List UInt8) (hs : s.data.toList = p ++ 39 :: 39 :: t) (hz : s.size ≤ 1000) (ha : acc.size ≤ 1000) :
    deckleref13_Read.l0 (k + 2) s acc (p.length : Int) = deckleref13_Read.l0 k s (acc ++ txt [39]) ((p.length + 2 : Nat) : Int) := by
  have hl := length_data s
  rw [hs, List.length_append, List.length_cons, List.length_cons] at hl
  have hw : wrap64 ((p.length : Int) + 1) = ((p.length + 1 : Nat) : Int) := wrap_nat rfl (by omega)
  have hw2 : wrap64 (((p.length + 1 : Nat) : Int) + 1) = ((p.length + 2 : Nat) : Int) := wrap_nat rfl (by omega)
  have hs2 : s.data.toList = (p ++ [39]) ++ 39 :: t := by rw [hs]; simp
  have hb2 := bt_app hs2
  rw [List.length_append, List.length_singleton] at hb2
  have e39 : ((39 : UInt8).toNat : Int) = 39 := rfl
  rw [e39] at hb2
  rw [deckleref13_Read.l0, if_pos (by omega), if_pos (by omega), bt_app hs, e39, if_pos rfl, hw, if_pos (by omega), if_pos (by omega), hb2, deckleref13_Read.j2, if_pos (by decide), if_pos (by omega), hw, hw2]
  rfl
theorem read13_end (k : Nat) (s acc : ByteArray) (p r : List UInt8) (hs : s.data.toList = p ++ 39 :: r) (hr : ∀ u, r ≠ 39 :: u) (hz : s.size ≤ 1000) :
    deckleref13_Read.l0 (k + 1) s acc (p.length : Int) = deckleref13_Read.j2 k s acc (p.length : Int) false := by
  have hl := length_data s
  rw [hs, List.length_append, List.length_cons] at hl
  have hw : wrap64 ((p.length : Int) + 1) = ((p.length + 1 : Nat) : Int) := wrap_nat rfl (by omega)
  have e39 : ((39 : UInt8).toNat : Int) = 39 := rfl
  rw [deckleref13_Read.l0, if_pos (by omega), if_pos (by omega), bt_app hs, e39, if_pos rfl, hw]
  cases r with
  | nil => rw [if_neg (by simp at hl; omega)]
  | cons c t =>
    have hs2 : s.data.toList = (p ++ [39]) ++ c :: t := by rw [hs]; simp
    have hb2 := bt_app hs2
    rw [List.length_append, List.length_singleton] at hb2
    have hc : c ≠ 39 := fun h => hr t (by rw [h])
    have hd : ((c.toNat : Int) == 39) = false := beq_eq_false_iff_ne.2 (c39 hc)
    rw [List.length_cons] at hl
    rw [if_pos (by omega), if_pos (by omega), hb2, hd]
theorem read13_scan (s : ByteArray) (r : List UInt8) (hr : ∀ u, r ≠ 39 :: u) (hz : s.size ≤ 1000) (R : List Int × ByteArray × Bool) : ∀ (a p : List UInt8) (acc : ByteArray), s.data.toList = p ++ (esc a ++ 39 :: r) → acc.size ≤ p.length →
    Ev (fun k => deckleref13_Read.j2 k s (txt (acc.data.toList ++ a)) ((p.length + (esc a).length : Nat) : Int) false) R → Ev (fun k => deckleref13_Read.l0 k s acc (p.length : Int)) R
  | [], p, acc, hs, ha, he => by
    have e : txt (acc.data.toList ++ []) = acc := by rw [List.append_nil]; rfl
    rw [e] at he
    exact Ev.step (fun k => read13_end k s acc p r hs hr hz) he
  | c :: t, p, acc, hs, ha, he => by
    have hl := length_data s
    have hle : (esc (c :: t) ++ 39 :: r).length + p.length = s.size := by rw [← hl, hs]; simp only [List.length_append]; omega
    by_cases hc : c = 39
    · subst hc
      have e1 : esc (39 :: t) = 39 :: 39 :: esc t := by rw [esc, if_pos rfl]
      rw [e1] at hs he
      have hs2 : s.data.toList = (p ++ [39, 39]) ++ (esc t ++ 39 :: r) := by rw [hs]; simp
      have hlen : (p ++ [39, 39] : List UInt8).length = p.length + 2 := by simp
      have h2 := read13_scan s r hr hz R t (p ++ [39, 39]) (acc ++ txt [39]) hs2 (by rw [hlen, ByteArray.size_append]; have : (txt [39]).size = 1 := rfl; omega) (by
        have e2 : txt ((acc ++ txt [39]).data.toList ++ t) = txt (acc.data.toList ++ 39 :: t) := by rw [append_data, txt_data]; simp
        have e3 : (((p ++ [39, 39] : List UInt8).length + (esc t).length : Nat) : Int) = ((p.length + (39 :: 39 :: esc t).length : Nat) : Int) := by rw [hlen, List.length_cons, List.length_cons]; omega
        rw [e2, e3]
        exact he)
      rw [hlen] at h2
      obtain ⟨K, h3⟩ := h2
      refine ⟨K + 2, fun k hk => ?_⟩
      obtain ⟨m, rfl⟩ : ∃ m, k = m + 2 := ⟨k - 2, by omega⟩
      exact (read13_two m s acc p (esc t ++ 39 :: r) hs hz (by omega)).trans (h3 m (by omega))
    · have e1 : esc (c :: t) = c :: esc t := by rw [esc, if_neg hc]
      rw [e1] at hs he
      have hs2 : s.data.toList = (p ++ [c]) ++ (esc t ++ 39 :: r) := by rw [hs]; simp
      have hlen : (p ++ [c] : List UInt8).length = p.length + 1 := by simp
      have h2 := read13_scan s r hr hz R t (p ++ [c]) (acc ++ txt [c]) hs2 (by rw [hlen, ByteArray.size_append]; have : (txt [c]).size = 1 := rfl; omega) (by
        have e2 : txt ((acc ++ txt [c]).data.toList ++ t) = txt (acc.data.toList ++ c :: t) := by rw [append_data, txt_data]; simp
        have e3 : (((p ++ [c] : List UInt8).length + (esc t).length : Nat) : Int) = ((p.length + (c :: esc t).length : Nat) : Int) := by rw [hlen, List.length_cons]; omega
        rw [e2, e3]
        exact he)
      rw [hlen] at h2
      exact Ev.step (fun k => read13_char k s acc p (esc t ++ 39 :: r) c hs hc hz (by omega)) h2
theorem read13_none (s : ByteArray) (hz : s.size ≤ 1000) (n : Nat) : ∀ (p t : List UInt8) (acc : ByteArray), t.length ≤ n → s.data.toList = p ++ t → endsL t = none → acc.size ≤ p.length →
    Ev (fun k => deckleref13_Read.l0 k s acc (p.length : Int)) ([], ⟨#[]⟩, false) := by
  have stop : ∀ (p : List UInt8) (acc : ByteArray), s.data.toList = p ++ [] → Ev (fun k => deckleref13_Read.l0 k s acc (p.length : Int)) ([], ⟨#[]⟩, false) := by
    intro p acc hs
    have hl := length_data s
    rw [hs, List.append_nil] at hl
    exact Ev.step (f := fun _ => some ([], ⟨#[]⟩, false)) (fun k => by rw [deckleref13_Read.l0, if_neg (by omega)]) (Ev.now _)
  induction n with
  | zero =>
    intro p t acc hn hs he ha
    have : t = [] := by cases t with | nil => rfl | cons => simp at hn
    subst this
    exact stop p acc hs
  | succ n ih =>
    intro p t acc hn hs he ha
    have hl := length_data s
    have hle : t.length + p.length = s.size := by rw [← hl, hs]; simp only [List.length_append]; omega
    cases t with
    | nil => exact stop p acc hs
    | cons c t =>
      rw [List.length_cons] at hn hle
      by_cases hc : c = 39
      · subst hc
        by_cases h2 : ∃ u, t = 39 :: u
        · obtain ⟨u, rfl⟩ := h2
          rw [endsL_two] at he
          have he2 : endsL u = none := by cases h : endsL u with | none => rfl | some e => rw [h] at he; cases he
          have hs2 : s.data.toList = (p ++ [39, 39]) ++ u := by rw [hs]; simp
          have hlen : (p ++ [39, 39] : List UInt8).length = p.length + 2 := by simp
          rw [List.length_cons] at hn hle
          have h3 := ih (p ++ [39, 39]) u (acc ++ txt [39]) (by omega) hs2 he2 (by rw [hlen, ByteArray.size_append]; have : (txt [39]).size = 1 := rfl; omega)
          rw [hlen] at h3
          obtain ⟨K, h4⟩ := h3
          refine ⟨K + 2, fun k hk => ?_⟩
          obtain ⟨m, rfl⟩ : ∃ m, k = m + 2 := ⟨k - 2, by omega⟩
          exact (read13_two m s acc p u hs hz (by omega)).trans (h4 m (by omega))
        · rw [endsL_end (fun u hu => h2 ⟨u, hu⟩)] at he
          cases he
      · rw [endsL_skip t hc] at he
        have he2 : endsL t = none := by cases h : endsL t with | none => rfl | some e => rw [h] at he; cases he
        have hs2 : s.data.toList = (p ++ [c]) ++ t := by rw [hs]; simp
        have hlen : (p ++ [c] : List UInt8).length = p.length + 1 := by simp
        have h3 := ih (p ++ [c]) t (acc ++ txt [c]) (by omega) hs2 he2 (by rw [hlen, ByteArray.size_append]; have : (txt [c]).size = 1 := rfl; omega)
        rw [hlen] at h3
        exact Ev.step (fun k => read13_char k s acc p t c hs hc hz (by omega)) h3
theorem utf8_length : ∀ ls : List Int, ls.length ≤ (utf8 ls).length
  | [] => Nat.zero_le _
  | x :: t => by
    have h1 := enc_pos x
    have h2 := utf8_length t
    rw [utf8_cons, List.length_append, List.length_cons]
    omega
theorem read13_ev (s : ByteArray) (hz : s.size ≤ 1000) : ∃ r, quote_Read.f s = some r ∧ r.1.length ≤ s.size ∧ Ev (fun k => deckleref13_Read.f k s) r := by
  have hl := length_data s
  cases hq : qOk s with
  | true =>
    obtain ⟨ls, r, h1, h2, h3⟩ := read_was hq
    have hqr := quote_Read_yes (by omega) h1 h2 h3
    rw [qText_esc h1] at h2
    have hs : s.data.toList = [39] ++ (esc (utf8 ls) ++ 39 :: r) := by rw [h2]; simp
    have hle : 1 + ((esc (utf8 ls)).length + (r.length + 1)) = s.size := by rw [← hl, hs]; simp; omega
    have hu : (utf8 ls).length ≤ s.size := by
      have h5 := unq_len _ (esc (utf8 ls)) (Nat.le_refl _)
      rw [unq_esc] at h5
      omega
    refine ⟨_, hqr, Nat.le_trans (utf8_length ls) hu, ?_⟩
    have hscan := read13_scan s r h3 hz (ls, ⟨r.toArray⟩, true) (utf8 ls) [39] ⟨#[]⟩ hs (Nat.zero_le _) ?_
    · have hne : ¬ s.data.toList = [] := by rw [hs]; simp
      have hb : bt s 0 = 39 := by
        have := bt_app (p := []) (c := 39) (t := esc (utf8 ls) ++ 39 :: r) hs
        exact this
      obtain ⟨K, hK⟩ := hscan
      refine ⟨K + 1, fun k hk => ?_⟩
      obtain ⟨m, rfl⟩ : ∃ m, k = m + 1 := ⟨k - 1, by omega⟩
      have hm := hK m (by omega)
      show deckleref13_Read.f (m + 1) s = _
      unfold deckleref13_Read.f
      rw [ByteArray.toList_eq, if_neg hne, if_pos (by omega), hb, deckleref13_Read.j0, if_neg (by decide)]
      exact hm
    · have htx : (txt ((⟨#[]⟩ : ByteArray).data.toList ++ utf8 ls)).data.toList = utf8 ls := rfl
      have htz : (txt ((⟨#[]⟩ : ByteArray).data.toList ++ utf8 ls)).size = (utf8 ls).length := rfl
      obtain ⟨K, hK⟩ := signs_ev_yes h1 htx (by omega)
      refine ⟨K + 1, fun k hk => ?_⟩
      obtain ⟨m, rfl⟩ : ∃ m, k = m + 1 := ⟨k - 1, by omega⟩
      have e1 : deckleref07_Signs.f m (txt ((⟨#[]⟩ : ByteArray).data.toList ++ utf8 ls)) = some (ls, true) := hK m (by omega)
      have hlen : ([39] : List UInt8).length = 1 := rfl
      have hw : wrap64 ((([39] : List UInt8).length + (esc (utf8 ls)).length : Nat) + 1 : Int) = (([39] : List UInt8).length + (esc (utf8 ls)).length + 1 : Nat) := wrap_nat rfl (by rw [hlen]; omega)
      show deckleref13_Read.j2 (m + 1) s _ _ false = _
      rw [deckleref13_Read.j2, if_neg (by simp), e1, Option.bind_some]
      dsimp only
      rw [if_pos rfl, hw, if_pos (by omega), if_pos (by rw [hlen]; omega), Int.toNat_natCast]
      have he : s.extract (([39] : List UInt8).length + (esc (utf8 ls)).length + 1) s.size = ⟨r.toArray⟩ := by
        apply ba_eq
        rw [ext_from, hs]
        have e2 : [39] ++ (esc (utf8 ls) ++ 39 :: r) = ([39] ++ esc (utf8 ls) ++ [39]) ++ r := by simp
        have e3 : ([39] : List UInt8).length + (esc (utf8 ls)).length + 1 = ([39] ++ esc (utf8 ls) ++ [39]).length := by simp; omega
        rw [e2, e3, List.drop_left]
      rw [he]
  | false =>
    refine ⟨_, quote_Read_no (by omega) hq, Nat.zero_le _, ?_⟩
    have hno : ∀ k, deckleref13_Read.j0 (k + 1) s true = some ([], ⟨#[]⟩, false) := fun k => by rw [deckleref13_Read.j0, if_pos rfl]
    cases hd : s.data.toList with
    | nil =>
      refine Ev.congr (f := fun k => deckleref13_Read.j0 k s true) (fun k => ?_) (Ev.step (f := fun _ => some ([], ⟨#[]⟩, false)) hno (Ev.now _))
      unfold deckleref13_Read.f
      rw [ByteArray.toList_eq, if_pos hd]
    | cons c t =>
      have hne : ¬ s.data.toList = [] := by rw [hd]; simp
      have hle : t.length + 1 = s.size := by rw [← hl, hd, List.length_cons]
      have hb : bt s 0 = (c.toNat : Int) := bt_app (p := []) (c := c) (t := t) hd
      by_cases hc : c = 39
      · subst hc
        have hb2 : bt s 0 = 39 := hb
        have hs : s.data.toList = [39] ++ t := hd
        have hgo : Ev (fun k => deckleref13_Read.l0 k s ⟨#[]⟩ 1) ([], ⟨#[]⟩, false) := by
          cases he : endsL t with
          | none => exact read13_none s hz _ [39] t ⟨#[]⟩ (Nat.le_refl _) hs he (Nat.zero_le _)
          | some e =>
            obtain ⟨a, r, h4, h5, h6⟩ := endsL_some _ t e (Nat.le_refl _) he
            rw [h4] at hs
            have hlt : (esc a).length + (r.length + 1) = t.length := by rw [h4, List.length_append, List.length_cons]
            have hau : a.length ≤ s.size := by
              have h7 := unq_len _ (esc a) (Nat.le_refl _)
              rw [unq_esc] at h7
              omega
            have hv : Lib.validD a = false := by
              cases hva : Lib.validD a with
              | false => rfl
              | true =>
                obtain ⟨ls, i1, i2⟩ := (valid_iff _).1 hva
                have h8 : s.data.toList = qText ls ++ r := by rw [hs, qText_esc i1, i2]; simp
                have h9 := (read_yes i1 h8 h6).1
                rw [hq] at h9
                cases h9
            refine read13_scan s r h6 hz _ a [39] ⟨#[]⟩ hs (Nat.zero_le _) ?_
            have htz : (txt ((⟨#[]⟩ : ByteArray).data.toList ++ a)).size = a.length := rfl
            obtain ⟨K, hK⟩ := signs_ev_no (s := txt ((⟨#[]⟩ : ByteArray).data.toList ++ a)) hv (by omega)
            refine ⟨K + 1, fun k hk => ?_⟩
            obtain ⟨m, rfl⟩ : ∃ m, k = m + 1 := ⟨k - 1, by omega⟩
            have e1 : deckleref07_Signs.f m (txt ((⟨#[]⟩ : ByteArray).data.toList ++ a)) = some ([], false) := hK m (by omega)
            show deckleref13_Read.j2 (m + 1) s _ _ false = _
            rw [deckleref13_Read.j2, if_neg (by simp), e1, Option.bind_some]
            dsimp only
            rw [if_neg (by simp)]
        obtain ⟨K, hK⟩ := hgo
        refine ⟨K + 1, fun k hk => ?_⟩
        obtain ⟨m, rfl⟩ : ∃ m, k = m + 1 := ⟨k - 1, by omega⟩
        have hm := hK m (by omega)
        show deckleref13_Read.f (m + 1) s = _
        unfold deckleref13_Read.f
        rw [ByteArray.toList_eq, if_neg hne, if_pos (by omega), hb2, deckleref13_Read.j0, if_neg (by decide)]
        exact hm
      · refine Ev.congr (f := fun k => deckleref13_Read.j0 k s true) (fun k => ?_) (Ev.step (f := fun _ => some ([], ⟨#[]⟩, false)) hno (Ev.now _))
        unfold deckleref13_Read.f
        have hbn : (bt s 0 != 39) = true := by rw [hb]; exact bne_iff_ne.2 (c39 hc)
        rw [ByteArray.toList_eq, if_neg hne, if_pos (by omega), hbn]
end Go.Proofs.YtmddkjmcbddhiaaDoor.P
end
