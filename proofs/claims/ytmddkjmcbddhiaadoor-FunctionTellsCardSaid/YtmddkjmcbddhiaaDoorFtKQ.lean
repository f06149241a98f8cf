/-
  What the printed functions of the reference 07 that read signs come to, in plain words. No memory in sight.
  What the printed functions that read the signs of a text, and tell right lines, come to, in plain words. No memory in sight.
  What the printed functions of the reference 16 come to, in plain words: the labels, right lines, the name, the text of lines, the lines of a text. No memory in sight.
-/
import Derived.Test.YtmddkjmcbddhiaaDoorP10KQ
import Derived.Test.YtmddkjmcbddhiaaDoorLw8KQ
import Derived.Test.YtmddkjmcbddhiaaDoorQdKQ
import Derived.Test.YtmddkjmcbddhiaaDoorRw8KQ
import Derived.Test.YtmddkjmcbddhiaaDoorSxKQ
import Derived.Test.YtmddkjmcbddhiaaDoorP31KQ
import Derived.Test.YtmddkjmcbddhiaaDoorFbKQ
import Derived.Test.YtmddkjmcbddhiaaDoorPcKQ
import Derived.Test.YtmddkjmcbddhiaaDoorTgKQ
import Derived.Test.YtmddkjmcbddhiaaDoorP33KQ
import Derived.Test.YtmddkjmcbddhiaaDoorP39KQ
import Derived.Test.YtmddkjmcbddhiaaDoorP40KQ
section
namespace Go.Proofs.YtmddkjmcbddhiaaDoor.P
open Go.RowKit Go.Proofs.YtmddkjmcbddhiaaDoorW.PrintWords Go.Proofs.YtmddkjmcbddhiaaDoor.Sp
set_option linter.unusedVariables false
set_option linter.unusedSimpArgs false

theorem wr {z : Int} (h1 : -9223372036854775808 ≤ z) (h2 : z ≤ 9223372036854775807) : wrap64 z = z := by
  unfold wrap64
  omega
theorem next_end (k : Nat) (s : ByteArray) (x w lo : Int) (i : Int) (h : ¬ i < w) : deckleref07_next.l0 (k + 1) s x w lo i = some (if x < lo ∨ x > 1114111 ∨ (55296 ≤ x ∧ x ≤ 57343) then (0, 0) else (x, w)) := by
  rw [deckleref07_next.l0, if_neg h]
  by_cases h1 : x < lo
  · rw [if_pos h1, if_pos (.inl h1)]
  · rw [if_neg h1]
    by_cases h2 : x > 1114111
    · rw [if_pos h2, if_pos (.inr (.inl h2))]
    · rw [if_neg h2]
      by_cases h3 : x ≥ 55296
      · rw [if_pos h3]
        by_cases h4 : x ≤ 57343
        · rw [if_pos h4, if_pos (.inr (.inr ⟨h3, h4⟩))]
        · rw [if_neg h4, if_neg (by omega)]
      · rw [if_neg h3, if_neg (by omega)]
theorem next_bad (k : Nat) (s : ByteArray) (x w lo : Int) (i : Nat) (h : (i : Int) < w) (hs : i < s.size) (hb : ¬ at8 s.data.toList i / 64 = 2) : deckleref07_next.l0 (k + 1) s x w lo (i : Int) = some (0, 0) := by
  have h1 := at8_lt s.data.toList i
  rw [deckleref07_next.l0, if_pos h, if_pos (by omega), if_pos (by omega), bt_at8]
  by_cases h2 : (at8 s.data.toList i : Int) < 128
  · rw [if_pos h2]
  · rw [if_neg h2, if_pos (by omega)]
theorem next_go (k : Nat) (s : ByteArray) (x w lo : Int) (i : Nat) (h : (i : Int) < w) (hw : w ≤ 4) (hs : i < s.size) (hx : 0 ≤ x ∧ x ≤ 4194304) (hb : at8 s.data.toList i / 64 = 2) :
    deckleref07_next.l0 (k + 1) s x w lo (i : Int) = deckleref07_next.l0 k s (64 * x + (at8 s.data.toList i : Int) - 128) w lo ((i + 1 : Nat) : Int) := by
  have h1 := at8_lt s.data.toList i
  rw [deckleref07_next.l0, if_pos h, if_pos (by omega), if_pos (by omega), bt_at8, if_neg (by omega), if_neg (by omega), wr (z := 64 * x) (by omega) (by omega), wr (z := (at8 s.data.toList i : Int)) (by omega) (by omega),
    wr (z := 64 * x + (at8 s.data.toList i : Int)) (by omega) (by omega), wr (by omega) (by omega), wr (z := (i : Int) + 1) (by omega) (by omega)]
  rfl
theorem next_end' {k : Nat} {s : ByteArray} {x w lo i v : Int} {c : Prop} [Decidable c] (h : ¬ i < w) (hv : x = v) (hc : c ↔ ¬ (x < lo ∨ x > 1114111 ∨ (55296 ≤ x ∧ x ≤ 57343))) : deckleref07_next.l0 (k + 1) s x w lo i = some (if c then (v, w) else (0, 0)) := by
  rw [next_end k s x w lo i h, hv] at *
  by_cases h1 : c
  · rw [if_pos h1, if_neg (hc.1 h1)]
  · rw [if_neg h1, if_pos (Classical.byContradiction fun hh => h1 (hc.2 hh))]
/-- The next sign, and its width; two zeros: there is none. -/
def nxI (l : List UInt8) : Int × Int := if (Lib.decodeL l).1 = 65533 ∧ (Lib.decodeL l).2 = 1 then (0, 0) else (((Lib.decodeL l).1 : Int), ((Lib.decodeL l).2 : Int))
theorem nxI_of {l : List UInt8} {c : Prop} [Decidable c] {v w : Nat} (hw : 2 ≤ w) (h : Lib.decodeL l = if c then (v, w) else (65533, 1)) : nxI l = if c then ((v : Int), (w : Int)) else (0, 0) := by
  unfold nxI
  rw [h]
  by_cases h1 : c
  · rw [if_pos h1, if_pos h1, if_neg (by rintro ⟨_, h2⟩; have h2 : w = 1 := h2; omega)]
  · rw [if_neg h1, if_neg h1, if_pos ⟨rfl, rfl⟩]
theorem next_two (s : ByteArray) (k : Nat) (h0 : 192 ≤ at8 s.data.toList 0) (h1 : at8 s.data.toList 0 < 224) : deckleref07_next.j2 (k + 7) s ((at8 s.data.toList 0 : Int) - 192) 2 128 = some (nxI s.data.toList) := by
  have hsz := length_data s
  have l1 := at8_lt s.data.toList 1
  have hd : Lib.decodeL s.data.toList = if (1 < s.size ∧ at8 s.data.toList 1 / 64 = 2) ∧ at8 s.data.toList 0 % 32 * 64 + at8 s.data.toList 1 % 64 ≥ 128 then (at8 s.data.toList 0 % 32 * 64 + at8 s.data.toList 1 % 64, 2) else (65533, 1) := by
    rw [Lib.decodeL_N]
    show Lib.decodeN s.data.toList.length (at8 s.data.toList 0) (at8 s.data.toList 1) (at8 s.data.toList 2) (at8 s.data.toList 3) = _
    unfold Lib.decodeN
    rw [if_neg (by omega), hsz]
    by_cases h : 1 < s.size ∧ at8 s.data.toList 1 / 64 = 2
    · rw [if_pos ⟨by omega, h⟩]
      by_cases h3 : at8 s.data.toList 0 % 32 * 64 + at8 s.data.toList 1 % 64 ≥ 128
      · rw [if_pos h3, if_pos ⟨h, h3⟩]
      · rw [if_neg h3, if_neg (fun hh => h3 hh.2)]
    · rw [if_neg (fun hh => h hh.2), if_neg (by omega), if_neg (by omega), if_neg (fun hh => h hh.1)]
  rw [nxI_of (by omega) hd, deckleref07_next.j2]
  by_cases hz : (s.size : Int) < 2
  · rw [if_pos hz, if_neg (by omega)]
  · rw [if_neg hz]
    by_cases hb : at8 s.data.toList 1 / 64 = 2
    · refine (next_go (k + 5) s _ 2 128 1 (by omega) (by omega) (by omega) (by omega) hb).trans ?_
      exact next_end' (by omega) (by omega) (by omega)
    · refine (next_bad (k + 5) s _ 2 128 1 (by omega) (by omega) hb).trans ?_
      rw [if_neg (fun h => hb h.1.2)]
theorem next_three (s : ByteArray) (k : Nat) (h0 : 224 ≤ at8 s.data.toList 0) (h1 : at8 s.data.toList 0 < 240) : deckleref07_next.j2 (k + 7) s ((at8 s.data.toList 0 : Int) - 224) 3 2048 = some (nxI s.data.toList) := by
  have hsz := length_data s
  have l1 := at8_lt s.data.toList 1
  have l2 := at8_lt s.data.toList 2
  have hd : Lib.decodeL s.data.toList = if ((1 < s.size ∧ at8 s.data.toList 1 / 64 = 2) ∧ (2 < s.size ∧ at8 s.data.toList 2 / 64 = 2)) ∧ (at8 s.data.toList 0 % 16 * 4096 + at8 s.data.toList 1 % 64 * 64 + at8 s.data.toList 2 % 64 ≥ 2048 ∧ (at8 s.data.toList 0 % 16 * 4096 + at8 s.data.toList 1 % 64 * 64 + at8 s.data.toList 2 % 64 < 55296 ∨ (57344 ≤ at8 s.data.toList 0 % 16 * 4096 + at8 s.data.toList 1 % 64 * 64 + at8 s.data.toList 2 % 64 ∧ at8 s.data.toList 0 % 16 * 4096 + at8 s.data.toList 1 % 64 * 64 + at8 s.data.toList 2 % 64 ≤ 1114111))) then (at8 s.data.toList 0 % 16 * 4096 + at8 s.data.toList 1 % 64 * 64 + at8 s.data.toList 2 % 64, 3) else (65533, 1) := by
    rw [Lib.decodeL_N]
    show Lib.decodeN s.data.toList.length (at8 s.data.toList 0) (at8 s.data.toList 1) (at8 s.data.toList 2) (at8 s.data.toList 3) = _
    unfold Lib.decodeN
    rw [if_neg (by omega), hsz, if_neg (by omega)]
    by_cases h : (1 < s.size ∧ at8 s.data.toList 1 / 64 = 2) ∧ (2 < s.size ∧ at8 s.data.toList 2 / 64 = 2)
    · rw [if_pos ⟨by omega, h⟩]
      split
      · rename_i h3; rw [if_pos ⟨h, h3⟩]
      · rename_i h3; rw [if_neg (fun hh => h3 hh.2)]
    · rw [if_neg (fun hh => h hh.2), if_neg (by omega), if_neg (fun hh => h hh.1)]
  rw [nxI_of (by omega) hd, deckleref07_next.j2]
  clear hd
  by_cases hz : (s.size : Int) < 3
  · rw [if_pos hz, if_neg (by omega)]
  · rw [if_neg hz]
    by_cases hb : at8 s.data.toList 1 / 64 = 2
    · refine (next_go (k + 5) s _ 3 2048 1 (by omega) (by omega) (by omega) (by omega) hb).trans ?_
      by_cases hb2 : at8 s.data.toList 2 / 64 = 2
      · refine (next_go (k + 4) s _ 3 2048 2 (by omega) (by omega) (by omega) (by omega) hb2).trans ?_
        exact next_end' (by omega) (by omega) (by omega)
      · refine (next_bad (k + 4) s _ 3 2048 2 (by omega) (by omega) hb2).trans ?_
        rw [if_neg (fun h => hb2 h.1.2.2)]
    · refine (next_bad (k + 5) s _ 3 2048 1 (by omega) (by omega) hb).trans ?_
      rw [if_neg (fun h => hb h.1.1.2)]
theorem next_four (s : ByteArray) (k : Nat) (h0 : 240 ≤ at8 s.data.toList 0) (h1 : at8 s.data.toList 0 < 248) : deckleref07_next.j2 (k + 7) s ((at8 s.data.toList 0 : Int) - 240) 4 65536 = some (nxI s.data.toList) := by
  have hsz := length_data s
  have l1 := at8_lt s.data.toList 1
  have l2 := at8_lt s.data.toList 2
  have l3 := at8_lt s.data.toList 3
  have hd : Lib.decodeL s.data.toList = if ((1 < s.size ∧ at8 s.data.toList 1 / 64 = 2) ∧ (2 < s.size ∧ at8 s.data.toList 2 / 64 = 2) ∧ (3 < s.size ∧ at8 s.data.toList 3 / 64 = 2)) ∧ (at8 s.data.toList 0 % 8 * 262144 + at8 s.data.toList 1 % 64 * 4096 + at8 s.data.toList 2 % 64 * 64 + at8 s.data.toList 3 % 64 ≥ 65536 ∧ (at8 s.data.toList 0 % 8 * 262144 + at8 s.data.toList 1 % 64 * 4096 + at8 s.data.toList 2 % 64 * 64 + at8 s.data.toList 3 % 64 < 55296 ∨ (57344 ≤ at8 s.data.toList 0 % 8 * 262144 + at8 s.data.toList 1 % 64 * 4096 + at8 s.data.toList 2 % 64 * 64 + at8 s.data.toList 3 % 64 ∧ at8 s.data.toList 0 % 8 * 262144 + at8 s.data.toList 1 % 64 * 4096 + at8 s.data.toList 2 % 64 * 64 + at8 s.data.toList 3 % 64 ≤ 1114111))) then (at8 s.data.toList 0 % 8 * 262144 + at8 s.data.toList 1 % 64 * 4096 + at8 s.data.toList 2 % 64 * 64 + at8 s.data.toList 3 % 64, 4) else (65533, 1) := by
    rw [Lib.decodeL_N]
    show Lib.decodeN s.data.toList.length (at8 s.data.toList 0) (at8 s.data.toList 1) (at8 s.data.toList 2) (at8 s.data.toList 3) = _
    unfold Lib.decodeN
    rw [if_neg (by omega), hsz, if_neg (by omega), if_neg (by omega)]
    by_cases h : (1 < s.size ∧ at8 s.data.toList 1 / 64 = 2) ∧ (2 < s.size ∧ at8 s.data.toList 2 / 64 = 2) ∧ (3 < s.size ∧ at8 s.data.toList 3 / 64 = 2)
    · rw [if_pos ⟨by omega, h⟩]
      split
      · rename_i h3; rw [if_pos ⟨h, h3⟩]
      · rename_i h3; rw [if_neg (fun hh => h3 hh.2)]
    · rw [if_neg (fun hh => h hh.2), if_neg (fun hh => h hh.1)]
  rw [nxI_of (by omega) hd, deckleref07_next.j2]
  clear hd
  by_cases hz : (s.size : Int) < 4
  · rw [if_pos hz, if_neg (by omega)]
  · rw [if_neg hz]
    by_cases hb : at8 s.data.toList 1 / 64 = 2
    · refine (next_go (k + 5) s _ 4 65536 1 (by omega) (by omega) (by omega) (by omega) hb).trans ?_
      by_cases hb2 : at8 s.data.toList 2 / 64 = 2
      · refine (next_go (k + 4) s _ 4 65536 2 (by omega) (by omega) (by omega) (by omega) hb2).trans ?_
        by_cases hb3 : at8 s.data.toList 3 / 64 = 2
        · refine (next_go (k + 3) s _ 4 65536 3 (by omega) (by omega) (by omega) (by omega) hb3).trans ?_
          exact next_end' (by omega) (by omega) (by omega)
        · refine (next_bad (k + 3) s _ 4 65536 3 (by omega) (by omega) hb3).trans ?_
          rw [if_neg (fun h => hb3 h.1.2.2.2)]
      · refine (next_bad (k + 4) s _ 4 65536 2 (by omega) (by omega) hb2).trans ?_
        rw [if_neg (fun h => hb2 h.1.2.1.2)]
    · refine (next_bad (k + 5) s _ 4 65536 1 (by omega) (by omega) hb).trans ?_
      rw [if_neg (fun h => hb h.1.1.2)]
theorem nxI_none {l : List UInt8} (h : Lib.decodeL l = (65533, 1)) : nxI l = (0, 0) := by
  unfold nxI
  rw [h, if_pos ⟨rfl, rfl⟩]
theorem next_f (s : ByteArray) (k : Nat) (hs : 0 < s.size) : deckleref07_next.f (k + 9) s = some (nxI s.data.toList) := by
  have l0 := at8_lt s.data.toList 0
  unfold deckleref07_next.f
  rw [if_pos (by omega), bt_zero, wr (by omega) (by omega)]
  by_cases h1 : (at8 s.data.toList 0 : Int) < 128
  · rw [if_pos h1]
    have hd : Lib.decodeL s.data.toList = (at8 s.data.toList 0, 1) := by
      rw [Lib.decodeL_N]
      show Lib.decodeN s.data.toList.length (at8 s.data.toList 0) (at8 s.data.toList 1) (at8 s.data.toList 2) (at8 s.data.toList 3) = _
      unfold Lib.decodeN
      rw [if_pos (by omega)]
    unfold nxI
    rw [hd, if_neg (by rintro ⟨h2, _⟩; have h2 : at8 s.data.toList 0 = 65533 := h2; omega)]
    rfl
  · rw [if_neg h1]
    have hbad : at8 s.data.toList 0 < 192 ∨ 248 ≤ at8 s.data.toList 0 → nxI s.data.toList = (0, 0) := by
      intro h
      refine nxI_none ?_
      rw [Lib.decodeL_N]
      show Lib.decodeN s.data.toList.length (at8 s.data.toList 0) (at8 s.data.toList 1) (at8 s.data.toList 2) (at8 s.data.toList 3) = _
      unfold Lib.decodeN
      rw [if_neg (by omega), if_neg (by omega), if_neg (by omega), if_neg (by omega)]
    by_cases h2 : (at8 s.data.toList 0 : Int) ≥ 192
    · rw [if_pos h2]
      by_cases h3 : (at8 s.data.toList 0 : Int) < 224
      · rw [decide_eq_true h3, deckleref07_next.j0, if_pos rfl, wr (by omega) (by omega)]
        exact next_two s (k + 1) (by omega) (by omega)
      · rw [decide_eq_false h3, deckleref07_next.j0, if_neg (by simp), if_pos (by omega)]
        by_cases h4 : (at8 s.data.toList 0 : Int) < 240
        · rw [decide_eq_true h4, deckleref07_next.j1, if_pos rfl, wr (by omega) (by omega)]
          exact next_three s k (by omega) (by omega)
        · rw [decide_eq_false h4, deckleref07_next.j1, if_neg (by simp), if_pos (by omega)]
          by_cases h5 : (at8 s.data.toList 0 : Int) < 248
          · rw [if_pos h5, wr (by omega) (by omega)]
            exact next_four s k (by omega) (by omega)
          · rw [if_neg h5, hbad (by omega)]
    · rw [if_neg h2, deckleref07_next.j0, if_neg (by simp), if_neg (by omega), deckleref07_next.j1, if_neg (by simp), if_neg (by omega), hbad (by omega)]
theorem next_ev (s : ByteArray) (hs : 0 < s.size) : Ev (fun k => deckleref07_next.f k s) (nxI s.data.toList) :=
  ⟨9, fun k hk => by obtain ⟨m, rfl⟩ : ∃ m, k = m + 9 := ⟨k - 9, by omega⟩; exact next_f s m hs⟩
end Go.Proofs.YtmddkjmcbddhiaaDoor.P
end
section
namespace Go.Proofs.YtmddkjmcbddhiaaDoor.P
open Go.RowKit Go.Proofs.YtmddkjmcbddhiaaDoorW.PrintWords Go.Proofs.YtmddkjmcbddhiaaDoor.Sp
set_option linter.unusedVariables false
set_option linter.unusedSimpArgs false

theorem ext_drop_data (s : ByteArray) (n : Nat) : (s.extract n s.size).data.toList = s.data.toList.drop n := by
  rw [← ByteArray.toList_eq]
  exact ext_drop s n
theorem nxI_sign {x : Int} (h : signB x = true) (t : List UInt8) : nxI (Lib.encodeRune x ++ t) = (x, ((Lib.encodeRune x).length : Int)) := by
  unfold nxI
  rw [if_neg (dec_ok h t), dec_enc h]
  have := ((signB_iff x).1 h).1
  dsimp only
  rw [Int.toNat_of_nonneg this]
theorem signs_yes : ∀ (ls : List Int) (s : ByteArray) (acc : List Int), ls.all signB = true → s.data.toList = utf8 ls → acc.length + s.size ≤ 17592186044415 →
    Ev (fun k => deckleref07_Signs.l0 k s acc) (acc ++ ls, true)
  | [], s, acc, _, hs, _ => by
    refine Ev.step (f := fun _ => some (acc ++ [], true)) (fun k => ?_) (Ev.now _)
    rw [deckleref07_Signs.l0, ByteArray.toList_eq, if_pos (show s.data.toList = [] from hs), List.append_nil]
  | x :: t, s, acc, h, hs, hl => by
    rw [List.all_cons, Bool.and_eq_true] at h
    have h1 := congrArg List.length hs
    rw [length_data, utf8_cons, List.length_append] at h1
    have h2 := enc_pos x
    have hne : ¬ s.data.toList = [] := by
      rw [hs, utf8_cons]
      exact enc_ne x _
    obtain ⟨K1, e1⟩ := next_ev s (by omega)
    have hx : nxI s.data.toList = (x, ((Lib.encodeRune x).length : Int)) := by rw [hs, utf8_cons]; exact nxI_sign h.1 _
    have hd : (s.extract (Lib.encodeRune x).length s.size).data.toList = utf8 t := by rw [ext_drop_data, hs, utf8_cons, List.drop_left]
    have hz := congrArg List.length hd
    rw [length_data] at hz
    obtain ⟨K2, e2⟩ := signs_yes t (s.extract (Lib.encodeRune x).length s.size) (acc ++ [x]) h.2 hd (by rw [List.length_append, List.length_singleton]; omega)
    refine ⟨K1 + K2 + 1, fun k hk => ?_⟩
    obtain ⟨m, rfl⟩ : ∃ m, k = m + 1 := ⟨k - 1, by omega⟩
    have e3 : deckleref07_next.f m s = some (nxI s.data.toList) := e1 m (by omega)
    have e4 : deckleref07_Signs.l0 m (s.extract (Lib.encodeRune x).length s.size) (acc ++ [x]) = some ((acc ++ [x]) ++ t, true) := e2 m (by omega)
    show deckleref07_Signs.l0 (m + 1) s acc = _
    rw [deckleref07_Signs.l0, ByteArray.toList_eq, if_neg hne, e3, hx, Option.bind_some]
    dsimp only
    rw [if_neg (by omega), if_pos (by omega), if_pos (by omega), if_pos (by omega), Int.toNat_natCast, e4, List.append_assoc, List.singleton_append]
theorem decodeL_le {l : List UInt8} (h : l ≠ []) : (Lib.decodeL l).2 ≤ l.length := by
  have hp := List.length_pos_iff.2 h
  rw [Lib.decodeL_N]
  rcases Lib.decodeN_shape l.length (l.getD 0 0).toNat (l.getD 1 0).toNat (l.getD 2 0).toNat (l.getD 3 0).toNat with ⟨_, e⟩ | ⟨_, _, _, _, e⟩ | ⟨_, _, _, _, _, _, e⟩ | ⟨_, _, _, _, _, _, _, e⟩ | e
  all_goals rw [e]; dsimp only; omega
theorem signs_no : ∀ (n : Nat) (s : ByteArray) (acc : List Int), Lib.validGoD n s.data.toList = false → acc.length + s.size ≤ 17592186044415 →
    Ev (fun k => deckleref07_Signs.l0 k s acc) ([], false)
  | 0, s, acc, h, _ => by simp [Lib.validGoD] at h
  | n + 1, s, acc, h, hl => by
    rw [Lib.validGoD] at h
    split at h
    · cases h
    · rename_i hne
      have hz := length_data s
      have hp := List.length_pos_iff.2 hne
      obtain ⟨K1, e1⟩ := next_ev s (by omega)
      split at h
      · rename_i hd
        refine ⟨K1 + 1, fun k hk => ?_⟩
        obtain ⟨m, rfl⟩ : ∃ m, k = m + 1 := ⟨k - 1, by omega⟩
        have e3 : deckleref07_next.f m s = some (nxI s.data.toList) := e1 m (by omega)
        have hx : nxI s.data.toList = (0, 0) := by unfold nxI; rw [if_pos hd]
        show deckleref07_Signs.l0 (m + 1) s acc = _
        rw [deckleref07_Signs.l0, ByteArray.toList_eq, if_neg hne, e3, hx, Option.bind_some]
        dsimp only
        rw [if_pos rfl]
      · rename_i hd
        have hw := Lib.decodeL_width s.data.toList
        have hw2 := decodeL_le hne
        obtain ⟨w, hwe⟩ : ∃ w, w = (Lib.decodeL s.data.toList).2 := ⟨_, rfl⟩
        obtain ⟨v, hve⟩ : ∃ v, v = (Lib.decodeL s.data.toList).1 := ⟨_, rfl⟩
        have hx : nxI s.data.toList = ((v : Int), (w : Int)) := by unfold nxI; rw [if_neg hd, hve, hwe]
        rw [← hwe] at h hw hw2
        have hdd := ext_drop_data s w
        have hzz := congrArg List.length hdd
        rw [length_data, List.length_drop] at hzz
        obtain ⟨K2, e2⟩ := signs_no n (s.extract w s.size) (acc ++ [(v : Int)]) (by rw [hdd]; exact h) (by rw [List.length_append, List.length_singleton]; omega)
        refine ⟨K1 + K2 + 1, fun k hk => ?_⟩
        obtain ⟨m, rfl⟩ : ∃ m, k = m + 1 := ⟨k - 1, by omega⟩
        have e3 : deckleref07_next.f m s = some (nxI s.data.toList) := e1 m (by omega)
        have e4 : deckleref07_Signs.l0 m (s.extract w s.size) (acc ++ [(v : Int)]) = some ([], false) := e2 m (by omega)
        show deckleref07_Signs.l0 (m + 1) s acc = _
        rw [deckleref07_Signs.l0, ByteArray.toList_eq, if_neg hne, e3, hx, Option.bind_some]
        dsimp only
        rw [if_neg (by omega), if_pos (by omega), if_pos (by omega), if_pos (by omega), Int.toNat_natCast, e4]
theorem signs_ev_yes {s : ByteArray} {ls : List Int} (h : ls.all signB = true) (hs : s.data.toList = utf8 ls) (hl : s.size ≤ 17592186044415) : Ev (fun k => deckleref07_Signs.f k s) (ls, true) := by
  have := signs_yes ls s [] h hs (by simp only [List.length_nil]; omega)
  exact this
theorem signs_ev_no {s : ByteArray} (h : Lib.validD s.data.toList = false) (hl : s.size ≤ 17592186044415) : Ev (fun k => deckleref07_Signs.f k s) ([], false) :=
  signs_no _ s [] h (by simp only [List.length_nil]; omega)
theorem line16_loop (ls : List Int) (hl : ls.length ≤ 1000) (n : Nat) : ∀ i : Nat, ls.length ≤ i + n → Ev (fun k => deckleref16_Line.l0 k ls (i : Int)) ((ls.drop i).all fun c => !oddR c) := by
  have stop : ∀ i : Nat, ls.length ≤ i → Ev (fun k => deckleref16_Line.l0 k ls (i : Int)) ((ls.drop i).all fun c => !oddR c) := by
    intro i hi
    rw [List.drop_eq_nil_of_le hi]
    exact Ev.step (f := fun _ => some true) (fun k => by rw [deckleref16_Line.l0, if_neg (by omega)]) (Ev.now _)
  induction n with
  | zero => intro i hi; exact stop i (by omega)
  | succ n ih =>
    intro i hi
    by_cases hlt : i < ls.length
    · have hd : ls.drop i = ls[i] :: ls.drop (i + 1) := List.drop_eq_getElem_cons hlt
      rw [hd, List.all_cons]
      have hst : ∀ k, deckleref16_Line.l0 (k + 1) ls (i : Int) = if oddR ls[i] = true then some false else deckleref16_Line.l0 k ls ((i + 1 : Nat) : Int) := by
        intro k
        rw [deckleref16_Line.l0, if_pos (by omega), if_pos (by omega), rd_get ls i hlt, wrap_nat rfl (by omega)]
        unfold oddR
        by_cases h1 : ls[i] < 32
        · rw [if_pos h1, decide_eq_true h1, Bool.true_or, if_pos rfl]
        · rw [if_neg h1, decide_eq_false h1, Bool.false_or]
          by_cases h2 : ls[i] ≥ 127
          · rw [if_pos h2, decide_eq_true (p := 127 ≤ ls[i]) h2, Bool.true_and]
            by_cases h3 : ls[i] ≤ 159
            · rw [if_pos h3, decide_eq_true h3, if_pos rfl]
            · rw [if_neg h3, decide_eq_false h3, if_neg (by simp)]
          · rw [if_neg h2, decide_eq_false (p := 127 ≤ ls[i]) h2, Bool.false_and, if_neg (by simp)]
      cases ho : oddR ls[i] with
      | true =>
        refine Ev.step (f := fun _ => some false) (fun k => ?_) (Ev.now _)
        rw [hst, ho, if_pos rfl]
      | false =>
        refine Ev.step (fun k => ?_) (ih (i + 1) (by omega))
        rw [hst, ho, if_neg (by simp)]
    · exact stop i (by omega)
theorem line16_ev (s : ByteArray) (hl : s.size ≤ 17592186044415) : Ev (fun k => deckleref16_Line.f k s) (lineB s) := by
  cases hv : Lib.validD s.data.toList with
  | false =>
    obtain ⟨K, e⟩ := signs_ev_no hv hl
    have hb : lineB s = false := by unfold lineB; rw [hv, Bool.false_and]
    refine ⟨K + 1, fun k hk => ?_⟩
    obtain ⟨m, rfl⟩ : ∃ m, k = m + 1 := ⟨k - 1, by omega⟩
    have e1 : deckleref07_Signs.f (m + 1) s = some ([], false) := e _ (by omega)
    show deckleref16_Line.f (m + 1) s = _
    unfold deckleref16_Line.f
    rw [e1, Option.bind_some, if_neg (by simp), deckleref16_Line.j0, if_pos rfl, hb]
  | true =>
    obtain ⟨ls, h1, h2⟩ := (valid_iff _).1 hv
    obtain ⟨K, e⟩ := signs_ev_yes h1 h2 hl
    rw [lineB_utf8 h1 h2]
    by_cases h3 : ls.length ≤ 1000
    · obtain ⟨K2, e2⟩ := line16_loop ls h3 _ 0 (Nat.le_add_left _ _)
      refine ⟨K + K2 + 1, fun k hk => ?_⟩
      obtain ⟨m, rfl⟩ : ∃ m, k = m + 1 := ⟨k - 1, by omega⟩
      have e1 : deckleref07_Signs.f (m + 1) s = some (ls, true) := e _ (by omega)
      have e3 : deckleref16_Line.l0 m ls 0 = some (ls.all fun c => !oddR c) := e2 m (by omega)
      show deckleref16_Line.f (m + 1) s = _
      unfold deckleref16_Line.f
      rw [e1, Option.bind_some, if_pos rfl, decide_eq_false (by dsimp only; omega), deckleref16_Line.j0, if_neg (by simp), decide_eq_true h3, Bool.true_and]
      exact e3
    · refine ⟨K + 1, fun k hk => ?_⟩
      obtain ⟨m, rfl⟩ : ∃ m, k = m + 1 := ⟨k - 1, by omega⟩
      have e1 : deckleref07_Signs.f (m + 1) s = some (ls, true) := e _ (by omega)
      show deckleref16_Line.f (m + 1) s = _
      unfold deckleref16_Line.f
      rw [e1, Option.bind_some, if_pos rfl, decide_eq_true (by dsimp only; omega), deckleref16_Line.j0, if_pos rfl, decide_eq_false h3, Bool.false_and]
end Go.Proofs.YtmddkjmcbddhiaaDoor.P
end
section
namespace Go.Proofs.YtmddkjmcbddhiaaDoor.P
open Go.RowKit Go.Proofs.YtmddkjmcbddhiaaDoorW.PrintWords Go.Proofs.YtmddkjmcbddhiaaDoor.Sp
set_option linter.unusedVariables false
set_option linter.unusedSimpArgs false

theorem guess_ok16 {s : ByteArray} (R : Raw) (h1 : R.ok = true) (h2 : s.data.toList = R.text) : (guessP s).ok = true ∧ (guessP s).text = s.data.toList := by
  rw [guess_text h1 h2]
  exact ⟨h1, h2.symm⟩
theorem parse15_ev (s : ByteArray) (hs : s.size ≤ 549755813888) : Ev (fun k => deckleref15_Parse.f k s) (if reads s = true then ((st0 s).a, (st0 s).b, (st0 s).c, (st0 s).d, (st0 s).e, (st0 s).f, (st0 s).ls, true) else (nilS, nilS, nilS, nilS, nilS, nilS, [], false)) := by
  have hg : deckleref15_guess.f s = some ((guessP s).a, (guessP s).b, (guessP s).c, (guessP s).d, (guessP s).e, (guessP s).f, (guessP s).ls) := by
    unfold deckleref15_guess.f
    rw [if_pos (by omega)]
  have hgz : HSized (guessP s).a (guessP s).b (guessP s).c (guessP s).d (guessP s).e (guessP s).f (guessP s).ls := guess_sized s hs
  obtain ⟨gt, ⟨K, k1⟩, k2⟩ := ref_HText _ _ _ _ _ _ _ hgz
  refine ⟨K, fun k hk => ?_⟩
  have e7 : deckleref15_Text.f k (guessP s).a (guessP s).b (guessP s).c (guessP s).d (guessP s).e (guessP s).f (guessP s).ls = some gt := k1 k hk
  show deckleref15_Parse.f k s = _
  unfold deckleref15_Parse.f
  rw [hg]
  simp only [Option.bind_some, e7, ByteArray.toList_eq]
  by_cases hn : s.data.toList = []
  · have hr : reads s = false := by
      cases h : reads s with
      | false => rfl
      | true => exact absurd hn (reads_iff.1 h).2.1
    rw [if_pos hn, hr]
    rfl
  · rw [if_neg hn]
    have k3 : gt.data.toList = if (guessP s).ok = true then (guessP s).text else [] := k2
    by_cases ht : gt.data.toList = s.data.toList
    · rw [if_pos ht]
      rw [ht] at k3
      cases hok : (guessP s).ok with
      | false => rw [hok] at k3; exact absurd k3 hn
      | true =>
        rw [hok, if_pos rfl] at k3
        have r1 := st0_text hok k3
        have r2 := reads_text hok k3
        rw [r2, if_pos rfl, r1]
    · rw [if_neg ht]
      have hr : reads s = false := by
        cases h : reads s with
        | false => rfl
        | true =>
          obtain ⟨q1, q2, q3, q4⟩ := reads_iff.1 h
          obtain ⟨r3, r4⟩ := guess_ok16 (st0 s) q3 q4.symm
          rw [r3, if_pos rfl, r4] at k3
          exact absurd k3 ht
      rw [hr]
      rfl
theorem labels16_loop (l : List ByteArray) (hl : l.length ≤ 1000) (hs : ∀ x ∈ l, x.size ≤ 1099511627776) (n : Nat) : ∀ (i : Nat) (acc : List ByteArray), l.length ≤ i + n → acc.length ≤ i →
    Ev (fun k => deckleref16_Labels.l0 k l acc (i : Int)) (acc ++ (l.drop i).filterMap labelOf) := by
  have stop : ∀ (i : Nat) (acc : List ByteArray), l.length ≤ i → Ev (fun k => deckleref16_Labels.l0 k l acc (i : Int)) (acc ++ (l.drop i).filterMap labelOf) := by
    intro i acc hi
    rw [List.drop_eq_nil_of_le hi, List.filterMap_nil, List.append_nil]
    exact Ev.step (f := fun _ => some acc) (fun k => by rw [deckleref16_Labels.l0, if_neg (by omega)]) (Ev.now _)
  induction n with
  | zero => intro i acc hi _; exact stop i acc (by omega)
  | succ n ih =>
    intro i acc hi ha
    by_cases hlt : i < l.length
    · have hd := drop_cons l i hlt
      have hsz := hs _ (List.getElem_mem hlt)
      have hf : (l.drop i).filterMap labelOf = (match labelOf l[i] with | some x => [x] | none => []) ++ (l.drop (i + 1)).filterMap labelOf := by
        rw [hd, List.filterMap_cons]
        cases labelOf l[i] <;> rfl
      have htk : deckleref08_Take.f l[i] = some (wordA l[i], wordB l[i]) := by
        unfold deckleref08_Take.f
        rw [if_pos (by omega)]
        rfl
      have hw : wrap64 ((i : Int) + 1) = ((i + 1 : Nat) : Int) := wrap_nat rfl (by omega)
      have hlb : labelOf l[i] = if (wordA l[i]).data.toList ≠ [] ∧ [58] <+: (wordB l[i]).data.toList then some (wordA l[i]) else none := rfl
      rw [hf]
      have hst : ∀ k, deckleref16_Labels.l0 (k + 1) l acc (i : Int) = deckleref16_Labels.l0 k l (acc ++ (match labelOf l[i] with | some x => [x] | none => [])) ((i + 1 : Nat) : Int) := by
        intro k
        rw [deckleref16_Labels.l0, if_pos (by omega), if_pos (by omega), rdOf_at l i hlt, htk, Option.bind_some, hw]
        dsimp only
        rw [ByteArray.toList_eq, ByteArray.toList_eq, hlb]
        by_cases hz : (wordA l[i]).data.toList = []
        · rw [if_pos hz, if_neg (fun h => h.1 hz), List.append_nil]
        · rw [if_neg hz]
          cases hb : (wordB l[i]).data.toList with
          | nil =>
            have hnp : ¬ ([58] : List UInt8) <+: [] := by simp
            rw [if_pos rfl, if_neg (fun h => hnp h.2), List.append_nil]
          | cons c t =>
            have hsb := length_data (wordB l[i])
            rw [hb, List.length_cons] at hsb
            have hbt : bt (wordB l[i]) 0 = (c.toNat : Int) := by
              rw [bt_zero, hb]
              rfl
            rw [if_neg (by simp), if_pos (by omega), hbt]
            have hpre : ([58] : List UInt8) <+: c :: t ↔ c = 58 := by
              constructor
              · rintro ⟨u, hu⟩; simp at hu; exact hu.1.symm
              · intro h; rw [h]; exact ⟨t, rfl⟩
            by_cases hc : c = 58
            · rw [if_pos (by rw [hc]; rfl), if_pos (by omega), if_pos ⟨hz, hpre.2 hc⟩]
            · have hcn : ¬ (c.toNat : Int) = 58 := by
                intro h
                refine hc (UInt8.toNat_inj.1 ?_)
                have e : (58 : UInt8).toNat = 58 := rfl
                omega
              rw [if_neg hcn, if_neg (fun h => hc (hpre.1 h.2)), List.append_nil]
      rw [← List.append_assoc]
      refine Ev.step hst (ih (i + 1) _ (by omega) ?_)
      rw [List.length_append]
      cases labelOf l[i] <;> simp <;> omega
    · exact stop i acc (by omega)
theorem labels16_ev (l : List ByteArray) (hl : l.length ≤ 1000) (hs : ∀ x ∈ l, x.size ≤ 1099511627776) : Ev (fun k => deckleref16_Labels.f k l) (labs l) := by
  have h := labels16_loop l hl hs l.length 1 [] (by omega) (Nat.zero_le _)
  have e : ([] : List ByteArray) ++ (l.drop 1).filterMap labelOf = labs l := by unfold labs; rw [List.nil_append, List.drop_one]
  rw [e] at h
  exact h
theorem right16_l1 (y lab : List ByteArray) (hl : lab.length ≤ 1000) (hy : y.length ≤ 1099511627776) (hs : ∀ x ∈ lab, x.size ≤ 1099511627776) (n : Nat) : ∀ i : Nat, lab.length ≤ i + n →
    Ev (fun k => deckleref16_Right.l1 k y lab (i : Int)) ((bys (lab.drop i)).all isName && unl (bys (y ++ lab))) := by
  have hstop : ∀ i : Nat, lab.length ≤ i → Ev (fun k => deckleref16_Right.l1 k y lab (i : Int)) ((bys (lab.drop i)).all isName && unl (bys (y ++ lab))) := by
    intro i hi
    obtain ⟨K, e⟩ := ref_Unlike (y ++ lab) (by rw [List.length_append]; omega)
    rw [List.drop_eq_nil_of_le hi]
    refine ⟨K + 1, fun k hk => ?_⟩
    obtain ⟨m, rfl⟩ : ∃ m, k = m + 1 := ⟨k - 1, by omega⟩
    have e1 : deckleref08_Unlike.f m (y ++ lab) = some (unl (bys (y ++ lab))) := e m (by omega)
    show deckleref16_Right.l1 (m + 1) y lab (i : Int) = _
    rw [deckleref16_Right.l1, if_neg (by omega), if_pos (by omega), e1]
    rfl
  induction n with
  | zero => intro i hi; exact hstop i (by omega)
  | succ n ih =>
    intro i hi
    by_cases hlt : i < lab.length
    · have hsz := hs _ (List.getElem_mem hlt)
      have hb : (bys (lab.drop i)).all isName = (isName lab[i].data.toList && (bys (lab.drop (i + 1))).all isName) := by rw [drop_cons lab i hlt]; rfl
      rw [hb]
      obtain ⟨K1, e1⟩ := ref_Right lab[i] (by omega)
      obtain ⟨K2, e2⟩ := ih (i + 1) (by omega)
      refine ⟨K1 + K2 + 1, fun k hk => ?_⟩
      obtain ⟨m, rfl⟩ : ∃ m, k = m + 1 := ⟨k - 1, by omega⟩
      have e3 : deckleref08_Right.f m lab[i] = some (isName lab[i].data.toList) := e1 m (by omega)
      have e4 : deckleref16_Right.l1 m y lab ((i + 1 : Nat) : Int) = some ((bys (lab.drop (i + 1))).all isName && unl (bys (y ++ lab))) := e2 m (by omega)
      show deckleref16_Right.l1 (m + 1) y lab (i : Int) = _
      rw [deckleref16_Right.l1, if_pos (by omega), if_pos (by omega), rdOf_at lab i hlt, e3, Option.bind_some, wrap_nat rfl (by omega)]
      cases isName lab[i].data.toList with
      | true => rw [if_pos rfl, e4, Bool.true_and]
      | false => rw [if_neg (by simp), Bool.false_and, Bool.false_and]
    · exact hstop i (by omega)
theorem right16_l0 (l : List ByteArray) (h1 : 1 ≤ l.length) (hl : l.length ≤ 1000) (hs : ∀ x ∈ l, x.size ≤ 549755813888) (n : Nat) : ∀ i : Nat, l.length ≤ i + n →
    Ev (fun k => deckleref16_Right.l0 k l (i : Int)) ((l.drop i).all lineB && (reads (headOf l) && ((bys (labs l)).all isName && unl ((st0 (headOf l)).names ++ bys (labs l))))) := by
  have hs2 : ∀ x ∈ l, x.size ≤ 1099511627776 := fun x hx => by have := hs x hx; omega
  have hstop : ∀ i : Nat, l.length ≤ i → Ev (fun k => deckleref16_Right.l0 k l (i : Int)) ((l.drop i).all lineB && (reads (headOf l) && ((bys (labs l)).all isName && unl ((st0 (headOf l)).names ++ bys (labs l))))) := by
    intro i hi
    have hh : (headOf l).size ≤ 549755813888 := by
      cases l with
      | nil => simp at h1
      | cons x t => exact hs x (List.mem_cons_self ..)
    rw [List.drop_eq_nil_of_le hi, List.all_nil, Bool.true_and]
    obtain ⟨K1, e1⟩ := parse15_ev (headOf l) hh
    cases hr : reads (headOf l) with
    | false =>
      refine ⟨K1 + 1, fun k hk => ?_⟩
      obtain ⟨m, rfl⟩ : ∃ m, k = m + 1 := ⟨k - 1, by omega⟩
      have e3 : deckleref15_Parse.f m (headOf l) = _ := e1 m (by omega)
      show deckleref16_Right.l0 (m + 1) l (i : Int) = _
      rw [deckleref16_Right.l0, if_neg (by omega), if_pos (by omega), headOf_at l (by omega), e3, hr]
      rfl
    | true =>
      obtain ⟨R, hR⟩ : ∃ R, R = st0 (headOf l) := ⟨_, rfl⟩
      have hrz := st0_size (headOf l)
      rw [hr, ← hR] at e1
      rw [← hR] at hrz ⊢
      have hrl := Nat.le_trans (lsum_length R.ls) hrz.ls
      obtain ⟨K2, e2⟩ := labels16_ev l hl hs2
      have hll := labs_length l
      obtain ⟨K3, e3⟩ := right16_l1 ([R.a, R.b, R.c, R.d, R.e, R.f] ++ R.ls) (labs l) (by omega) (by simp only [List.length_append, List.length_cons, List.length_nil]; omega) (labs_size hs2) _ 0 (Nat.le_add_left _ _)
      have hby : bys (([R.a, R.b, R.c, R.d, R.e, R.f] ++ R.ls) ++ labs l) = R.names ++ bys (labs l) := by
        unfold Raw.names bys
        simp
      rw [hby] at e3
      refine ⟨K1 + K2 + K3 + 1, fun k hk => ?_⟩
      obtain ⟨m, rfl⟩ : ∃ m, k = m + 1 := ⟨k - 1, by omega⟩
      have f1 : deckleref15_Parse.f m (headOf l) = _ := e1 m (by omega)
      have f2 : deckleref16_Labels.f m l = some (labs l) := e2 m (by omega)
      have f3 := e3 m (by omega)
      show deckleref16_Right.l0 (m + 1) l (i : Int) = _
      rw [deckleref16_Right.l0, if_neg (by omega), if_pos (by omega), headOf_at l (by omega), f1, if_pos rfl, Option.bind_some]
      dsimp only
      rw [if_pos rfl, Option.bind_some, if_pos (by simp only [List.length_cons, List.length_nil]; omega), f2, Option.bind_some, Bool.true_and]
      exact f3
  induction n with
  | zero => intro i hi; exact hstop i (by omega)
  | succ n ih =>
    intro i hi
    by_cases hlt : i < l.length
    · have hsz := hs _ (List.getElem_mem hlt)
      rw [drop_cons l i hlt, List.all_cons]
      obtain ⟨K1, e1⟩ := line16_ev l[i] (by omega)
      obtain ⟨K2, e2⟩ := ih (i + 1) (by omega)
      refine ⟨K1 + K2 + 1, fun k hk => ?_⟩
      obtain ⟨m, rfl⟩ : ∃ m, k = m + 1 := ⟨k - 1, by omega⟩
      have e3 : deckleref16_Line.f m l[i] = some (lineB l[i]) := e1 m (by omega)
      have e4 := e2 m (by omega)
      show deckleref16_Right.l0 (m + 1) l (i : Int) = _
      rw [deckleref16_Right.l0, if_pos (by omega), if_pos (by omega), rdOf_at l i hlt, e3, Option.bind_some, wrap_nat rfl (by omega)]
      cases lineB l[i] with
      | true => rw [if_pos rfl, Bool.true_and]; exact e4
      | false => rw [if_neg (by simp), Bool.false_and, Bool.false_and]
    · exact hstop i (by omega)
theorem right16_ev (l : List ByteArray) (hl : l.length ≤ 1099511627776) (hs : ∀ x ∈ l, x.size ≤ 549755813888) : Ev (fun k => deckleref16_Right.f k l) (rightF l) := by
  have hno : Ev (fun k => deckleref16_Right.j0 k l true) false := Ev.step (f := fun _ => some false) (fun k => by rw [deckleref16_Right.j0, if_pos rfl]) (Ev.now _)
  unfold rightF
  by_cases h1 : 1 ≤ l.length
  · by_cases h2 : l.length ≤ 1000
    · rw [decide_eq_true ⟨h1, h2⟩, Bool.true_and]
      have hz := right16_l0 l h1 h2 hs _ 0 (Nat.le_add_left _ _)
      rw [List.drop_zero] at hz
      have hj : Ev (fun k => deckleref16_Right.j0 k l false) _ := Ev.step (fun k => by rw [deckleref16_Right.j0, if_neg (by simp)]; rfl) hz
      refine Ev.congr (fun k => ?_) hj
      unfold deckleref16_Right.f
      rw [if_neg (by omega), decide_eq_false (by omega)]
    · rw [decide_eq_false (fun h => h2 h.2), Bool.false_and]
      refine Ev.congr (fun k => ?_) hno
      unfold deckleref16_Right.f
      rw [if_neg (by omega), decide_eq_true (by omega)]
  · rw [decide_eq_false (fun h => h1 h.1), Bool.false_and]
    refine Ev.congr (fun k => ?_) hno
    unfold deckleref16_Right.f
    rw [if_pos (by omega)]
theorem name16_ev (l : List ByteArray) (hl : l.length ≤ 1099511627776) (hs : ∀ x ∈ l, x.size ≤ 549755813888) : Ev (fun k => deckleref16_Name.f k l) (nameF l) := by
  obtain ⟨K, hK⟩ := right16_ev l hl hs
  unfold nameF
  cases hr : rightF l with
  | false =>
    refine ⟨K, fun k hk => ?_⟩
    have e1 : deckleref16_Right.f k l = some (rightF l) := hK k hk
    show deckleref16_Name.f k l = _
    unfold deckleref16_Name.f
    rw [e1, hr]
    rfl
  | true =>
    obtain ⟨h1, _, _, h4, _⟩ := rightF_pos hr
    have hh : (headOf l).size ≤ 549755813888 := by
      cases l with
      | nil => simp at h1
      | cons x t => exact hs x (List.mem_cons_self ..)
    obtain ⟨K2, hK2⟩ := parse15_ev (headOf l) hh
    refine ⟨K + K2, fun k hk => ?_⟩
    have e1 : deckleref16_Right.f k l = some (rightF l) := hK k (by omega)
    have e2 : deckleref15_Parse.f k (headOf l) = _ := hK2 k (by omega)
    show deckleref16_Name.f k l = _
    unfold deckleref16_Name.f
    rw [e1, hr, Option.bind_some, if_pos rfl, if_pos (by omega), headOf_at l (by omega), e2, h4]
    rfl
theorem join_flat (x : List UInt8) : ∀ t : List (List UInt8), Lib.join (x :: t) [10] = x ++ t.flatMap (fun y => 10 :: y)
  | [] => by rw [join_one]; simp
  | y :: t => by rw [join_cons, join_flat y t]; simp
theorem join16_loop (l : List ByteArray) (hl : l.length ≤ 50) (hs : ∀ x ∈ l, x.size ≤ 200) (n : Nat) : ∀ (i : Nat) (x : ByteArray), 1 ≤ i → l.length ≤ i + n → x.size ≤ 201 * i →
    Ev (fun k => deckleref16_Join.l0 k l x (i : Int)) (txt (x.data.toList ++ (bys (l.drop i)).flatMap (fun y => 10 :: y))) := by
  have stop : ∀ (i : Nat) (x : ByteArray), l.length ≤ i → Ev (fun k => deckleref16_Join.l0 k l x (i : Int)) (txt (x.data.toList ++ (bys (l.drop i)).flatMap (fun y => 10 :: y))) := by
    intro i x hi
    rw [List.drop_eq_nil_of_le hi]
    refine Ev.step (f := fun _ => some x) (fun k => by rw [deckleref16_Join.l0, if_neg (by omega)]) ?_
    have e : txt (x.data.toList ++ (bys []).flatMap (fun y => 10 :: y)) = x := by
      unfold bys
      rw [List.map_nil, List.flatMap_nil, List.append_nil]
      rfl
    rw [e]
    exact Ev.now _
  induction n with
  | zero => intro i x h1 hi _; exact stop i x (by omega)
  | succ n ih =>
    intro i x h1 hi hx
    by_cases hlt : i < l.length
    · have hsz := hs _ (List.getElem_mem hlt)
      have hz1 : (x ++ (⟨#[10]⟩ : ByteArray)).size = x.size + 1 := by rw [ByteArray.size_append]; rfl
      have hz2 : ((x ++ (⟨#[10]⟩ : ByteArray)) ++ l[i]).size = x.size + 1 + l[i].size := by rw [ByteArray.size_append, hz1]
      have hih := ih (i + 1) ((x ++ (⟨#[10]⟩ : ByteArray)) ++ l[i]) (by omega) (by omega) (by omega)
      have e : ((x ++ (⟨#[10]⟩ : ByteArray)) ++ l[i]).data.toList ++ (bys (l.drop (i + 1))).flatMap (fun y => 10 :: y) = x.data.toList ++ (bys (l.drop i)).flatMap (fun y => 10 :: y) := by
        rw [drop_cons l i hlt, append_data, append_data]
        unfold bys
        rw [List.map_cons, List.flatMap_cons, List.append_assoc, List.append_assoc]
        rfl
      rw [e] at hih
      refine Ev.step (fun k => ?_) hih
      rw [deckleref16_Join.l0, if_pos (by omega), if_pos (by omega), if_pos (by omega), if_pos (by omega), rdOf_at l i hlt, if_pos (by omega), wrap_nat rfl (by omega)]
    · exact stop i x (by omega)
theorem join16_ev (l : List ByteArray) (hl : l.length ≤ 50) (hs : ∀ x ∈ l, x.size ≤ 200) : Ev (fun k => deckleref16_Join.f k l) (txt (Lib.join (bys l) [10])) := by
  cases l with
  | nil =>
    refine Ev.step (g := fun k => deckleref16_Join.f k []) (f := fun _ => some ⟨#[]⟩) (fun k => ?_) (Ev.now _)
    unfold deckleref16_Join.f
    rw [deckleref16_Join.l0, if_neg (by simp)]
  | cons x t =>
    have hx := hs x (List.mem_cons_self ..)
    have hz : ((⟨#[]⟩ : ByteArray) ++ x).size = x.size := by rw [ByteArray.size_append]; exact Nat.zero_add _
    have h := join16_loop (x :: t) hl hs t.length 1 ((⟨#[]⟩ : ByteArray) ++ x) (Nat.le_refl _) (by rw [List.length_cons]; omega) (by omega)
    have e : ((⟨#[]⟩ : ByteArray) ++ x).data.toList ++ (bys ((x :: t).drop 1)).flatMap (fun y => 10 :: y) = Lib.join (bys (x :: t)) [10] := by
      unfold bys
      rw [List.map_cons, join_flat, append_data]
      rfl
    rw [e] at h
    refine Ev.step (fun k => ?_) h
    have hrd : rdOf ByteArray.empty (x :: t) 0 = x := headOf_at (x :: t) (by simp)
    have hn : (⟨#[]⟩ : ByteArray).size = 0 := rfl
    unfold deckleref16_Join.f
    rw [deckleref16_Join.l0, if_pos (by rw [List.length_cons]; omega), if_neg (by omega), if_pos (by omega), hrd, if_pos (by omega), wr (by omega) (by omega)]
    rfl
theorem split16_loop (s : ByteArray) (hs : s.size ≤ 1000) (n : Nat) : ∀ (p i : Nat) (acc : List ByteArray), p ≤ i → i ≤ s.size → s.size ≤ i + n → acc.length ≤ p → (10 : UInt8) ∉ (s.data.toList.drop p).take (i - p) →
    Ev (fun k => deckleref16_Split.l0 k s acc (p : Int) (i : Int)) (acc ++ (spl (s.data.toList.drop p)).map txt) := by
  have hsz := length_data s
  have hpc : ∀ (p i : Nat), p ≤ i → s.extract p i = txt ((s.data.toList.drop p).take (i - p)) := by
    intro p i _
    apply ByteArray.ext
    apply Array.ext'
    show (s.extract p i).data.toList = _
    unfold txt
    simp
  have stop : ∀ (p : Nat) (acc : List ByteArray), p ≤ s.size → acc.length ≤ p → (10 : UInt8) ∉ (s.data.toList.drop p).take (s.size - p) →
      Ev (fun k => deckleref16_Split.l0 k s acc (p : Int) (s.size : Int)) (acc ++ (spl (s.data.toList.drop p)).map txt) := by
    intro p acc h1 h4 h5
    have ht : (s.data.toList.drop p).take (s.size - p) = s.data.toList.drop p := List.take_of_length_le (by rw [List.length_drop]; omega)
    rw [ht] at h5
    rw [spl_one _ h5]
    refine Ev.step (f := fun k => deckleref16_Split.l0 k s (acc ++ [txt (s.data.toList.drop p)]) ((s.size + 1 : Nat) : Int) ((s.size + 1 : Nat) : Int)) (fun k => ?_) (Ev.step (f := fun _ => some (acc ++ [txt (s.data.toList.drop p)])) (fun k => ?_) (Ev.now _))
    · rw [deckleref16_Split.l0, if_pos (by omega), if_pos rfl, if_pos (by omega), if_pos (by omega), if_pos (by omega), Int.toNat_natCast, Int.toNat_natCast, hpc p s.size h1, ht, wrap_nat rfl (by omega)]
    · rw [deckleref16_Split.l0, if_neg (by omega)]
  induction n with
  | zero =>
    intro p i acc h1 h2 h3 h4 h5
    obtain rfl : i = s.size := by omega
    exact stop p acc h1 h4 h5
  | succ n ih =>
    intro p i acc h1 h2 h3 h4 h5
    by_cases hlt : i < s.size
    · have hlt2 : i < s.data.toList.length := by omega
      have hat : at8 s.data.toList i = s.data.toList[i].toNat := by
        unfold at8
        rw [List.getD_eq_getElem?_getD, List.getElem?_eq_getElem hlt2, Option.getD_some]
      have hdp : s.data.toList.drop p = (s.data.toList.drop p).take (i - p) ++ s.data.toList[i] :: s.data.toList.drop (i + 1) := by
        have h6 : s.data.toList.drop i = s.data.toList[i] :: s.data.toList.drop (i + 1) := List.drop_eq_getElem_cons hlt2
        rw [← h6]
        have h7 : s.data.toList.drop i = (s.data.toList.drop p).drop (i - p) := by rw [List.drop_drop]; congr 1; omega
        rw [h7, List.take_append_drop]
      by_cases hc : s.data.toList[i] = 10
      · have hb : bt s (i : Int) = 10 := by rw [bt_at8, hat, hc]; rfl
        have hih := ih (i + 1) (i + 1) (acc ++ [txt ((s.data.toList.drop p).take (i - p))]) (Nat.le_refl _) (by omega) (by omega) (by rw [List.length_append, List.length_singleton]; omega) (by rw [Nat.sub_self]; simp)
        have e : (acc ++ [txt ((s.data.toList.drop p).take (i - p))]) ++ (spl (s.data.toList.drop (i + 1))).map txt = acc ++ (spl (s.data.toList.drop p)).map txt := by
          conv => rhs; rw [hdp, hc, spl_cut _ _ h5]
          simp
        rw [e] at hih
        refine Ev.step (fun k => ?_) hih
        rw [deckleref16_Split.l0, if_pos (by omega), if_neg (by omega), if_pos (by omega), if_pos (by omega), if_pos hb, if_pos (by omega), if_pos (by omega), if_pos (by omega), Int.toNat_natCast, Int.toNat_natCast, hpc p i h1, wrap_nat rfl (by omega)]
      · have hb : ¬ bt s (i : Int) = 10 := by
          rw [bt_at8, hat]
          intro h
          refine hc (UInt8.toNat_inj.1 ?_)
          have e : (10 : UInt8).toNat = 10 := rfl
          omega
        have hno : (10 : UInt8) ∉ (s.data.toList.drop p).take (i + 1 - p) := by
          have h6 : (s.data.toList.drop p).take (i + 1 - p) = (s.data.toList.drop p).take (i - p) ++ [s.data.toList[i]] := by
            have h7 : i + 1 - p = (i - p) + 1 := by omega
            rw [h7, List.take_succ_eq_append_getElem (by rw [List.length_drop]; omega)]
            congr 2
            rw [List.getElem_drop]
            congr 1
            omega
          rw [h6]
          intro hm
          rcases List.mem_append.1 hm with h8 | h8
          · exact h5 h8
          · exact hc (List.mem_singleton.1 h8).symm
        refine Ev.step (fun k => ?_) (ih p (i + 1) acc (by omega) (by omega) (by omega) h4 hno)
        rw [deckleref16_Split.l0, if_pos (by omega), if_neg (by omega), if_pos (by omega), if_pos (by omega), if_neg hb, wrap_nat rfl (by omega)]
    · obtain rfl : i = s.size := by omega
      exact stop p acc h1 h4 h5
theorem split16_ev (s : ByteArray) (hs : s.size ≤ 1000) : Ev (fun k => deckleref16_Split.f k s) ((spl s.data.toList).map txt) := by
  have h := split16_loop s hs _ 0 0 [] (Nat.le_refl _) (Nat.zero_le _) (Nat.le_add_left _ _) (Nat.le_refl _) (by simp)
  rw [List.drop_zero, List.nil_append] at h
  exact h
end Go.Proofs.YtmddkjmcbddhiaaDoor.P
end
