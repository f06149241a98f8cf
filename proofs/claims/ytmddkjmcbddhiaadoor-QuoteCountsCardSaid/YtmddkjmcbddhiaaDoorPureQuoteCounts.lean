/-
  Proved: each sign has its bytes, a quote two, and two stand around all. No condition.
-/
import Derived.Test.YtmddkjmcbddhiaaDoorQs
import Derived.Test.YtmddkjmcbddhiaaDoorP16
namespace Go.Proofs.YtmddkjmcbddhiaaDoor.Pure
open Go.RowKit Go.Proofs.YtmddkjmcbddhiaaDoor.P Go.Proofs.YtmddkjmcbddhiaaDoorW.PrintWords Go.Proofs.YtmddkjmcbddhiaaDoor.Q
set_option linter.unusedVariables false
set_option linter.unusedSimpArgs false

theorem enc_len {n : Int} (h : signB n = true) : (Lib.encodeRune n).length = if n < 128 then 1 else if n < 2048 then 2 else if n < 65536 then 3 else 4 := by
  obtain ⟨h0, h1, h2⟩ := (signB_iff n).1 h
  unfold Lib.encodeRune
  rw [List.length_map]
  by_cases c1 : n < 128
  · rw [if_pos c1, Lib.encodeRuneZ_one (by omega) (by omega)]; rfl
  · by_cases c2 : n < 2048
    · rw [if_neg c1, if_pos c2, Lib.encodeRuneZ_two (by omega) (by omega)]; rfl
    · by_cases c3 : n < 65536
      · rw [if_neg c1, if_neg c2, if_pos c3, Lib.encodeRuneZ_three (by omega)]; rfl
      · rw [if_neg c1, if_neg c2, if_neg c3, Lib.encodeRuneZ_four (by omega) (by omega)]; rfl
theorem wrapC {a m : Nat} {c : Int} (h : (m : Int) = (a : Int) + c) (hm : m ≤ 4611686018427387904) : wrap64 ((a : Int) + c) = (m : Int) := by unfold wrap64; omega
theorem counts_loop (l : List Int) (hl : l.length ≤ 100) (n : Nat) : ∀ (i : Nat), i ≤ l.length → l.length ≤ i + n → (l.take i).all signB = true →
    Ev (fun k => decklelaw13_QuoteCounts.l0 k l true (qRes l).1 (qRes l).2 ((2 + ((l.take i).flatMap qEnc).length : Nat) : Int) (i : Int)) true := by
  have hend : l.all signB = true → Ev (fun k => decklelaw13_QuoteCounts.l0 k l true (qRes l).1 (qRes l).2 ((2 + (l.flatMap qEnc).length : Nat) : Int) (l.length : Int)) true := by
    intro ha
    refine Ev.step (f := fun _ => some true) (fun k => ?_) (Ev.now _)
    have e1 : (qRes l).2 = true := by unfold qRes; rw [if_pos ha]
    have e2 : (qRes l).1.size = 2 + (l.flatMap qEnc).length := by
      unfold qRes
      rw [if_pos ha, ← length_dataR, ← qText_len]
    rw [decklelaw13_QuoteCounts.l0, if_neg (by omega), if_pos rfl, e1, if_pos rfl, e2]
    congr 1
    exact beq_iff_eq.2 rfl
  induction n with
  | zero =>
    intro i hi hn ha
    have e : i = l.length := by omega
    subst e
    rw [List.take_length] at ha ⊢
    exact hend ha
  | succ n ih =>
    intro i hi hn ha
    by_cases hlt : i < l.length
    · have hx : rd l (i : Int) = l[i] := rd_get l i hlt
      have hfl : ((l.take i).flatMap qEnc).length ≤ 4 * i := Nat.le_trans (flat_le _) (by have := List.length_take_le i l; omega)
      cases hs : signB l[i] with
      | false =>
        have e1 := qRes_bad hlt rfl hs
        refine Ev.step (f := fun k => decklelaw13_QuoteCounts.j1 k l true (qRes l).1 (qRes l).2 ((2 + ((l.take i).flatMap qEnc).length : Nat) : Int) (i : Int) true) (fun k => ?_) (Ev.step (f := fun _ => some true) (fun k => ?_) (Ev.now _))
        · rw [decklelaw13_QuoteCounts.l0, if_pos (by omega), if_pos (by omega), hx]
          have hn2 : ¬ (0 ≤ l[i] ∧ l[i] ≤ 1114111 ∧ ¬ (55296 ≤ l[i] ∧ l[i] ≤ 57343)) := fun h => by rw [(signB_iff _).2 h] at hs; cases hs
          by_cases h3 : l[i] < 0
          · rw [if_pos h3]
          · by_cases h4 : l[i] > 1114111
            · rw [if_neg h3, if_pos h4]
            · rw [if_neg h3, if_neg h4, if_pos (by omega), decide_eq_true (by omega)]
        · rw [decklelaw13_QuoteCounts.j1, if_pos rfl, if_pos rfl, e1, if_neg (by simp), ByteArray.toList_eq]
          rfl
      | true =>
        obtain ⟨h0, h1, h2⟩ := (signB_iff _).1 hs
        have hnx := ih (i + 1) (by omega) (by omega) (all_next hlt rfl hs ha)
        have hlen : ((l.take (i + 1)).flatMap qEnc).length = ((l.take i).flatMap qEnc).length + (qEnc l[i]).length := by
          rw [take_next hlt rfl, List.flatMap_append, List.length_append]
          simp
        rw [hlen] at hnx
        refine Ev.step (f := fun k => decklelaw13_QuoteCounts.j1 k l true (qRes l).1 (qRes l).2 ((2 + ((l.take i).flatMap qEnc).length : Nat) : Int) (i : Int) false) (fun k => ?_) (Ev.step (fun k => ?_) hnx)
        · rw [decklelaw13_QuoteCounts.l0, if_pos (by omega), if_pos (by omega), hx, if_neg (by omega), if_neg (by omega)]
          by_cases h5 : l[i] ≥ 55296
          · rw [if_pos h5, decide_eq_false (by omega)]
          · rw [if_neg h5]
        · rw [decklelaw13_QuoteCounts.j1, if_neg (by simp), if_pos (by omega), if_pos (by omega), hx, wrap1 rfl (by omega)]
          generalize hA : ((l.take i).flatMap qEnc).length = A at hfl ⊢
          generalize hB : (qEnc l[i]).length = B
          by_cases c0 : l[i] = 39
          · have hq : B = 2 := by rw [← hB]; unfold qEnc; rw [if_pos c0]; rfl
            rw [if_pos c0, wrapC (m := 2 + (A + B)) (by omega) (by omega)]
          · have hq : B = (Lib.encodeRune l[i]).length := by rw [← hB]; unfold qEnc; rw [if_neg c0]
            rw [enc_len hs] at hq
            rw [if_neg c0]
            by_cases c1 : l[i] < 128
            · rw [if_pos c1] at hq
              rw [if_pos c1, wrapC (m := 2 + (A + B)) (by omega) (by omega)]
            · by_cases c2 : l[i] < 2048
              · rw [if_neg c1, if_pos c2] at hq
                rw [if_neg c1, if_pos c2, wrapC (m := 2 + (A + B)) (by omega) (by omega)]
              · by_cases c3 : l[i] < 65536
                · rw [if_neg c1, if_neg c2, if_pos c3] at hq
                  rw [if_neg c1, if_neg c2, if_pos c3, wrapC (m := 2 + (A + B)) (by omega) (by omega)]
                · rw [if_neg c1, if_neg c2, if_neg c3] at hq
                  rw [if_neg c1, if_neg c2, if_neg c3, wrapC (m := 2 + (A + B)) (by omega) (by omega)]
    · have e : i = l.length := by omega
      subst e
      rw [List.take_length] at ha ⊢
      exact hend ha
theorem QuoteCounts (l : List Int) : ∃ k, decklelaw13_QuoteCounts.f k l = some true := by
  obtain ⟨K, hK⟩ := small13_ev
  by_cases h1 : (l.length : Int) > 100
  · have e1 : decklelaw13_small.f K = some true := hK _ (Nat.le_refl _)
    exact ⟨K, by unfold decklelaw13_QuoteCounts.f; simp only [e1, Option.bind_some, if_pos h1]⟩
  · obtain ⟨K2, hK2⟩ := counts_loop l (by omega) l.length 0 (Nat.zero_le _) (by omega) (by simp)
    have e1 : decklelaw13_small.f (K + K2) = some true := hK _ (by omega)
    have e2 : decklelaw13_QuoteCounts.l0 (K + K2) l true (qRes l).1 (qRes l).2 2 0 = some true := by have := hK2 (K + K2) (by omega); simpa using this
    have e3 : quote_Text.f l = some (qRes l) := by unfold quote_Text.f; rw [if_pos (by omega)]
    exact ⟨K + K2, by unfold decklelaw13_QuoteCounts.f; simp only [e1, Option.bind_some, if_neg h1, e3]; exact e2⟩
end Go.Proofs.YtmddkjmcbddhiaaDoor.Pure
