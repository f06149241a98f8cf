/-
  Proved: signs that were written are read as they were, with what follows, if that begins with no quote. Condition: the text behind has a size that a text can have.
-/
import Derived.Test.YtmddkjmcbddhiaaDoorQs
import Derived.Test.YtmddkjmcbddhiaaDoorP13
namespace Go.Proofs.YtmddkjmcbddhiaaDoor.Pure
open Go.RowKit Go.Proofs.YtmddkjmcbddhiaaDoor.P Go.Proofs.YtmddkjmcbddhiaaDoorW.PrintWords Go.Proofs.YtmddkjmcbddhiaaDoor.Q
set_option linter.unusedVariables false
set_option linter.unusedSimpArgs false

theorem back_loop (l : List Int) (m s : ByteArray) (o : Bool) (hl : l.length ≤ 100)
    (hend : Ev (fun k => decklelaw13_QuoteBack.l0 k l m true s o (l.all signB) (l.length : Int)) true) (n : Nat) : ∀ (i : Nat), i ≤ l.length → l.length ≤ i + n → Ev (fun k => decklelaw13_QuoteBack.l0 k l m true s o ((l.take i).all signB) (i : Int)) true := by
  induction n with
  | zero =>
    intro i hi hn
    have e : i = l.length := by omega
    subst e
    rw [List.take_length]
    exact hend
  | succ n ih =>
    intro i hi hn
    by_cases hlt : i < l.length
    · have h2 := ih (i + 1) (by omega) (by omega)
      have hx : rd l (i : Int) = l[i] := rd_get l i hlt
      rw [take_next hlt rfl, List.all_append] at h2
      have e1 : ([l[i]].all signB) = signB l[i] := by simp
      rw [e1] at h2
      refine Ev.step (fun k => ?_) h2
      rw [decklelaw13_QuoteBack.l0, if_pos (by omega), hx, wrap1 rfl (by omega)]
      cases (l.take i).all signB with
      | false => rw [if_neg (by simp)]; rfl
      | true =>
        rw [if_pos rfl, if_pos (by omega), Bool.true_and]
        by_cases h3 : l[i] ≥ 0
        · rw [if_pos h3]
          by_cases h4 : l[i] ≤ 1114111
          · rw [if_pos h4]
            by_cases h5 : l[i] < 55296
            · rw [if_pos h5]
              have : signB l[i] = true := (signB_iff _).2 (by omega)
              rw [this]
            · rw [if_neg h5]
              have : signB l[i] = decide (l[i] > 57343) := by
                unfold signB
                exact decide_eq_decide.2 (by omega)
              rw [this]
          · rw [if_neg h4]
            have : signB l[i] = false := by
              cases h : signB l[i] with
              | false => rfl
              | true => have := (signB_iff _).1 h; omega
            rw [this]
        · rw [if_neg h3]
          have : signB l[i] = false := by
            cases h : signB l[i] with
            | false => rfl
            | true => have := (signB_iff _).1 h; omega
          rw [this]
    · have e : i = l.length := by omega
      subst e
      rw [List.take_length]
      exact hend
theorem QuoteBack (l : List Int) (m : ByteArray) (hm : m.size ≤ 140737488351232) : ∃ k, decklelaw13_QuoteBack.f k l m = some true := by
  obtain ⟨K, hK⟩ := small13_ev
  have yes : ∀ k, decklelaw13_QuoteBack.j0 (k + 1) l m true true = some true := fun k => by rw [decklelaw13_QuoteBack.j0, if_pos rfl]
  by_cases h1 : (l.length : Int) > 100
  · have e1 : decklelaw13_small.f (K + 1) = some true := hK _ (by omega)
    exact ⟨K + 1, by unfold decklelaw13_QuoteBack.f; simp only [e1, Option.bind_some, if_pos h1]; exact yes K⟩
  · by_cases h2 : (m.size : Int) > 300
    · have e1 : decklelaw13_small.f (K + 1) = some true := hK _ (by omega)
      exact ⟨K + 1, by unfold decklelaw13_QuoteBack.f; simp only [e1, Option.bind_some, if_neg h1, decide_eq_true h2]; exact yes K⟩
    · have hmain : Ev (fun k => decklelaw13_QuoteBack.j0 k l m true false) true := by
        cases ha : l.all signB with
        | false =>
          refine Ev.step (f := fun k => decklelaw13_QuoteBack.l0 k l m true ⟨#[]⟩ false true ((0 : Nat) : Int)) (fun k => by rw [decklelaw13_QuoteBack.j0, if_neg (by simp), quote_Text_no (by omega) ha]; rfl) ?_
          have h3 := back_loop l m ⟨#[]⟩ false (by omega) ?_ l.length 0 (Nat.zero_le _) (by omega)
          · simpa using h3
          · rw [ha]
            refine Ev.step (f := fun k => decklelaw13_QuoteBack.j2 k l m true ⟨#[]⟩ false false true) (fun k => ?_) (Ev.step (f := fun _ => some true) (fun k => ?_) (Ev.now _))
            · rw [decklelaw13_QuoteBack.l0, if_neg (by omega)]
              rfl
            · rw [decklelaw13_QuoteBack.j2, if_pos rfl, if_pos rfl, if_pos (by rfl), ByteArray.toList_eq]
              rfl
        | true =>
          have hql := qText_len l
          have hfl := flat_le l
          have es : (⟨(qText l).toArray⟩ : ByteArray).size = (qText l).length := by rw [← length_dataR]
          have hsame := sameI_self l (by omega)
          refine Ev.step (f := fun k => decklelaw13_QuoteBack.l0 k l m true ⟨(qText l).toArray⟩ true true ((0 : Nat) : Int)) (fun k => by rw [decklelaw13_QuoteBack.j0, if_neg (by simp), quote_Text_yes (by omega) ha]; rfl) ?_
          have h3 := back_loop l m ⟨(qText l).toArray⟩ true (by omega) ?_ l.length 0 (Nat.zero_le _) (by omega)
          · simpa using h3
          · rw [ha]
            -- what the read gives
            have hread : ∃ x y z, quote_Read.f ((⟨(qText l).toArray⟩ : ByteArray) ++ m) = some (x, y, z) ∧ ((∀ u, m.data.toList ≠ 39 :: u) → x = l ∧ y.data.toList = m.data.toList ∧ z = true) := by
              by_cases hq : ∀ u, m.data.toList ≠ 39 :: u
              · exact ⟨_, _, _, quote_Read_yes (by rw [ByteArray.size_append]; omega) ha (by rw [app_data]) hq, fun _ => ⟨rfl, rfl, rfl⟩⟩
              · cases hk : qOk ((⟨(qText l).toArray⟩ : ByteArray) ++ m) with
                | false => exact ⟨_, _, _, quote_Read_no (by rw [ByteArray.size_append]; omega) hk, fun h => absurd h hq⟩
                | true =>
                  refine ⟨runesOf (qOne ((⟨(qText l).toArray⟩ : ByteArray) ++ m)), qRest ((⟨(qText l).toArray⟩ : ByteArray) ++ m), true, ?_, fun h => absurd h hq⟩
                  unfold quote_Read.f
                  rw [if_pos (by rw [ByteArray.size_append]; omega), if_pos hk]
            obtain ⟨x, y, z, e2, e3⟩ := hread
            have hj3t : Ev (fun k => decklelaw13_QuoteBack.j3 k l m true ⟨(qText l).toArray⟩ x y z true) true := by
              refine Ev.step (f := fun k => (deckleref01_Same.f k l l).bind fun t => some t) (fun k => ?_) (Ev.bind hsame (Ev.now _))
              have hr := quote_Read_yes (s := ⟨(qText l).toArray⟩) (r := []) (by omega) ha (by rw [List.append_nil]) (fun u h => by cases h)
              rw [decklelaw13_QuoteBack.j3, if_pos rfl, hr]
              simp only [Option.bind_some, if_true]
              rw [ByteArray.toList_eq, if_pos rfl]
            refine Ev.step (f := fun k => decklelaw13_QuoteBack.j2 k l m true ⟨(qText l).toArray⟩ true true false) (fun k => ?_) ?_
            · rw [decklelaw13_QuoteBack.l0, if_neg (by omega)]
              rfl
            · by_cases hz : m.data.toList = []
              · obtain ⟨rfl, e5, rfl⟩ := e3 (fun u h => by rw [hz] at h; cases h)
                refine Ev.step (f := fun k => decklelaw13_QuoteBack.j3 k x m true ⟨(qText x).toArray⟩ x y true false) (fun k => ?_) (Ev.step (f := fun k => (deckleref01_Same.f k x x).bind fun t => some t) (fun k => ?_) (Ev.bind hsame (Ev.now _)))
                · rw [decklelaw13_QuoteBack.j2, if_neg (by simp), if_pos (by omega), e2]
                  simp only [Option.bind_some]
                  rw [ByteArray.toList_eq, if_pos hz]
                · rw [decklelaw13_QuoteBack.j3, if_neg (by simp), if_pos rfl, if_pos rfl, ByteArray.toList_eq, ByteArray.toList_eq, if_pos e5]
              · obtain ⟨c, t, hct⟩ := List.exists_cons_of_ne_nil hz
                have hb := bt_head hct
                have hpos : 0 < m.size := by rw [← length_dataR, hct]; simp
                by_cases hc : c = 39
                · refine Ev.step (fun k => ?_) hj3t
                  rw [decklelaw13_QuoteBack.j2, if_neg (by simp), if_pos (by omega), e2]
                  simp only [Option.bind_some]
                  rw [ByteArray.toList_eq, if_neg hz, if_pos (by omega), hb, hc]
                  rfl
                · obtain ⟨rfl, e5, rfl⟩ := e3 (fun u h => by rw [hct] at h; exact hc (List.cons.inj h).1)
                  refine Ev.step (f := fun k => decklelaw13_QuoteBack.j3 k x m true ⟨(qText x).toArray⟩ x y true false) (fun k => ?_) (Ev.step (f := fun k => (deckleref01_Same.f k x x).bind fun t => some t) (fun k => ?_) (Ev.bind hsame (Ev.now _)))
                  · rw [decklelaw13_QuoteBack.j2, if_neg (by simp), if_pos (by omega), e2]
                    simp only [Option.bind_some]
                    have hbf : (bt m 0 == 39) = false := beq_eq_false_iff_ne.2 (fun e => hc (u8_39.1 (by omega)))
                    rw [ByteArray.toList_eq, if_neg hz, if_pos (by omega), hbf]
                  · rw [decklelaw13_QuoteBack.j3, if_neg (by simp), if_pos rfl, if_pos rfl, ByteArray.toList_eq, ByteArray.toList_eq, if_pos e5]
      obtain ⟨K2, hK2⟩ := hmain
      have e1 : decklelaw13_small.f (K + K2) = some true := hK _ (by omega)
      have e2 : decklelaw13_QuoteBack.j0 (K + K2) l m true false = some true := hK2 _ (by omega)
      exact ⟨K + K2, by unfold decklelaw13_QuoteBack.f; simp only [e1, Option.bind_some, if_neg h1, decide_eq_false h2]; exact e2⟩
end Go.Proofs.YtmddkjmcbddhiaaDoor.Pure
