/-
  Proved: what is read was written just so, and what follows begins with no quote. Condition: the text's size is one that a text can have.
-/
import Derived.Test.YtmddkjmcbddhiaaDoorQs
import Derived.Test.YtmddkjmcbddhiaaDoorP14
namespace Go.Proofs.YtmddkjmcbddhiaaDoor.Pure
open Go.RowKit Go.Proofs.YtmddkjmcbddhiaaDoor.P Go.Proofs.YtmddkjmcbddhiaaDoorW.PrintWords Go.Proofs.YtmddkjmcbddhiaaDoor.Q
set_option linter.unusedVariables false
set_option linter.unusedSimpArgs false

theorem QuoteOnce (s : ByteArray) (hss : s.size ≤ 140737488351232) : ∃ k, decklelaw13_QuoteOnce.f k s = some true := by
  obtain ⟨k, hk⟩ := small13_ev.rounds
  refine ⟨k, ?_⟩
  unfold decklelaw13_QuoteOnce.f
  simp only [hk, Option.bind_some]
  by_cases h5 : (s.size : Int) > 500
  · rw [if_pos h5]
  · rw [if_neg h5]
    cases hq : qOk s with
    | false =>
      rw [quote_Read_no (by omega) hq]
      simp only [Option.bind_some, Bool.false_eq_true, if_false, if_true, List.length_nil, ByteArray.toList_eq]
      rfl
    | true =>
      obtain ⟨ls, r, h1, h2, h3⟩ := read_was hq
      have hlen : (qText ls).length + r.length = s.size := by rw [← length_dataR, h2, List.length_append]
      have hl : ls.length ≤ (ls.flatMap qEnc).length := by
        clear h1 h2 hlen
        induction ls with
        | nil => exact Nat.le_refl _
        | cons n t ih =>
          have h4 : 1 ≤ (qEnc n).length := by
            unfold qEnc
            split
            · decide
            · exact enc_pos n
          simp only [List.flatMap_cons, List.length_append, List.length_cons]
          omega
      have hql := qText_len ls
      rw [quote_Read_yes (by omega) h1 h2 h3]
      simp only [Option.bind_some, if_true]
      rw [quote_Text_yes (by omega) h1]
      have e1 : (⟨(qText ls).toArray⟩ : ByteArray).size = (qText ls).length := by rw [← length_dataR]
      have e2 : (⟨r.toArray⟩ : ByteArray).size = r.length := by rw [← length_dataR]
      simp only [Option.bind_some, if_true, e1, e2]
      rw [if_pos (by omega), if_pos (by rw [ByteArray.toList_eq, ByteArray.toList_eq, app_data, h2]), ByteArray.toList_eq]
      by_cases hr : r = []
      · rw [if_pos hr]
      · rw [if_neg hr, if_pos (by have := List.length_pos_iff.2 hr; omega)]
        obtain ⟨c, t, rfl⟩ := List.exists_cons_of_ne_nil hr
        rw [bt_head (s := ⟨(c :: t).toArray⟩) rfl]
        congr 1
        have hc : c ≠ 39 := fun e => h3 t (by rw [e])
        exact bne_iff_ne.2 (fun e => hc (u8_39.1 (by omega)))
end Go.Proofs.YtmddkjmcbddhiaaDoor.Pure
