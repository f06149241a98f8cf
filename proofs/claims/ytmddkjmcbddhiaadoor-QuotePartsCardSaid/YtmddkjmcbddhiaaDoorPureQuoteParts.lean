/-
  Proved: signs in quotes that stand together are read as one, with a quote between. Condition: sizes that rows of numbers can have.
-/
import Derived.Test.YtmddkjmcbddhiaaDoorQs
import Derived.Test.YtmddkjmcbddhiaaDoorP15
namespace Go.Proofs.YtmddkjmcbddhiaaDoor.Pure
open Go.RowKit Go.Proofs.YtmddkjmcbddhiaaDoor.P Go.Proofs.YtmddkjmcbddhiaaDoorW.PrintWords Go.Proofs.YtmddkjmcbddhiaaDoor.Q
set_option linter.unusedVariables false
set_option linter.unusedSimpArgs false

theorem QuoteParts (a b : List Int) : ∃ k, decklelaw13_QuoteParts.f k a b = some true := by
  obtain ⟨K, hK⟩ := small13_ev
  have yes : ∀ k, decklelaw13_QuoteParts.j0 (k + 1) a b true true = some true := fun k => by rw [decklelaw13_QuoteParts.j0, if_pos rfl]
  by_cases h1 : (a.length : Int) > 100
  · have e1 : decklelaw13_small.f (K + 1) = some true := hK _ (by omega)
    exact ⟨K + 1, by unfold decklelaw13_QuoteParts.f; simp only [e1, Option.bind_some, if_pos h1]; exact yes K⟩
  · by_cases h2 : (b.length : Int) > 100
    · have e1 : decklelaw13_small.f (K + 1) = some true := hK _ (by omega)
      exact ⟨K + 1, by unfold decklelaw13_QuoteParts.f; simp only [e1, Option.bind_some, if_neg h1, decide_eq_true h2]; exact yes K⟩
    · have no1 : ∀ k x y, decklelaw13_QuoteParts.j1 (k + 1) a b true x y true = some true := fun k x y => by rw [decklelaw13_QuoteParts.j1, if_pos rfl]
      cases ha : a.all signB with
      | false =>
        have e1 : decklelaw13_small.f (K + 2) = some true := hK _ (by omega)
        refine ⟨K + 2, ?_⟩
        unfold decklelaw13_QuoteParts.f
        simp only [e1, Option.bind_some, if_neg h1, decide_eq_false h2]
        rw [decklelaw13_QuoteParts.j0, if_neg (by simp), quote_Text_no (by omega) ha]
        have e2 : ∃ r, quote_Text.f b = some r := by unfold quote_Text.f; rw [if_pos (by omega)]; exact ⟨_, rfl⟩
        obtain ⟨r, e2⟩ := e2
        simp only [Option.bind_some, e2, Bool.false_eq_true, if_false]
        exact no1 K _ _
      | true =>
        cases hb : b.all signB with
        | false =>
          have e1 : decklelaw13_small.f (K + 2) = some true := hK _ (by omega)
          refine ⟨K + 2, ?_⟩
          unfold decklelaw13_QuoteParts.f
          simp only [e1, Option.bind_some, if_neg h1, decide_eq_false h2]
          rw [decklelaw13_QuoteParts.j0, if_neg (by simp), quote_Text_yes (by omega) ha, quote_Text_no (by omega) hb]
          simp only [Option.bind_some, if_true, Bool.not_false]
          exact no1 K _ _
        | true =>
          have hall : (a ++ [39] ++ b).all signB = true := by rw [List.all_append, List.all_append, ha, hb]; rfl
          obtain ⟨K2, hK2⟩ := sameI_self (a ++ [39] ++ b) (by simp; omega)
          have e1 : decklelaw13_small.f (K + K2 + 2) = some true := hK _ (by omega)
          have e2 : deckleref01_Same.f (K + K2) (a ++ [39] ++ b) (a ++ [39] ++ b) = some true := hK2 _ (by omega)
          have la := flat_le a
          have lb := flat_le b
          have qa := qText_len a
          have qb := qText_len b
          have s1 : (⟨(qText a).toArray⟩ : ByteArray).size = (qText a).length := by rw [← length_dataR]
          have s2 : (⟨(qText b).toArray⟩ : ByteArray).size = (qText b).length := by rw [← length_dataR]
          have hd : ((⟨(qText a).toArray⟩ : ByteArray) ++ ⟨(qText b).toArray⟩).data.toList = qText (a ++ [39] ++ b) ++ [] := by
            rw [app_data]
            show qText a ++ qText b = _
            unfold qText
            simp [qEnc]
          have hr := quote_Read_yes (s := (⟨(qText a).toArray⟩ : ByteArray) ++ ⟨(qText b).toArray⟩) (by rw [ByteArray.size_append]; omega) hall hd (fun u h => by cases h)
          refine ⟨K + K2 + 2, ?_⟩
          unfold decklelaw13_QuoteParts.f
          simp only [e1, Option.bind_some, if_neg h1, decide_eq_false h2]
          rw [decklelaw13_QuoteParts.j0, if_neg (by simp), quote_Text_yes (by omega) ha, quote_Text_yes (by omega) hb]
          simp only [Option.bind_some, if_true, Bool.not_true]
          rw [decklelaw13_QuoteParts.j1, if_neg (by simp), if_pos (by omega), hr]
          simp only [Option.bind_some, List.nil_append, List.length_nil, Nat.zero_add, if_true]
          rw [if_pos (by omega), if_pos (by omega), if_pos (by rw [List.length_append]; simp; omega), ByteArray.toList_eq, if_pos rfl, e2]
          rfl
end Go.Proofs.YtmddkjmcbddhiaaDoor.Pure
