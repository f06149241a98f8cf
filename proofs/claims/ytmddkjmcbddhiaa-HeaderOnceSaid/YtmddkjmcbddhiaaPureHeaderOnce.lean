/-
  Proved: what is read is right, and its text is what was read. No condition.
-/
import Derived.Test.YtmddkjmcbddhiaaP16
import Derived.Test.YtmddkjmcbddhiaaHq
namespace Go.Proofs.Ytmddkjmcbddhiaa.Pure
open Go.RowKit Go.Proofs.Ytmddkjmcbddhiaa.P Go.Proofs.YtmddkjmcbddhiaaW.PrintWords Go.Proofs.YtmddkjmcbddhiaaW.PrintLast Go.Proofs.Ytmddkjmcbddhiaa.Sp

theorem same_none : deckleref15_Same.f 30 nilS nilS nilS nilS nilS nilS ([] : List ByteArray) nilS nilS nilS nilS nilS nilS ([] : List ByteArray) = some true := by kernel_rfl
theorem HeaderOnce : decklelaw15_HeaderOnce.Pure := by
  intro s hs
  unfold decklelaw15_HeaderOnce.f
  by_cases h5 : (s.size : Int) > 500
  · exact ⟨0, by simp only [decklelaw15_small.f, Option.bind_some, if_pos h5]⟩
  · have hz := (st0_size s).sized (by omega)
    rw [header_Parse_f s (by omega)]
    cases hr : reads s with
    | false =>
      refine ⟨30, ?_⟩
      simp only [decklelaw15_small.f, Option.bind_some, if_neg h5, if_true, if_false, Bool.false_eq_true]
      rw [same_none]
      rfl
    | true =>
      obtain ⟨h1, h2, h3, h4⟩ := reads_iff.1 hr
      obtain ⟨k, hk⟩ := (header_Right_ev _ _ _ _ _ _ _ hz).rounds
      refine ⟨k, ?_⟩
      have h6 : hdrOk (st0 s).a.data.toList (st0 s).b.data.toList (st0 s).c.data.toList (st0 s).d.data.toList (st0 s).e.data.toList (st0 s).f.data.toList (bys (st0 s).ls) = true := h3
      rw [h6] at hk
      have h7 := (st0_size s).c
      have h8 : (⟨(st0 s).text.toArray⟩ : ByteArray).toList = s.toList := by rw [ByteArray.toList_eq, ByteArray.toList_eq, h4]
      simp only [decklelaw15_small.f, Option.bind_some, if_neg h5, if_true, hk]
      rw [Raw.text_f hz, if_pos h3]
      simp only [Option.bind_some]
      rw [if_pos h8, name_Right_f _ (by omega), hdrOk_name h6]
      rfl
end Go.Proofs.Ytmddkjmcbddhiaa.Pure
