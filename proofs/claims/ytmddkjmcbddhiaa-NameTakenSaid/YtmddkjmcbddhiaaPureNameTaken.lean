/-
  Proved: whatever text there is: a name is taken whole, what is left goes on with no sign of a name, and both are the text. No condition.
-/
import Derived.Test.YtmddkjmcbddhiaaP5
import Derived.Test.YtmddkjmcbddhiaaLw8
namespace Go.Proofs.Ytmddkjmcbddhiaa.Pure
open Go.RowKit Go.Proofs.Ytmddkjmcbddhiaa.P Go.Proofs.YtmddkjmcbddhiaaW.PrintWords Go.Proofs.YtmddkjmcbddhiaaW.PrintLast Go.Proofs.Ytmddkjmcbddhiaa.Sp

theorem NameTaken : decklelaw08_NameTaken.Pure := by
  intro s _
  unfold decklelaw08_NameTaken.f
  rw [small08]
  simp only [Option.bind_some, name_Take_f]
  by_cases hs : (s.size : Int) > 300
  · rw [if_pos hs]
  · rw [if_neg hs]
    have hsz := length_data s
    obtain ⟨l, hl⟩ : ∃ l, l = s.data.toList := ⟨_, rfl⟩
    obtain ⟨n, hn⟩ : ∃ n, n = nameLen l := ⟨_, rfl⟩
    have hnl : n ≤ l.length := by rw [hn]; exact nameLen_le l
    have ha : (s.extract 0 n).data.toList = l.take n := by rw [ext_take_data, hl]
    have hb : (s.extract n s.size).data.toList = l.drop n := by rw [extract_data, hl]
    have hasz : (s.extract 0 n).size = n := by rw [← length_data, ha, List.length_take]; omega
    have hbsz : (s.extract n s.size).size = l.length - n := by rw [← length_data, hb, List.length_drop]
    have htk : nameLen (l.take n) = n := by rw [hn]; exact nameLen_take l
    rw [← hl] at hsz
    simp only [← hl, ← hn, ha, hb, htk, append_data]
    rw [if_pos (by rw [hbsz]; omega), if_pos (by rw [hasz, hbsz]; omega)]
    simp only [ByteArray.toList_eq, append_data, ha, hb, List.take_append_drop, ← hl]
    rw [if_pos trivial]
    have hc : ((s.extract 0 n).extract 0 n).data.toList = l.take n := by rw [ext_take_data, ha, List.take_take, Nat.min_self]
    have hd : ((s.extract 0 n).extract n (s.extract 0 n).size).data.toList = [] := by
      rw [extract_data, ha]
      exact List.drop_eq_nil_of_le (by rw [List.length_take]; omega)
    rw [hc, if_pos rfl, hd, if_pos rfl, name_Right_f s (by omega), ← hl]
    simp only [Option.bind_some]
    have hrest : (if True then (if l.take n = [] then some true else if ((((⟨#[97]⟩ : ByteArray) ++ s.extract n s.size).extract 0 (nameLen ((⟨#[97]⟩ : ByteArray).data.toList ++ l.drop n))).data.toList = [97]) then (if ((s.extract 0 n).size : Int) > 32 then some true else (name_Right.f (s.extract 0 n)).bind fun t => some t) else some false) else some false) = some true := by
      rw [if_pos trivial]
      by_cases h0 : l.take n = []
      · rw [if_pos h0]
      · rw [if_neg h0]
        have hbg : bgW l ≠ 0 := by
          intro hz
          rw [hn, nameLen_zero hz] at h0
          exact h0 rfl
        have hng : n = gl l := by rw [hn, nameLen_gl hbg]
        have h97 : nameLen ((⟨#[97]⟩ : ByteArray).data.toList ++ l.drop n) = 1 :=
          nameLen_append (l := [97]) (by decide) (by decide) (by rw [hng]; exact gW_behind l)
        rw [h97, ext_take_data, append_data, if_pos (by rfl)]
        by_cases h32 : ((s.extract 0 n).size : Int) > 32
        · rw [if_pos h32]
        · rw [if_neg h32, name_Right_f _ (by omega), ha, hn, isName_take hbg]
          simp only [Option.bind_some]
          congr 1
          refine decide_eq_true ?_
          have := (cs_le_gl l).1
          omega
    simp only [if_true] at hrest
    cases hr : isName l with
    | true =>
      have hnf : n = l.length := by rw [hn]; exact nameLen_isName hr
      rw [if_pos rfl, if_pos (by rw [hnf, List.take_length]), if_pos (by rw [hnf, List.drop_length])]
      simpa using hrest
    | false =>
      rw [if_neg (by simp)]
      simpa using hrest
end Go.Proofs.Ytmddkjmcbddhiaa.Pure
