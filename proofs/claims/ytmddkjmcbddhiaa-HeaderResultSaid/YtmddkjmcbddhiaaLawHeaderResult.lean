/-
  Proved: a result stands ahead of all, and may be told just if it is unlike all other names. Condition: the locals' number is one that a slice can have.
  Proved: the Go function deckle/decklelaw15.HeaderResult answers true at every input; each argument reads afterwards as it read before. Conditions: none but the form's own.
-/
import Derived.Test.YtmddkjmcbddhiaaP18
import Derived.Test.YtmddkjmcbddhiaaFx
import Derived.Test.YtmddkjmcbddhiaaRows
import Derived.Test.YtmddkjmcbddhiaaRk2
import Derived.WalkKit
import Derived.ProofKit
import Derived.OpenShut
import Derived.ShutString
import Derived.ChangeOld
import Derived.Below
import Derived.SizedLaws
import Derived.Test.YtmddkjmcbddhiaaWSized
section
namespace Go.Proofs.Ytmddkjmcbddhiaa.Pure
open Go.RowKit Go.Proofs.Ytmddkjmcbddhiaa.P Go.Proofs.YtmddkjmcbddhiaaW.PrintWords Go.Proofs.YtmddkjmcbddhiaaW.PrintLast Go.Proofs.Ytmddkjmcbddhiaa.Sp
set_option linter.unusedVariables false
set_option linter.unusedSimpArgs false

theorem HeaderResult (a b c d e f : ByteArray) (l : List ByteArray) (s : ByteArray) (hl : l.length ≤ 4611686018427387904) (hss : s.size ≤ 140737488351232) : ∃ k, decklelaw15_HeaderResult.f k a b c d e f l s = some true := by
  have yes : ∀ k, decklelaw15_HeaderResult.j0 (k + 1) s true true a b c d e f l = some true := fun k => by rw [decklelaw15_HeaderResult.j0, if_pos rfl]
  obtain ⟨r, ⟨K1, h1⟩, h2⟩ := few_ev a b c d e f l hl
  cases r with
  | false =>
    have e1 : decklelaw15_Few.f (K1 + 1) a b c d e f l = some false := h1 _ (by omega)
    exact ⟨K1 + 1, by unfold decklelaw15_HeaderResult.f; simp only [decklelaw15_small.f, Option.bind_some, e1, Bool.false_eq_true, if_false]; exact yes K1⟩
  | true =>
    have hw := h2 rfl
    have hz := hw.sized
    have hls := hw.lsum_le
    have hn := hw.n
    obtain ⟨K2, h3⟩ := header_Right_ev a b c d e f l hz
    by_cases hs : (s.size : Int) > 100
    · have e1 : decklelaw15_Few.f (K1 + 1) a b c d e f l = some true := h1 _ (by omega)
      exact ⟨K1 + 1, by unfold decklelaw15_HeaderResult.f; simp only [decklelaw15_small.f, Option.bind_some, e1, if_true, if_pos hs]; exact yes K1⟩
    by_cases ha : a.toList = ([] : List UInt8)
    · by_cases hok : hdrOk a.data.toList b.data.toList c.data.toList d.data.toList e.data.toList f.data.toList (bys l) = true
      · rw [hok] at h3
        by_cases hnm : isName s.data.toList = true
        · have ha2 : a.data.toList = [] := by rw [ByteArray.toList_eq] at ha; exact ha
          have hz2 : HSized s b c d e f l := by
            refine ⟨?_, by omega⟩
            have := hw.a; have := hw.b; have := hw.c; have := hw.d; have := hw.e; have := hw.f
            omega
          have hok3 := hok
          rw [ha2] at hok3
          obtain ⟨K3, h4⟩ := header_Right_ev s b c d e f l hz2
          rw [hdrOk_result hnm hok3] at h4
          have e5 := header_Text_f hz
          have e6 := header_Text_f hz2
          rw [if_pos hok, ha2] at e5
          rw [hdrOk_result hnm hok3, hdrText_result hnm] at e6
          have e9 : name_Unlike.f ([s, b, c, d, e, f] ++ l) = some (unl ([s.data.toList, b.data.toList, c.data.toList, d.data.toList, e.data.toList, f.data.toList] ++ bys l)) := by
            unfold name_Unlike.f
            have hall : ([s, b, c, d, e, f] ++ l).all (fun s => decide (s.size ≤ maxLen)) = true := by
              rw [List.all_eq_true]
              intro x hx
              have := hz2.mem hx
              exact decide_eq_true (by unfold maxLen; omega)
            have hlen : ([s, b, c, d, e, f] ++ l).length = l.length + 6 := by simp
            rw [if_pos ⟨by omega, hall⟩]
            rfl
          have hsz1 : (⟨(hdrText [] b.data.toList c.data.toList d.data.toList e.data.toList f.data.toList (bys l)).toArray⟩ : ByteArray).size ≤ 3720 := by
            have h5 := P.text_len [] b.data.toList c.data.toList d.data.toList e.data.toList f.data.toList (bys l)
            rw [lsum_bys] at h5
            simp only [length_data, List.length_nil] at h5
            have := hw.a; have := hw.b; have := hw.c; have := hw.d; have := hw.e; have := hw.f
            rw [← length_data]
            show (hdrText _ _ _ _ _ _ _).length ≤ _
            omega
          have e1 : decklelaw15_Few.f (K1 + K2 + K3 + 1) a b c d e f l = some true := h1 _ (by omega)
          have e2 : header_Right.f (K1 + K2 + K3 + 1) a b c d e f l = some true := h3 _ (by omega)
          have e3 : header_Right.f (K1 + K2 + K3) s b c d e f l = some _ := h4 _ (by omega)
          have h6 : ([s, b, c, d, e, f] : List ByteArray).length + l.length < 8796093022208 := by simp; omega
          have e8 : decklelaw15_HeaderResult.j0 (K1 + K2 + K3 + 1) s true false a b c d e f l = some true := by
            rw [decklelaw15_HeaderResult.j0, if_neg (by simp)]
            simp only [Option.bind_some, if_pos h6, e9, if_true, e3, e6, e5, beq_self_eq_true]
            cases hu : unl ([s.data.toList, b.data.toList, c.data.toList, d.data.toList, e.data.toList, f.data.toList] ++ bys l) with
            | false => rfl
            | true =>
              simp only [if_true, Option.bind_some]
              rw [if_pos (by omega), if_pos (by
                rw [ByteArray.size_append]
                have : (⟨#[226, 134, 144]⟩ : ByteArray).size = 3 := rfl
                omega)]
              congr 1
              rw [beq_iff_eq, ByteArray.toList_eq, ByteArray.toList_eq, append_data, append_data]
          exact ⟨K1 + K2 + K3 + 1, by unfold decklelaw15_HeaderResult.f; simp only [decklelaw15_small.f, Option.bind_some, e1, if_true, if_neg hs, if_pos ha, e2, name_Right_f s (by omega), hnm, Bool.not_true]; exact e8⟩
        · have hnm2 : isName s.data.toList = false := by simpa using hnm
          have e1 : decklelaw15_Few.f (K1 + K2 + 1) a b c d e f l = some true := h1 _ (by omega)
          have e2 : header_Right.f (K1 + K2 + 1) a b c d e f l = some true := h3 _ (by omega)
          exact ⟨K1 + K2 + 1, by unfold decklelaw15_HeaderResult.f; simp only [decklelaw15_small.f, Option.bind_some, e1, if_true, if_neg hs, if_pos ha, e2, name_Right_f s (by omega), hnm2, Bool.not_false]; exact yes _⟩
      · have hok2 := Bool.eq_false_iff.2 hok
        rw [hok2] at h3
        have e1 : decklelaw15_Few.f (K1 + K2 + 1) a b c d e f l = some true := h1 _ (by omega)
        have e2 : header_Right.f (K1 + K2 + 1) a b c d e f l = some false := h3 _ (by omega)
        exact ⟨K1 + K2 + 1, by unfold decklelaw15_HeaderResult.f; simp only [decklelaw15_small.f, Option.bind_some, e1, if_true, if_neg hs, if_pos ha, e2, Bool.false_eq_true, if_false]; exact yes _⟩
    · have e1 : decklelaw15_Few.f (K1 + 1) a b c d e f l = some true := h1 _ (by omega)
      exact ⟨K1 + 1, by unfold decklelaw15_HeaderResult.f; simp only [decklelaw15_small.f, Option.bind_some, e1, if_true, if_neg hs, if_neg ha]; exact yes K1⟩
end Go.Proofs.Ytmddkjmcbddhiaa.Pure
end
section
namespace Go.Proofs.Ytmddkjmcbddhiaa.headerResult
open Go.ChangeShapes Go.WideShapes Go.ChangeAt Go.RowKit Go.Proofs.YtmddkjmcbddhiaaW.PrintWords
open Go.ChangeMaps (open_string shut_string)
set_option linter.unusedVariables false
set_option linter.unusedSimpArgs false
theorem own : ownKnob Try.prog.godebug = none := by kernel_rfl
set_option maxRecDepth 100000 in
set_option maxHeartbeats 1000000 in
theorem lifted (os : Os) (started : os.Started) (H : Type) (enc : TypeId × Value → H) :
    ReturnsInHanded {} Try.checked os 12 .any (Rows.headerResultSpec.pre6 enc Try.prog Try.f12 Rows.headerResultRow.domain false) (Rows.headerResultSpec.post enc Try.prog Try.f12 false true false false) := by
  refine returnsInHanded_of_change_sized (C := Try.checked) own started (by kernel_rfl) Try.func12
    (ChangeSpec.witness6 (enc := enc) (C := Try.checked) false ⟨#[], #[.agg #[.string ByteArray.empty, .string ByteArray.empty, .string ByteArray.empty, .string ByteArray.empty, .string ByteArray.empty, .string ByteArray.empty, .slice none 0 0], .string ByteArray.empty], []⟩ 12 (by kernel_rfl) (by kernel_rfl) (by kernel_rfl) (by kernel_rfl)) ?_
  intro W base args ds gs before hval0 hW hcnd hsz0 _
  have hsz : (DataW.weightsEach Try.prog (Try.f12.params.toList ++ Rows.headerResultSpec.plain.varTypes Try.prog) (ds ++ gs)).all (· ≤ reachBytes) = true := hsz0
  have hval : ∀ (j : Nat) t v, Try.f12.params[j]? = some t → args[j]? = some v → Value.okWide Try.prog W .any base t v := hval0
  have hW' := hW
  obtain ⟨p, q, hA0, hV, rfl, hfz, hnd⟩ := hW
  have hA : DataW.TrodAll enc Try.prog W 0 (fun _ => true) true Try.f12.params.toList args.toList ds p := hA0
  rw [Try.params12] at hA hval hsz
  obtain ⟨v0, vs0, d0, ds0, p0, q0, hargs, rfl, rfl, h0, r0⟩ := trodAll_cons hA
  obtain ⟨v1, vs1, d1, ds1, p1, q1, rfl, rfl, rfl, h1, r1⟩ := trodAll_cons r0
  obtain ⟨rfl, rfl, rfl⟩ := trodAll_nil r1
  obtain rfl : args = #[v0, v1] := by cases args; simp_all
  obtain ⟨rfl, rfl⟩ := trodVars_none hV
  have k0 := h0
  have lt0 : ∀ x ∈ p0, x.block < W.heap.size := by obtain ⟨m, hm⟩ := k0; exact DataW.trod_lt m _ _ _ hm
  obtain ⟨ea0, eb0, ec0, ed0, ee0, ef0, A0, cap0, x0, rfl, hr0, hc0, ⟨wa0, wb0, wc0, wd0, we0, wf0⟩, hl0, hb0⟩ := Rk.open_hdr hsz (j := 0) rfl rfl (hval 0 35 v0 rfl rfl) h0
  obtain ⟨a1, rfl, rfl, rfl, y1⟩ := open_string Try.underlying9 (hval 1 9 v1 rfl rfl) h1
  have w1 : a1.size ≤ 140737488351232 := by
    have z := sized_string hsz (j := 1) (t := 9) rfl rfl
    rw [Array.length_toList] at z
    exact z
  clear hA0 hval0 hsz0 hsz
  obtain ⟨k, hk⟩ : ∃ k, P.decklelaw15_HeaderResult.f k ea0 eb0 ec0 ed0 ee0 ef0 x0 a1 = some true := Pure.HeaderResult ea0 eb0 ec0 ed0 ee0 ef0 x0 a1 (by omega) w1
  refine (P.decklelaw15_HeaderResult.calls k ea0 eb0 ec0 ed0 ee0 ef0 A0 cap0 x0 a1 true W hr0 hc0 hk).mono fun e W' ⟨he, bel⟩ => ?_
  subst he
  exact ⟨_, rfl, _, _, _, [], _, [], hW', trodAll_mk1 (shut_bool Try.underlying4 _), (trodAll_cons_mk (Below.trod Rk.laidOut (by kernel_rfl) (of_decide_eq_true (by kernel_rfl)) k0 bel lt0) (trodAll_cons_mk (shut_string Try.underlying9 y1) trodAll_mk0)), rfl, bel.frame _, fun h => by cases h⟩
theorem over : Rows.headerResultRow.holds Try.pinned (OpenSpec.ofChange Rows.headerResultSpec) :=
  OpenClaim.holds_of_wide 12 Try.f12 rfl rfl rfl rfl rfl rfl rfl ⟨rfl, rfl, rfl, rfl, rfl⟩ rfl rfl rfl rfl rfl (by kernel_rfl) Try.func12 (by kernel_rfl)
    (of_decide_eq_true (by kernel_rfl)) (by unfold Func.isWrapper; first | (rw [if_pos (by decide +kernel)]; kernel_rfl) | (rw [if_neg (by decide +kernel)]; exact ⟨rfl, rfl⟩))
    (fun os started H enc _ => lifted os started H enc)
theorem proved : Rows.HeaderResultSaid := over
#print axioms proved
end Go.Proofs.Ytmddkjmcbddhiaa.headerResult
namespace Go.Proofs.Ytmddkjmcbddhiaa
/-- The row, under a short name, for the claim. -/
theorem headerResult_holds : Rows.HeaderResultSaid := headerResult.proved
end Go.Proofs.Ytmddkjmcbddhiaa
end
