/-
  Proved: a right header is read of its text as it was, and another one has none. Condition: the locals' number is one that a slice can have.
  Proved: the Go function deckle/decklelaw15.HeaderBack answers true at every input; each argument reads afterwards as it read before. Conditions: none but the form's own.
-/
import Derived.Test.YtmddkjmcbddhiaaP19
import Derived.Test.YtmddkjmcbddhiaaFx
import Derived.Test.YtmddkjmcbddhiaaRows
import Derived.Test.YtmddkjmcbddhiaaRk2
import Derived.WalkKit
import Derived.ProofKit
import Derived.OpenShut
import Derived.ShutString
import Derived.ChangeOld
import Derived.Below
import Derived.SizedLaws
import Derived.Test.YtmddkjmcbddhiaaWSized
section
namespace Go.Proofs.Ytmddkjmcbddhiaa.Pure
open Go.RowKit Go.Proofs.Ytmddkjmcbddhiaa.P Go.Proofs.YtmddkjmcbddhiaaW.PrintWords Go.Proofs.YtmddkjmcbddhiaaW.PrintLast Go.Proofs.Ytmddkjmcbddhiaa.Sp
set_option linter.unusedVariables false
set_option linter.unusedSimpArgs false

theorem reads_nil : reads (⟨#[]⟩ : ByteArray) = false := by
  cases h : reads (⟨#[]⟩ : ByteArray) with
  | false => rfl
  | true => exact absurd rfl (reads_iff.1 h).2.1
theorem HeaderBack (a b c d e f : ByteArray) (l : List ByteArray) (hl : l.length ≤ 4611686018427387904) : ∃ k, decklelaw15_HeaderBack.f k a b c d e f l = some true := by
  obtain ⟨r, ⟨K1, h1⟩, h2⟩ := few_ev a b c d e f l hl
  cases r with
  | false =>
    have e1 : decklelaw15_Few.f K1 a b c d e f l = some false := h1 K1 (Nat.le_refl _)
    exact ⟨K1, by unfold decklelaw15_HeaderBack.f; simp only [decklelaw15_small.f, Option.bind_some, e1]; rfl⟩
  | true =>
    have hw := h2 rfl
    have hz := hw.sized
    have hls := hw.lsum_le
    obtain ⟨K2, h3⟩ := header_Right_ev a b c d e f l hz
    obtain ⟨K3, h4⟩ := same_self a b c d e f l (by have := hw.n; omega)
    have e1 : decklelaw15_Few.f (K1 + K2 + K3) a b c d e f l = some true := h1 _ (by omega)
    have e2 : header_Right.f (K1 + K2 + K3) a b c d e f l = some _ := h3 _ (by omega)
    have e3 : deckleref15_Same.f (K1 + K2 + K3) a b c d e f l a b c d e f l = some true := h4 _ (by omega)
    obtain ⟨R, hR⟩ : ∃ R : Raw, R = ⟨nilS, a, b, c, d, e, f, l⟩ := ⟨_, rfl⟩
    have e4 : header_Text.f a b c d e f l = some (if R.ok = true then ⟨R.text.toArray⟩ else ⟨#[]⟩) := by rw [hR]; exact header_Text_f hz
    have e5 : header_Right.f (K1 + K2 + K3) a b c d e f l = some R.ok := by rw [hR]; exact e2
    refine ⟨K1 + K2 + K3, ?_⟩
    unfold decklelaw15_HeaderBack.f
    simp only [decklelaw15_small.f, Option.bind_some, e1, if_true, e4, e5]
    cases hok : R.ok with
    | false =>
      have hn : (⟨#[]⟩ : ByteArray).toList = [] := ByteArray.toList_eq _
      rw [if_neg (by simp), header_Parse_f _ (by decide), reads_nil, hn]
      rfl
    | true =>
      rw [if_pos rfl]
      obtain ⟨s, hsd⟩ : ∃ s : ByteArray, s = ⟨R.text.toArray⟩ := ⟨_, rfl⟩
      have hs : s.data.toList = R.text := by rw [hsd]
      have hsz : s.size ≤ 1099511627776 := by
        rw [← length_data, hs]
        have h5 := Raw.text_len (R := R) (n := 3700) (by rw [hR]; show a.size + b.size + c.size + d.size + e.size + f.size + lsum l ≤ _; have := hw.a; have := hw.b; have := hw.c; have := hw.d; have := hw.e; have := hw.f; omega)
        omega
      have hne : ¬ s.toList = [] := by rw [ByteArray.toList_eq, hs]; exact text_ne hok
      rw [← hsd, header_Parse_f s hsz, reads_text hok hs, st0_text hok hs]
      have hb : (s.toList != ([] : List UInt8)) = true := bne_iff_ne.2 hne
      simp only [Option.bind_some, if_true, hb, beq_self_eq_true]
      rw [hR]
      simp only [e3, Option.bind_some]
end Go.Proofs.Ytmddkjmcbddhiaa.Pure
end
section
namespace Go.Proofs.Ytmddkjmcbddhiaa.headerBack
open Go.ChangeShapes Go.WideShapes Go.ChangeAt Go.RowKit Go.Proofs.YtmddkjmcbddhiaaW.PrintWords
open Go.ChangeMaps (open_string shut_string)
set_option linter.unusedVariables false
set_option linter.unusedSimpArgs false
theorem own : ownKnob Try.prog.godebug = none := by kernel_rfl
set_option maxRecDepth 100000 in
set_option maxHeartbeats 1000000 in
theorem lifted (os : Os) (started : os.Started) (H : Type) (enc : TypeId × Value → H) :
    ReturnsInHanded {} Try.checked os 9 .any (Rows.headerBackSpec.pre6 enc Try.prog Try.f9 Rows.headerBackRow.domain false) (Rows.headerBackSpec.post enc Try.prog Try.f9 false true false false) := by
  refine returnsInHanded_of_change_sized (C := Try.checked) own started (by kernel_rfl) Try.func9
    (ChangeSpec.witness6 (enc := enc) (C := Try.checked) false ⟨#[], #[.agg #[.string ByteArray.empty, .string ByteArray.empty, .string ByteArray.empty, .string ByteArray.empty, .string ByteArray.empty, .string ByteArray.empty, .slice none 0 0]], []⟩ 12 (by kernel_rfl) (by kernel_rfl) (by kernel_rfl) (by kernel_rfl)) ?_
  intro W base args ds gs before hval0 hW hcnd hsz0 _
  have hsz : (DataW.weightsEach Try.prog (Try.f9.params.toList ++ Rows.headerBackSpec.plain.varTypes Try.prog) (ds ++ gs)).all (· ≤ reachBytes) = true := hsz0
  have hval : ∀ (j : Nat) t v, Try.f9.params[j]? = some t → args[j]? = some v → Value.okWide Try.prog W .any base t v := hval0
  have hW' := hW
  obtain ⟨p, q, hA0, hV, rfl, hfz, hnd⟩ := hW
  have hA : DataW.TrodAll enc Try.prog W 0 (fun _ => true) true Try.f9.params.toList args.toList ds p := hA0
  rw [Try.params9] at hA hval hsz
  obtain ⟨v0, vs0, d0, ds0, p0, q0, hargs, rfl, rfl, h0, r0⟩ := trodAll_cons hA
  obtain ⟨rfl, rfl, rfl⟩ := trodAll_nil r0
  obtain rfl : args = #[v0] := by cases args; simp_all
  obtain ⟨rfl, rfl⟩ := trodVars_none hV
  have k0 := h0
  have lt0 : ∀ x ∈ p0, x.block < W.heap.size := by obtain ⟨m, hm⟩ := k0; exact DataW.trod_lt m _ _ _ hm
  obtain ⟨ea0, eb0, ec0, ed0, ee0, ef0, A0, cap0, x0, rfl, hr0, hc0, ⟨wa0, wb0, wc0, wd0, we0, wf0⟩, hl0, hb0⟩ := Rk.open_hdr hsz (j := 0) rfl rfl (hval 0 35 v0 rfl rfl) h0
  clear hA0 hval0 hsz0 hsz
  obtain ⟨k, hk⟩ : ∃ k, P.decklelaw15_HeaderBack.f k ea0 eb0 ec0 ed0 ee0 ef0 x0 = some true := Pure.HeaderBack ea0 eb0 ec0 ed0 ee0 ef0 x0 (by omega)
  refine (P.decklelaw15_HeaderBack.calls k ea0 eb0 ec0 ed0 ee0 ef0 A0 cap0 x0 true W hr0 hc0 hk).mono fun e W' ⟨he, bel⟩ => ?_
  subst he
  exact ⟨_, rfl, _, _, _, [], _, [], hW', trodAll_mk1 (shut_bool Try.underlying4 _), (trodAll_cons_mk (Below.trod Rk.laidOut (by kernel_rfl) (of_decide_eq_true (by kernel_rfl)) k0 bel lt0) trodAll_mk0), rfl, bel.frame _, fun h => by cases h⟩
theorem over : Rows.headerBackRow.holds Try.pinned (OpenSpec.ofChange Rows.headerBackSpec) :=
  OpenClaim.holds_of_wide 9 Try.f9 rfl rfl rfl rfl rfl rfl rfl ⟨rfl, rfl, rfl, rfl, rfl⟩ rfl rfl rfl rfl rfl (by kernel_rfl) Try.func9 (by kernel_rfl)
    (of_decide_eq_true (by kernel_rfl)) (by unfold Func.isWrapper; first | (rw [if_pos (by decide +kernel)]; kernel_rfl) | (rw [if_neg (by decide +kernel)]; exact ⟨rfl, rfl⟩))
    (fun os started H enc _ => lifted os started H enc)
theorem proved : Rows.HeaderBackSaid := over
#print axioms proved
end Go.Proofs.Ytmddkjmcbddhiaa.headerBack
namespace Go.Proofs.Ytmddkjmcbddhiaa
/-- The row, under a short name, for the claim. -/
theorem headerBack_holds : Rows.HeaderBackSaid := headerBack.proved
end Go.Proofs.Ytmddkjmcbddhiaa
end
