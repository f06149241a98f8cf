/-
  Proved: which headers are right, their texts, and texts that are read, are as the reference tells. Condition: the locals' number is one that a slice can have.
  Proved: the Go function deckle/decklelaw15.HeaderTells answers true at every input; each argument reads afterwards as it read before. Conditions: none but the form's own.
-/
import Derived.Test.YtmddkjmcbddhiaaP18
import Derived.Test.YtmddkjmcbddhiaaPc
import Derived.Test.YtmddkjmcbddhiaaRows
import Derived.Test.YtmddkjmcbddhiaaRk2
import Derived.WalkKit
import Derived.ProofKit
import Derived.OpenShut
import Derived.ShutString
import Derived.ChangeOld
import Derived.Below
import Derived.SizedLaws
import Derived.Test.YtmddkjmcbddhiaaWSized
section
namespace Go.Proofs.Ytmddkjmcbddhiaa.Pure
open Go.RowKit Go.Proofs.Ytmddkjmcbddhiaa.P Go.Proofs.YtmddkjmcbddhiaaW.PrintWords Go.Proofs.YtmddkjmcbddhiaaW.PrintLast Go.Proofs.Ytmddkjmcbddhiaa.Sp
set_option linter.unusedVariables false
set_option linter.unusedSimpArgs false

theorem guess_ok {s : ByteArray} (R : Raw) (h1 : R.ok = true) (h2 : s.data.toList = R.text) : (guessP s).ok = true ∧ (guessP s).text = s.data.toList := by
  rw [guess_text h1 h2]
  exact ⟨h1, h2.symm⟩
theorem HeaderTells (a b c d e f : ByteArray) (l : List ByteArray) (s : ByteArray) (hl : l.length ≤ 4611686018427387904) (hss : s.size ≤ 140737488351232) : ∃ k, decklelaw15_HeaderTells.f k a b c d e f l s = some true := by
  have yes : ∀ k, decklelaw15_HeaderTells.j0 (k + 1) s true true a b c d e f l = some true := fun k => by rw [decklelaw15_HeaderTells.j0, if_pos rfl]
  obtain ⟨r, ⟨K1, h1⟩, h2⟩ := few_ev a b c d e f l hl
  cases r with
  | false =>
    have e1 : decklelaw15_Few.f (K1 + 1) a b c d e f l = some false := h1 _ (by omega)
    exact ⟨K1 + 1, by unfold decklelaw15_HeaderTells.f; simp only [decklelaw15_small.f, Option.bind_some, e1, Bool.false_eq_true, if_false]; exact yes K1⟩
  | true =>
    have hw := h2 rfl
    have hz := hw.sized
    by_cases hs : (s.size : Int) > 300
    · have e1 : decklelaw15_Few.f (K1 + 1) a b c d e f l = some true := h1 _ (by omega)
      exact ⟨K1 + 1, by unfold decklelaw15_HeaderTells.f; simp only [decklelaw15_small.f, Option.bind_some, e1, if_true, decide_eq_true hs]; exact yes K1⟩
    · obtain ⟨K2, h3⟩ := header_Right_ev a b c d e f l hz
      obtain ⟨K3, h4⟩ := ref_HRight a b c d e f l hz
      obtain ⟨rt, ⟨K4, h5⟩, h6⟩ := ref_HText a b c d e f l hz
      have e6 := header_Text_f hz
      have hp := header_Parse_f s (by omega)
      -- what the reference reads
      have hpar : ∃ K, (∀ k, K ≤ k → deckleref15_Parse.f k s = some (if reads s = true then ((st0 s).a, (st0 s).b, (st0 s).c, (st0 s).d, (st0 s).e, (st0 s).f, (st0 s).ls, true) else (nilS, nilS, nilS, nilS, nilS, nilS, [], false))) := by
        have hg : deckleref15_guess.f s = some ((guessP s).a, (guessP s).b, (guessP s).c, (guessP s).d, (guessP s).e, (guessP s).f, (guessP s).ls) := by
          unfold deckleref15_guess.f
          rw [if_pos (by omega)]
        have hgz : HSized (guessP s).a (guessP s).b (guessP s).c (guessP s).d (guessP s).e (guessP s).f (guessP s).ls := guess_sized s (by omega)
        obtain ⟨gt, ⟨K, k1⟩, k2⟩ := ref_HText _ _ _ _ _ _ _ hgz
        refine ⟨K, fun k hk => ?_⟩
        have e7 : deckleref15_Text.f k (guessP s).a (guessP s).b (guessP s).c (guessP s).d (guessP s).e (guessP s).f (guessP s).ls = some gt := k1 k hk
        unfold deckleref15_Parse.f
        rw [hg]
        simp only [Option.bind_some, e7, ByteArray.toList_eq]
        by_cases hn : s.data.toList = []
        · have hr : reads s = false := by
            cases h : reads s with
            | false => rfl
            | true => exact absurd hn (reads_iff.1 h).2.1
          rw [if_pos hn, hr]
          rfl
        · rw [if_neg hn]
          have k3 : gt.data.toList = if (guessP s).ok = true then (guessP s).text else [] := k2
          by_cases ht : gt.data.toList = s.data.toList
          · rw [if_pos ht]
            rw [ht] at k3
            cases hok : (guessP s).ok with
            | false => rw [hok] at k3; exact absurd k3 hn
            | true =>
              rw [hok, if_pos rfl] at k3
              have r1 := st0_text hok k3
              have r2 := reads_text hok k3
              rw [r2, if_pos rfl, r1]
          · rw [if_neg ht]
            have hr : reads s = false := by
              cases h : reads s with
              | false => rfl
              | true =>
                obtain ⟨q1, q2, q3, q4⟩ := reads_iff.1 h
                obtain ⟨r3, r4⟩ := guess_ok (st0 s) q3 q4.symm
                rw [r3, if_pos rfl, r4] at k3
                exact absurd k3 ht
            rw [hr]
            rfl
      obtain ⟨K5, h7⟩ := hpar
      have hzz := (st0_size s).sized (by omega)
      obtain ⟨K6, h8⟩ := same_self (st0 s).a (st0 s).b (st0 s).c (st0 s).d (st0 s).e (st0 s).f (st0 s).ls (by have h1 := lsum_length (st0 s).ls; have h2 := (st0_size s).ls; omega)
      obtain ⟨K7, h9⟩ := same_self nilS nilS nilS nilS nilS nilS [] (by simp)
      refine ⟨K1 + K2 + K3 + K4 + K5 + K6 + K7 + 1, ?_⟩
      have e1 : decklelaw15_Few.f (K1 + K2 + K3 + K4 + K5 + K6 + K7 + 1) a b c d e f l = some true := h1 _ (by omega)
      have e2 : header_Right.f (K1 + K2 + K3 + K4 + K5 + K6 + K7) a b c d e f l = some _ := h3 _ (by omega)
      have e3 : deckleref15_Right.f (K1 + K2 + K3 + K4 + K5 + K6 + K7) a b c d e f l = some _ := h4 _ (by omega)
      have e4 : deckleref15_Text.f (K1 + K2 + K3 + K4 + K5 + K6 + K7) a b c d e f l = some rt := h5 _ (by omega)
      have e5 := h7 (K1 + K2 + K3 + K4 + K5 + K6 + K7) (by omega)
      have e8 : deckleref15_Same.f (K1 + K2 + K3 + K4 + K5 + K6 + K7) (st0 s).a (st0 s).b (st0 s).c (st0 s).d (st0 s).e (st0 s).f (st0 s).ls (st0 s).a (st0 s).b (st0 s).c (st0 s).d (st0 s).e (st0 s).f (st0 s).ls = some true := h8 _ (by omega)
      have e9 : deckleref15_Same.f (K1 + K2 + K3 + K4 + K5 + K6 + K7) nilS nilS nilS nilS nilS nilS [] nilS nilS nilS nilS nilS nilS [] = some true := h9 _ (by omega)
      unfold decklelaw15_HeaderTells.f
      simp only [decklelaw15_small.f, Option.bind_some, e1, if_true, decide_eq_false hs]
      rw [decklelaw15_HeaderTells.j0, if_neg (by simp), hp, e5]
      simp only [Option.bind_some, if_true, e2, e3, e6, e4, beq_self_eq_true, ByteArray.toList_eq, h6]
      rw [if_pos (by split <;> rfl)]
      cases hr : reads s with
      | false => simp only [Bool.false_eq_true, if_false, e9, Option.bind_some, if_true, beq_self_eq_true]
      | true => simp only [if_true, e8, Option.bind_some, beq_self_eq_true]
end Go.Proofs.Ytmddkjmcbddhiaa.Pure
end
section
namespace Go.Proofs.Ytmddkjmcbddhiaa.headerTells
open Go.ChangeShapes Go.WideShapes Go.ChangeAt Go.RowKit Go.Proofs.YtmddkjmcbddhiaaW.PrintWords
open Go.ChangeMaps (open_string shut_string)
set_option linter.unusedVariables false
set_option linter.unusedSimpArgs false
theorem own : ownKnob Try.prog.godebug = none := by kernel_rfl
set_option maxRecDepth 100000 in
set_option maxHeartbeats 1000000 in
theorem lifted (os : Os) (started : os.Started) (H : Type) (enc : TypeId × Value → H) :
    ReturnsInHanded {} Try.checked os 8 .any (Rows.headerTellsSpec.pre6 enc Try.prog Try.f8 Rows.headerTellsRow.domain false) (Rows.headerTellsSpec.post enc Try.prog Try.f8 false true false false) := by
  refine returnsInHanded_of_change_sized (C := Try.checked) own started (by kernel_rfl) Try.func8
    (ChangeSpec.witness6 (enc := enc) (C := Try.checked) false ⟨#[], #[.agg #[.string ByteArray.empty, .string ByteArray.empty, .string ByteArray.empty, .string ByteArray.empty, .string ByteArray.empty, .string ByteArray.empty, .slice none 0 0], .string ByteArray.empty], []⟩ 12 (by kernel_rfl) (by kernel_rfl) (by kernel_rfl) (by kernel_rfl)) ?_
  intro W base args ds gs before hval0 hW hcnd hsz0 _
  have hsz : (DataW.weightsEach Try.prog (Try.f8.params.toList ++ Rows.headerTellsSpec.plain.varTypes Try.prog) (ds ++ gs)).all (· ≤ reachBytes) = true := hsz0
  have hval : ∀ (j : Nat) t v, Try.f8.params[j]? = some t → args[j]? = some v → Value.okWide Try.prog W .any base t v := hval0
  have hW' := hW
  obtain ⟨p, q, hA0, hV, rfl, hfz, hnd⟩ := hW
  have hA : DataW.TrodAll enc Try.prog W 0 (fun _ => true) true Try.f8.params.toList args.toList ds p := hA0
  rw [Try.params8] at hA hval hsz
  obtain ⟨v0, vs0, d0, ds0, p0, q0, hargs, rfl, rfl, h0, r0⟩ := trodAll_cons hA
  obtain ⟨v1, vs1, d1, ds1, p1, q1, rfl, rfl, rfl, h1, r1⟩ := trodAll_cons r0
  obtain ⟨rfl, rfl, rfl⟩ := trodAll_nil r1
  obtain rfl : args = #[v0, v1] := by cases args; simp_all
  obtain ⟨rfl, rfl⟩ := trodVars_none hV
  have k0 := h0
  have lt0 : ∀ x ∈ p0, x.block < W.heap.size := by obtain ⟨m, hm⟩ := k0; exact DataW.trod_lt m _ _ _ hm
  obtain ⟨ea0, eb0, ec0, ed0, ee0, ef0, A0, cap0, x0, rfl, hr0, hc0, ⟨wa0, wb0, wc0, wd0, we0, wf0⟩, hl0, hb0⟩ := Rk.open_hdr hsz (j := 0) rfl rfl (hval 0 35 v0 rfl rfl) h0
  obtain ⟨a1, rfl, rfl, rfl, y1⟩ := open_string Try.underlying9 (hval 1 9 v1 rfl rfl) h1
  have w1 : a1.size ≤ 140737488351232 := by
    have z := sized_string hsz (j := 1) (t := 9) rfl rfl
    rw [Array.length_toList] at z
    exact z
  clear hA0 hval0 hsz0 hsz
  obtain ⟨k, hk⟩ : ∃ k, P.decklelaw15_HeaderTells.f k ea0 eb0 ec0 ed0 ee0 ef0 x0 a1 = some true := Pure.HeaderTells ea0 eb0 ec0 ed0 ee0 ef0 x0 a1 (by omega) w1
  refine (P.decklelaw15_HeaderTells.calls k ea0 eb0 ec0 ed0 ee0 ef0 A0 cap0 x0 a1 true W hr0 hc0 hk).mono fun e W' ⟨he, bel⟩ => ?_
  subst he
  exact ⟨_, rfl, _, _, _, [], _, [], hW', trodAll_mk1 (shut_bool Try.underlying4 _), (trodAll_cons_mk (Below.trod Rk.laidOut (by kernel_rfl) (of_decide_eq_true (by kernel_rfl)) k0 bel lt0) (trodAll_cons_mk (shut_string Try.underlying9 y1) trodAll_mk0)), rfl, bel.frame _, fun h => by cases h⟩
theorem over : Rows.headerTellsRow.holds Try.pinned (OpenSpec.ofChange Rows.headerTellsSpec) :=
  OpenClaim.holds_of_wide 8 Try.f8 rfl rfl rfl rfl rfl rfl rfl ⟨rfl, rfl, rfl, rfl, rfl⟩ rfl rfl rfl rfl rfl (by kernel_rfl) Try.func8 (by kernel_rfl)
    (of_decide_eq_true (by kernel_rfl)) (by unfold Func.isWrapper; first | (rw [if_pos (by decide +kernel)]; kernel_rfl) | (rw [if_neg (by decide +kernel)]; exact ⟨rfl, rfl⟩))
    (fun os started H enc _ => lifted os started H enc)
theorem proved : Rows.HeaderTellsSaid := over
#print axioms proved
end Go.Proofs.Ytmddkjmcbddhiaa.headerTells
namespace Go.Proofs.Ytmddkjmcbddhiaa
/-- The row, under a short name, for the claim. -/
theorem headerTells_holds : Rows.HeaderTellsSaid := headerTells.proved
end Go.Proofs.Ytmddkjmcbddhiaa
end
