/-
  Proved: the text of a header alone is a function's where the header is right, with its name and no label. Condition: the header's bulk.
  Proved: the Go function deckle/decklelaw16.FunctionHead answers true at every input of bulk at most 1048576; the argument reads afterwards as it read before. Conditions: the second form's bound, and the form's own.
-/
import Derived.Test.YtmddkjmcbddhiaaDoorFhM
import Derived.Test.YtmddkjmcbddhiaaDoorFwM
import Derived.Test.YtmddkjmcbddhiaaDoorP46M
import Derived.Test.YtmddkjmcbddhiaaDoorCards
import Derived.Test.YtmddkjmcbddhiaaDoorRk3M
import Derived.Test.YtmddkjmcbddhiaaDoorRk4M
import Derived.WalkKit
import Derived.ProofKit
import Derived.OpenShut
import Derived.ShutString
import Derived.ChangeOld
import Derived.Below
import Derived.SizedLaws
import Derived.Deep.DeepHandedRow
import Derived.Deep.DeepWitnessRowRef
import Derived.Lib.LaidIn
import Derived.Test.YtmddkjmcbddhiaaDoorWSized
section
namespace Go.Proofs.YtmddkjmcbddhiaaDoor.Pure
open Go.RowKit Go.Proofs.YtmddkjmcbddhiaaDoor.P Go.Proofs.YtmddkjmcbddhiaaDoorW.PrintWords Go.Proofs.YtmddkjmcbddhiaaDoor.Sp
set_option linter.unusedVariables false
set_option linter.unusedSimpArgs false

theorem FunctionHead (a b c d e f : ByteArray) (l : List ByteArray) (hl : l.length ≤ 4611686018427387904) (hz : HSized a b c d e f l) : ∃ k, decklelaw16_FunctionHead.f k a b c d e f l = some true := by
  obtain ⟨R, hR⟩ : ∃ R : Raw, R = ⟨nilS, a, b, c, d, e, f, l⟩ := ⟨_, rfl⟩
  obtain ⟨T, hT⟩ : ∃ T : ByteArray, T = if R.ok = true then ⟨R.text.toArray⟩ else ⟨#[]⟩ := ⟨_, rfl⟩
  have ht : header_Text.f a b c d e f l = some T := by
    rw [hT, hR]
    exact Raw.text_f (R := ⟨nilS, a, b, c, d, e, f, l⟩) hz
  have yes : ∀ k, decklelaw16_FunctionHead.j0 (k + 1) true T true a b c d e f l = some true := fun k => by rw [decklelaw16_FunctionHead.j0, if_pos rfl]
  obtain ⟨r, ⟨K1, h1⟩, h2⟩ := few_ev a b c d e f l hl
  have e1 : decklelaw15_Few.f (K1 + 1) a b c d e f l = some r := h1 _ (by omega)
  cases r with
  | false => exact ⟨K1 + 1, by unfold decklelaw16_FunctionHead.f; rw [decklelaw16_small.f, Option.bind_some, e1, Option.bind_some, ht, Option.bind_some, if_neg (by simp)]; exact yes K1⟩
  | true =>
    by_cases h3 : (T.size : Int) > 1000
    · exact ⟨K1 + 1, by unfold decklelaw16_FunctionHead.f; rw [decklelaw16_small.f, Option.bind_some, e1, Option.bind_some, ht, Option.bind_some, if_pos rfl, decide_eq_true h3]; exact yes K1⟩
    · have hTz : T.size ≤ 1000 := by omega
      have hs : ∀ x ∈ [T], x.size ≤ 1099511627776 := fun x hx => by rw [List.mem_singleton.1 hx]; omega
      have hlen : ([T] : List ByteArray).length ≤ 1099511627776 := by simp
      obtain ⟨K2, h4⟩ := header_Right_ev a b c d e f l hz
      obtain ⟨K3, h5⟩ := right_ev [T] hlen hs
      obtain ⟨K4, h6⟩ := name_ev [T] hlen hs
      obtain ⟨K5, h7⟩ := labels_ev [T] hlen
      obtain ⟨M, hM⟩ : ∃ M, M = K1 + K2 + K3 + K4 + K5 := ⟨_, rfl⟩
      have f1 : decklelaw15_Few.f (M + 1) a b c d e f l = some true := h1 _ (by omega)
      have f2 : header_Right.f M a b c d e f l = some (hdrOk a.data.toList b.data.toList c.data.toList d.data.toList e.data.toList f.data.toList (bys l)) := h4 M (by omega)
      have f3 : function_Right.f M [T] = some (rightF [T]) := h5 M (by omega)
      have f4 : function_Name.f M [T] = some (nameF [T]) := h6 M (by omega)
      have f5 : function_Labels.f M [T] = some (labs [T]) := h7 M (by omega)
      have hok : hdrOk a.data.toList b.data.toList c.data.toList d.data.toList e.data.toList f.data.toList (bys l) = R.ok := by rw [hR]; rfl
      rw [hok] at f2
      have hlab : labs [T] = [] := rfl
      have hcR : R.c = c := by rw [hR]
      refine ⟨M + 1, ?_⟩
      unfold decklelaw16_FunctionHead.f
      rw [decklelaw16_small.f, Option.bind_some, f1, Option.bind_some, ht, Option.bind_some, if_pos rfl, decide_eq_false h3, decklelaw16_FunctionHead.j0, if_neg (by simp), Option.bind_some, f2, Option.bind_some, if_pos rfl, f3, Option.bind_some]
      cases hk : R.ok with
      | true =>
        rw [hk, if_pos rfl] at hT
        obtain ⟨g1, g2⟩ := rightF_head hk (show T.data.toList = R.text by rw [hT]) hTz
        rw [g1, if_pos (by simp), if_pos rfl, f4, Option.bind_some, g2, hcR, if_pos rfl, f5, Option.bind_some, hlab]
        rfl
      | false =>
        rw [hk, if_neg (by simp)] at hT
        have g1 : rightF [T] = false := by rw [hT]; exact rightF_nil
        rw [g1, if_pos (by simp), if_neg (by simp), f5, Option.bind_some, hlab]
        rfl
end Go.Proofs.YtmddkjmcbddhiaaDoor.Pure
end
section
namespace Go.Proofs.YtmddkjmcbddhiaaDoor.functionHead
open Go.ChangeShapes Go.WideShapes Go.ChangeAt Go.RowKit Go.Proofs.YtmddkjmcbddhiaaDoorW.PrintWords
open Go.ChangeMaps (open_string shut_string)
set_option linter.unusedVariables false
set_option linter.unusedSimpArgs false
theorem own : ownKnob Tryd.prog.godebug = none := by kernel_rfl
theorem laid_met (os : Os) : laidMet Tryd.prog Rows.functionHeadUptoRow.laid ((Rk3.laidWorld os).forCall (fun _ _ => 0) ⟨#[], #[.agg #[.string ByteArray.empty, .string ByteArray.empty, .string ByteArray.empty, .string ByteArray.empty, .string ByteArray.empty, .string ByteArray.empty, .slice none 0 0]], []⟩).memory :=
  (LaidIn.of_run (l := [("unicode/utf8.acceptRanges", Rows.laid_unicode_utf8_acceptRanges), ("unicode/utf8.first", Rows.laid_unicode_utf8_first)]) [1, 0] 8 (by kernel_rfl) (by kernel_rfl) (by kernel_rfl) (by kernel_rfl)).met
theorem witness_row (os : Os) {H : Type} (enc : TypeId × Value → H) :
    (Rows.OpenSpec.upto Rows.functionHeadSpec).preRow enc Tryd.prog Tryd.f12 Rows.functionHeadUptoRow.domain false Rows.functionHeadUptoRow.laid ((Rk3.laidWorld os).forCall (fun _ _ => 0) ⟨#[], #[.agg #[.string ByteArray.empty, .string ByteArray.empty, .string ByteArray.empty, .string ByteArray.empty, .string ByteArray.empty, .string ByteArray.empty, .slice none 0 0]], []⟩).memory #[.agg #[.string ByteArray.empty, .string ByteArray.empty, .string ByteArray.empty, .string ByteArray.empty, .string ByteArray.empty, .string ByteArray.empty, .slice none 0 0]] := by
  have hw : (DataW.whole enc Tryd.prog ((Rk3.laidWorld os).forCall (fun _ _ => 0) ⟨#[], #[.agg #[.string ByteArray.empty, .string ByteArray.empty, .string ByteArray.empty, .string ByteArray.empty, .string ByteArray.empty, .string ByteArray.empty, .slice none 0 0]], []⟩).memory Tryd.f12.params.toList (Rows.OpenSpec.upto Rows.functionHeadSpec).vars false #[.agg #[.string ByteArray.empty, .string ByteArray.empty, .string ByteArray.empty, .string ByteArray.empty, .string ByteArray.empty, .string ByteArray.empty, .slice none 0 0]].toList 8).map (fun x => (x.1, x.2.1)) = some ([.agg [.lit (.string []), .lit (.string []), .lit (.string []), .lit (.string []), .lit (.string []), .lit (.string []), .nil]], []) := by kernel_rfl
  obtain ⟨⟨x1, x2, x3⟩, hx, hx1⟩ := Option.map_eq_some_iff.1 hw
  simp only [Prod.mk.injEq] at hx1
  obtain ⟨rfl, rfl⟩ := hx1
  exact OpenSpec.preRow_of_cond 8 hx (by kernel_rfl) (fun k hk => by cases hk; kernel_rfl) (by kernel_rfl) (laid_met os)
set_option maxRecDepth 100000 in
set_option maxHeartbeats 2000000 in
theorem lifted (os : Os) (started : os.Started) (H : Type) (enc : TypeId × Value → H) (FF : Stop.Interp) :
    ReturnsInHanded {} Tryd.checked os 12 .any ((Rows.OpenSpec.upto Rows.functionHeadSpec).preRow enc Tryd.prog Tryd.f12 Rows.functionHeadUptoRow.domain false Rows.functionHeadUptoRow.laid) (((Rows.OpenSpec.upto Rows.functionHeadSpec).at FF).post enc Tryd.prog Tryd.f12 false true false false) := by
  refine returnsInHanded_of_row (C := Tryd.checked) (s := (Rows.OpenSpec.upto Rows.functionHeadSpec)) own started (by kernel_rfl) Tryd.func12
    (witness_row_atRef (enc := enc) (C := Tryd.checked) false (Rk3.laidWorld os) #[.agg #[.string ByteArray.empty, .string ByteArray.empty, .string ByteArray.empty, .string ByteArray.empty, .string ByteArray.empty, .string ByteArray.empty, .slice none 0 0]] rfl (by kernel_rfl) (by kernel_rfl) (by kernel_rfl) (witness_row os enc)) ?_
  intro W base args ds gs before hval0 hW _ hcond hsz0 hL hsh _
  have hE : P.Env W := Rk3.env_of hL hsh
  have hsz : (DataW.weightsEach Tryd.prog (Tryd.f12.params.toList ++ (Rows.OpenSpec.upto Rows.functionHeadSpec).bare.plain.varTypes Tryd.prog) (ds ++ gs)).all (· ≤ reachBytes) = true := hsz0
  have hval : ∀ (j : Nat) t v, Tryd.f12.params[j]? = some t → args[j]? = some v → Value.okWide Tryd.prog W .any base t v := hval0
  have hW' := hW
  obtain ⟨p, q, hA0, hV, rfl, hfz, hnd⟩ := hW
  have hA : DataW.TrodAll enc Tryd.prog W 0 (fun _ => true) true Tryd.f12.params.toList args.toList ds p := hA0
  rw [Tryd.params12] at hA hval hsz
  obtain ⟨v0, vs0, d0, ds0, p0, q0, hargs, rfl, rfl, h0, r0⟩ := trodAll_cons hA
  obtain ⟨rfl, rfl, rfl⟩ := trodAll_nil r0
  obtain rfl : args = #[v0] := by cases args; simp_all
  obtain ⟨rfl, rfl⟩ := trodVars_none hV
  have hbk : Rows.uptoBulk d0 ≤ 1048576 := by
    have h := of_decide_eq_true (hcond _ rfl)
    simp only [List.cons_append, List.nil_append, List.append_nil, Rows.uptoBulkAll] at h
    omega
  have k0 := h0
  have lt0 : ∀ x ∈ p0, x.block < W.heap.size := by obtain ⟨m, hm⟩ := k0; exact DataW.trod_lt m _ _ _ hm
  obtain ⟨ea0, eb0, ec0, ed0, ee0, ef0, A0, cap0, x0, rfl, hr0, hc0, ⟨wa0, wb0, wc0, wd0, we0, wf0⟩, hl0, hb0, hbk0⟩ := Rk.open_hdrB hsz (j := 0) rfl rfl hbk (hval 0 42 v0 rfl rfl) h0
  clear hA0 hval0 hsz0 hsz
  obtain ⟨k, hk⟩ : ∃ k, P.decklelaw16_FunctionHead.f k ea0 eb0 ec0 ed0 ee0 ef0 x0 = some true := Pure.FunctionHead ea0 eb0 ec0 ed0 ee0 ef0 x0 (by omega) ⟨by have q : P.lsum x0 = (x0.map fun s => s.size + 1).sum := rfl; omega, by omega⟩
  refine (P.decklelaw16_FunctionHead.calls k ea0 eb0 ec0 ed0 ee0 ef0 A0 cap0 x0 true W hr0 hc0 hE hk).mono fun e W' ⟨he, bel⟩ => ?_
  subst he
  exact ⟨_, rfl, _, _, _, [], _, [], hW', trodAll_mk1 (shut_bool Tryd.underlying4 _), (trodAll_cons_mk (Below.trod Rk3.laidOut (by kernel_rfl) (of_decide_eq_true (by kernel_rfl)) k0 bel lt0) trodAll_mk0), rfl, bel.frame _, fun h => by cases h⟩
theorem said : Rows.FunctionHeadUptoSaid :=
  OpenClaim.holds_of_cond 12 Tryd.f12 rfl rfl rfl rfl rfl rfl rfl ⟨rfl, rfl, rfl, rfl, rfl⟩ rfl rfl rfl rfl rfl (by kernel_rfl) Tryd.func12 (by kernel_rfl)
    (of_decide_eq_true (by kernel_rfl)) (by unfold Func.isWrapper; first | (rw [if_pos (by decide +kernel)]; kernel_rfl) | (rw [if_neg (by decide +kernel)]; exact ⟨rfl, rfl⟩))
    (fun os started H enc _ F0 => by rw [OpenClaim.pre_eq_preRow]; exact lifted os started H enc F0)
theorem plain (f : FuncId) (fn : Func) (hf : Tryd.pinned.checked.prog.funcNamed "deckle/decklelaw16.FunctionHead" = some f) (hfn : Tryd.pinned.checked.prog.funcs[f]? = some fn) :
    false = Tryd.pinned.checked.prog.looks [] ∧ ∀ (j : Nat) t, fn.params[j]? = some t → Tryd.pinned.checked.prog.wantsStandIn t = false := by
  obtain rfl : f = 12 := Option.some.inj ((show Tryd.prog.funcNamed "deckle/decklelaw16.FunctionHead" = some 12 by kernel_rfl).symm.trans hf) |>.symm
  obtain rfl : fn = Tryd.f12 := (Option.some.inj (Tryd.func12.symm.trans hfn)).symm
  refine ⟨by kernel_rfl, fun j t ht => ?_⟩
  rw [Tryd.params12] at ht
  have hm := Array.mem_of_getElem? ht
  simp only [List.mem_toArray, List.mem_cons, List.not_mem_nil, or_false] at hm
  rcases hm with rfl
  · exact (show Tryd.prog.wantsStandIn 42 = false by kernel_rfl)
/-- The tied card. -/
theorem card : Rows.FunctionHeadUptoCardSaid :=
  Claim7.holds_tied_plain_at .later [] _ _ _ _ said (fun _ h => by cases h) (by kernel_rfl) (fun _ h => by cases h) functionHeadUpto_row_tie rfl ⟨rfl, rfl⟩ (by kernel_rfl) rfl plain (by kernel_rfl)
#print axioms card
end Go.Proofs.YtmddkjmcbddhiaaDoor.functionHead
namespace Go.Proofs.YtmddkjmcbddhiaaDoor
/-- The card, under a short name, for the claim. -/
theorem functionHeadUpto_holds : Rows.FunctionHeadUptoCardSaid := functionHead.card
end Go.Proofs.YtmddkjmcbddhiaaDoor
end
