/-
  Proved: a line more that is right, and has no label, changes neither what is right, nor the labels. Conditions: sizes that rows of texts can have.
  Proved: the Go function deckle/decklelaw16.FunctionMore answers true at every input; each argument reads afterwards as it read before. Conditions: none but the form's own.
-/
import Derived.Test.YtmddkjmcbddhiaaDoorFbJ
import Derived.Test.YtmddkjmcbddhiaaDoorP44J
import Derived.Test.YtmddkjmcbddhiaaDoorCards
import Derived.Test.YtmddkjmcbddhiaaDoorRk3J
import Derived.WalkKit
import Derived.ProofKit
import Derived.OpenShut
import Derived.ShutString
import Derived.ChangeOld
import Derived.Below
import Derived.SizedLaws
import Derived.Deep.DeepHandedRow
import Derived.Deep.DeepWitnessRowRef
import Derived.Lib.LaidIn
import Derived.Test.YtmddkjmcbddhiaaDoorWSized
section
namespace Go.Proofs.YtmddkjmcbddhiaaDoor.Pure
open Go.RowKit Go.Proofs.YtmddkjmcbddhiaaDoor.P Go.Proofs.YtmddkjmcbddhiaaDoorW.PrintWords Go.Proofs.YtmddkjmcbddhiaaDoor.Sp
set_option linter.unusedVariables false
set_option linter.unusedSimpArgs false

theorem more_step (M : Nat) (l : List ByteArray) (s : ByteArray) (h4 : ¬ (l.length : Int) < 1) (hn : l.length ≤ 50) (hll : (labs l).length ≤ 50)
    (q2 : function_Labels.f M l = some (labs l)) (q3 : function_Labels.f M (l ++ [s]) = some (labs (l ++ [s])))
    (q4 : function_Right.f M l = some (rightF l)) (q5 : function_Right.f M (l ++ [s]) = some (rightF (l ++ [s])))
    (q6 : deckleref16_Same.f M (labs l) (labs l) = some true) (q7 : function_Line.f s = some (lineB s)) :
    decklelaw16_FunctionMore.j0 (M + 1) l s true false = some true := by
  rw [decklelaw16_FunctionMore.j0, if_neg (by simp)]
  simp only [Option.bind_some, List.nil_append]
  have hA : ([] : List ByteArray).length + l.length < 8796093022208 := by simp only [List.length_nil]; omega
  have hB : l.length < 8796093022208 := by omega
  rw [if_pos hA, if_pos hB, q3, Option.bind_some, q2, Option.bind_some]
  cases hlab : labelOf s with
  | none =>
    have e : labs (l ++ [s]) = labs l := by rw [labs_snoc l s (by omega), hlab]; exact List.append_nil _
    rw [e, if_pos rfl, if_pos trivial, q5, Option.bind_some, q4, Option.bind_some, rightF_more (by omega) (by omega) hlab]
    cases rightF l with
    | false => rw [if_neg (by simp), if_pos (by simp), Option.bind_some, q6, Option.bind_some]
    | true => rw [if_pos rfl, q7, Option.bind_some, if_pos (by simp), Option.bind_some, q6, Option.bind_some]
  | some x =>
    have e : labs (l ++ [s]) = labs l ++ [x] := by rw [labs_snoc l s (by omega), hlab]
    have hC : ¬ ((labs l ++ [x]).length : Int) = ((labs l).length : Int) := by rw [List.length_append, List.length_singleton]; omega
    have hD : ((labs l ++ [x]).length : Int) = wrap64 (((labs l).length : Int) + 1) := by rw [List.length_append, List.length_singleton, wrap_nat rfl (by omega)]
    rw [e, if_neg hC, if_pos trivial, Option.bind_some, if_pos hD, q5, Option.bind_some]
    cases hr : rightF (l ++ [s]) with
    | false => rw [if_neg (by simp)]
    | true => rw [if_pos rfl, q4, Option.bind_some, rightF_less (by omega) hr]
theorem FunctionMore (l : List ByteArray) (s : ByteArray) (hl : l.length ≤ 4611686018427387904) (hb : ∀ x ∈ l, x.size ≤ maxLen) (hs : s.size ≤ 140737488351232) : ∃ k, decklelaw16_FunctionMore.f k l s = some true := by
  have yes : ∀ k, decklelaw16_FunctionMore.j0 (k + 1) l s true true = some true := fun k => by rw [decklelaw16_FunctionMore.j0, if_pos rfl]
  obtain ⟨r, ⟨K1, h1⟩, h2⟩ := fewF_ev l hl
  have e1 : decklelaw16_Few.f (K1 + 1) l = some r := h1 _ (by omega)
  cases r with
  | false => exact ⟨K1 + 1, by unfold decklelaw16_FunctionMore.f; simp only [decklelaw16_small.f, Option.bind_some, e1, Bool.false_eq_true, if_false]; exact yes K1⟩
  | true =>
    by_cases h3 : (s.size : Int) > 200
    · exact ⟨K1 + 1, by unfold decklelaw16_FunctionMore.f; simp only [decklelaw16_small.f, Option.bind_some, e1, if_true, if_pos h3]; exact yes K1⟩
    · by_cases h4 : (l.length : Int) < 1
      · exact ⟨K1 + 1, by unfold decklelaw16_FunctionMore.f; simp only [decklelaw16_small.f, Option.bind_some, e1, if_true, if_neg h3, decide_eq_true h4]; exact yes K1⟩
      · obtain ⟨hn, hsz⟩ := h2 rfl
        have hsz2 : ∀ x ∈ l, x.size ≤ 1099511627776 := fun x hx => by have := hsz x hx; omega
        have hsz3 : ∀ x ∈ l ++ [s], x.size ≤ 1099511627776 := fun x hx => by
          rcases List.mem_append.1 hx with h5 | h5
          · exact hsz2 x h5
          · rw [List.mem_singleton.1 h5]; omega
        have hml : (l ++ [s]).length = l.length + 1 := by simp
        obtain ⟨K2, k2⟩ := labels_ev l (by omega)
        obtain ⟨K3, k3⟩ := labels_ev (l ++ [s]) (by omega)
        obtain ⟨K4, k4⟩ := right_ev l (by omega) hsz2
        obtain ⟨K5, k5⟩ := right_ev (l ++ [s]) (by omega) hsz3
        have hll := labs_length l
        obtain ⟨K6, k6⟩ := same16_ev (labs l) (labs l) rfl (by omega)
        have hmain : ∀ M, K2 ≤ M → K3 ≤ M → K4 ≤ M → K5 ≤ M → K6 ≤ M → decklelaw16_FunctionMore.j0 (M + 1) l s true false = some true := by
          intro M m2 m3 m4 m5 m6
          have q2 : function_Labels.f M l = some (labs l) := k2 _ m2
          have q3 : function_Labels.f M (l ++ [s]) = some (labs (l ++ [s])) := k3 _ m3
          have q4 : function_Right.f M l = some (rightF l) := k4 _ m4
          have q5 : function_Right.f M (l ++ [s]) = some (rightF (l ++ [s])) := k5 _ m5
          have q6 : deckleref16_Same.f M (labs l) (labs l) = some true := k6 _ m6
          have q7 := function_Line_f s (by omega)
          exact more_step M l s h4 (by omega) (by omega) q2 q3 q4 q5 q6 q7
        obtain ⟨M, hM⟩ : ∃ M, M = K1 + K2 + K3 + K4 + K5 + K6 := ⟨_, rfl⟩
        have e2 : decklelaw16_Few.f (M + 1) l = some true := h1 _ (by omega)
        have e3 := hmain M (by omega) (by omega) (by omega) (by omega) (by omega)
        exact ⟨M + 1, by unfold decklelaw16_FunctionMore.f; simp only [decklelaw16_small.f, Option.bind_some, e2, if_true, if_neg h3, decide_eq_false h4]; exact e3⟩
end Go.Proofs.YtmddkjmcbddhiaaDoor.Pure
end
section
namespace Go.Proofs.YtmddkjmcbddhiaaDoor.functionMore
open Go.ChangeShapes Go.WideShapes Go.ChangeAt Go.RowKit Go.Proofs.YtmddkjmcbddhiaaDoorW.PrintWords
open Go.ChangeMaps (open_string shut_string)
set_option linter.unusedVariables false
set_option linter.unusedSimpArgs false
theorem own : ownKnob Tryd.prog.godebug = none := by kernel_rfl
theorem laid_met (os : Os) : laidMet Tryd.prog Rows.functionMoreRow.laid ((Rk3.laidWorld os).forCall (fun _ _ => 0) ⟨#[], #[.slice none 0 0, .string ByteArray.empty], []⟩).memory :=
  (LaidIn.of_run (l := [("unicode/utf8.acceptRanges", Rows.laid_unicode_utf8_acceptRanges), ("unicode/utf8.first", Rows.laid_unicode_utf8_first)]) [1, 0] 8 (by kernel_rfl) (by kernel_rfl) (by kernel_rfl) (by kernel_rfl)).met
theorem witness_row (os : Os) {H : Type} (enc : TypeId × Value → H) :
    (OpenSpec.ofChange Rows.functionMoreSpec).preRow enc Tryd.prog Tryd.f11 Rows.functionMoreRow.domain false Rows.functionMoreRow.laid ((Rk3.laidWorld os).forCall (fun _ _ => 0) ⟨#[], #[.slice none 0 0, .string ByteArray.empty], []⟩).memory #[.slice none 0 0, .string ByteArray.empty] := by
  have hw : (DataW.whole enc Tryd.prog ((Rk3.laidWorld os).forCall (fun _ _ => 0) ⟨#[], #[.slice none 0 0, .string ByteArray.empty], []⟩).memory Tryd.f11.params.toList (OpenSpec.ofChange Rows.functionMoreSpec).vars false #[.slice none 0 0, .string ByteArray.empty].toList 8).map (fun x => (x.1, x.2.1)) = some ([.nil, .lit (.string [])], []) := by kernel_rfl
  obtain ⟨⟨x1, x2, x3⟩, hx, hx1⟩ := Option.map_eq_some_iff.1 hw
  simp only [Prod.mk.injEq] at hx1
  obtain ⟨rfl, rfl⟩ := hx1
  exact OpenSpec.preRow_of_cond 8 hx (by kernel_rfl) (fun k hk => by cases hk) (by kernel_rfl) (laid_met os)
set_option maxRecDepth 100000 in
set_option maxHeartbeats 2000000 in
theorem lifted (os : Os) (started : os.Started) (H : Type) (enc : TypeId × Value → H) (FF : Stop.Interp) :
    ReturnsInHanded {} Tryd.checked os 11 .any ((OpenSpec.ofChange Rows.functionMoreSpec).preRow enc Tryd.prog Tryd.f11 Rows.functionMoreRow.domain false Rows.functionMoreRow.laid) (((OpenSpec.ofChange Rows.functionMoreSpec).at FF).post enc Tryd.prog Tryd.f11 false true false false) := by
  refine returnsInHanded_of_row (C := Tryd.checked) (s := (OpenSpec.ofChange Rows.functionMoreSpec)) own started (by kernel_rfl) Tryd.func11
    (witness_row_atRef (enc := enc) (C := Tryd.checked) false (Rk3.laidWorld os) #[.slice none 0 0, .string ByteArray.empty] rfl (by kernel_rfl) (by kernel_rfl) (by kernel_rfl) (witness_row os enc)) ?_
  intro W base args ds gs before hval0 hW _ _ hsz0 hL hsh _
  have hE : P.Env W := Rk3.env_of hL hsh
  have hsz : (DataW.weightsEach Tryd.prog (Tryd.f11.params.toList ++ (OpenSpec.ofChange Rows.functionMoreSpec).bare.plain.varTypes Tryd.prog) (ds ++ gs)).all (· ≤ reachBytes) = true := hsz0
  have hval : ∀ (j : Nat) t v, Tryd.f11.params[j]? = some t → args[j]? = some v → Value.okWide Tryd.prog W .any base t v := hval0
  have hW' := hW
  obtain ⟨p, q, hA0, hV, rfl, hfz, hnd⟩ := hW
  have hA : DataW.TrodAll enc Tryd.prog W 0 (fun _ => true) true Tryd.f11.params.toList args.toList ds p := hA0
  rw [Tryd.params11] at hA hval hsz
  obtain ⟨v0, vs0, d0, ds0, p0, q0, hargs, rfl, rfl, h0, r0⟩ := trodAll_cons hA
  obtain ⟨v1, vs1, d1, ds1, p1, q1, rfl, rfl, rfl, h1, r1⟩ := trodAll_cons r0
  obtain ⟨rfl, rfl, rfl⟩ := trodAll_nil r1
  obtain rfl : args = #[v0, v1] := by cases args; simp_all
  obtain ⟨rfl, rfl⟩ := trodVars_none hV
  obtain ⟨A0, len0, cap0, rfl⟩ := okWide_slice Tryd.underlying33 (hval 0 33 v0 rfl rfl)
  have k0 := h0
  have lt0 : ∀ x ∈ p0, x.block < W.heap.size := by obtain ⟨m, hm⟩ := k0; exact DataW.trod_lt m _ _ _ hm
  have sw0 : ∀ el sp, d0 = .slice el sp → (el.length + sp.length) * Tryd.prog.bytesOf 9 ≤ reachBytes := fun el sp e => sized_slice hsz (j := 0) (t := 33) rfl (by rw [e]; rfl) Tryd.underlying33
  obtain ⟨x0, rfl, hr0, hc0, hb0, hl0⟩ := Rk.open_strs Tryd.underlying33 Tryd.underlying9 (by kernel_rfl) (B := 16) (by kernel_rfl) sw0 h0
  obtain ⟨a1, rfl, rfl, rfl, y1⟩ := open_string Tryd.underlying9 (hval 1 9 v1 rfl rfl) h1
  have w1 : a1.size ≤ 140737488351232 := by
    have z := sized_string hsz (j := 1) (t := 9) rfl rfl
    rw [Array.length_toList] at z
    exact z
  clear hA0 hval0 hsz0 hsz
  obtain ⟨k, hk⟩ : ∃ k, P.decklelaw16_FunctionMore.f k x0 a1 = some true := Pure.FunctionMore x0 a1 (by omega) hb0 w1
  refine (P.decklelaw16_FunctionMore.calls k A0 cap0 x0 a1 true W hr0 hc0 hE hk).mono fun e W' ⟨he, bel⟩ => ?_
  subst he
  exact ⟨_, rfl, _, _, _, [], _, [], hW', trodAll_mk1 (shut_bool Tryd.underlying4 _), (trodAll_cons_mk (Below.trod Rk3.laidOut (by kernel_rfl) (of_decide_eq_true (by kernel_rfl)) k0 bel lt0) (trodAll_cons_mk (shut_string Tryd.underlying9 y1) trodAll_mk0)), rfl, bel.frame _, fun h => by cases h⟩
theorem said : Rows.FunctionMoreSaid :=
  OpenClaim.holds_of_cond 11 Tryd.f11 rfl rfl rfl rfl rfl rfl rfl ⟨rfl, rfl, rfl, rfl, rfl⟩ rfl rfl rfl rfl rfl (by kernel_rfl) Tryd.func11 (by kernel_rfl)
    (of_decide_eq_true (by kernel_rfl)) (by unfold Func.isWrapper; first | (rw [if_pos (by decide +kernel)]; kernel_rfl) | (rw [if_neg (by decide +kernel)]; exact ⟨rfl, rfl⟩))
    (fun os started H enc _ F0 => by rw [OpenClaim.pre_eq_preRow]; exact lifted os started H enc F0)
theorem plain (f : FuncId) (fn : Func) (hf : Tryd.pinned.checked.prog.funcNamed "deckle/decklelaw16.FunctionMore" = some f) (hfn : Tryd.pinned.checked.prog.funcs[f]? = some fn) :
    false = Tryd.pinned.checked.prog.looks [] ∧ ∀ (j : Nat) t, fn.params[j]? = some t → Tryd.pinned.checked.prog.wantsStandIn t = false := by
  obtain rfl : f = 11 := Option.some.inj ((show Tryd.prog.funcNamed "deckle/decklelaw16.FunctionMore" = some 11 by kernel_rfl).symm.trans hf) |>.symm
  obtain rfl : fn = Tryd.f11 := (Option.some.inj (Tryd.func11.symm.trans hfn)).symm
  refine ⟨by kernel_rfl, fun j t ht => ?_⟩
  rw [Tryd.params11] at ht
  have hm := Array.mem_of_getElem? ht
  simp only [List.mem_toArray, List.mem_cons, List.not_mem_nil, or_false] at hm
  rcases hm with rfl | rfl
  · exact (show Tryd.prog.wantsStandIn 33 = false by kernel_rfl)
  · exact (show Tryd.prog.wantsStandIn 9 = false by kernel_rfl)
/-- The tied card. -/
theorem card : Rows.FunctionMoreCardSaid :=
  Claim7.holds_tied_plain_at .later [] _ _ _ _ said (fun _ h => by cases h) (by kernel_rfl) (fun _ h => by cases h) functionMore_row_tie rfl ⟨rfl, rfl⟩ (by kernel_rfl) rfl plain (by kernel_rfl)
#print axioms card
end Go.Proofs.YtmddkjmcbddhiaaDoor.functionMore
namespace Go.Proofs.YtmddkjmcbddhiaaDoor
/-- The card, under a short name, for the claim. -/
theorem functionMore_holds : Rows.FunctionMoreCardSaid := functionMore.card
end Go.Proofs.YtmddkjmcbddhiaaDoor
end
