/-
  Proved: signs are written in quotes, and read, as the reference tells. Condition: none.
  Proved: the Go function deckle/decklelaw13.QuoteTells answers true at every input; each argument reads afterwards as it read before. Conditions: none but the form's own.
-/
import Derived.Test.YtmddkjmcbddhiaaDoorQtL
import Derived.Test.YtmddkjmcbddhiaaDoorP12L
import Derived.Test.YtmddkjmcbddhiaaDoorCards
import Derived.Test.YtmddkjmcbddhiaaDoorRk3L
import Derived.WalkKit
import Derived.ProofKit
import Derived.OpenShut
import Derived.ShutString
import Derived.ChangeOld
import Derived.Below
import Derived.SizedLaws
import Derived.Deep.DeepHandedRow
import Derived.Deep.DeepWitnessRowRef
import Derived.Lib.LaidIn
import Derived.Test.YtmddkjmcbddhiaaDoorWSized
section
namespace Go.Proofs.YtmddkjmcbddhiaaDoor.Pure
open Go.RowKit Go.Proofs.YtmddkjmcbddhiaaDoor.P Go.Proofs.YtmddkjmcbddhiaaDoorW.PrintWords Go.Proofs.YtmddkjmcbddhiaaDoor.Q
set_option linter.unusedVariables false
set_option linter.unusedSimpArgs false

theorem QuoteTells (l : List Int) (s : ByteArray) (hs : s.size ≤ 140737488351232) : ∃ k, decklelaw13_QuoteTells.f k l s = some true := by
  obtain ⟨K, hK⟩ := small13_ev
  have yes : ∀ k, decklelaw13_QuoteTells.j0 (k + 1) l s true true = some true := fun k => by rw [decklelaw13_QuoteTells.j0, if_pos rfl]
  have e1 : decklelaw13_small.f (K + 1) = some true := hK _ (by omega)
  by_cases h1 : (l.length : Int) > 100
  · exact ⟨K + 1, by unfold decklelaw13_QuoteTells.f; rw [e1, Option.bind_some, if_pos h1]; exact yes K⟩
  · by_cases h2 : (s.size : Int) > 500
    · exact ⟨K + 1, by unfold decklelaw13_QuoteTells.f; rw [e1, Option.bind_some, if_neg h1, decide_eq_true h2]; exact yes K⟩
    · obtain ⟨K2, h3⟩ := text13_ev l (by omega)
      obtain ⟨r, h4, hlen, ⟨K3, h5⟩⟩ := read13_ev s (by omega)
      have ht : quote_Text.f l = some (qRes l) := by unfold quote_Text.f; rw [if_pos (by omega)]
      obtain ⟨K4, h6⟩ := sameI_self r.1 (by omega)
      obtain ⟨M, hM⟩ : ∃ M, M = K + K2 + K3 + K4 := ⟨_, rfl⟩
      have e0 : decklelaw13_small.f (M + 1) = some true := hK _ (by omega)
      have e2 : deckleref13_Text.f M l = some (qRes l) := h3 M (by omega)
      have e3 : deckleref13_Read.f M s = some r := h5 M (by omega)
      have e4 : deckleref01_Same.f M r.1 r.1 = some true := h6 M (by omega)
      refine ⟨M + 1, ?_⟩
      unfold decklelaw13_QuoteTells.f
      rw [e0, Option.bind_some, if_neg h1, decide_eq_false h2, decklelaw13_QuoteTells.j0, if_neg (by simp), ht, Option.bind_some, e2, Option.bind_some, h4, Option.bind_some, e3, Option.bind_some, if_pos rfl, if_pos rfl, if_pos (by simp), e4, Option.bind_some, if_pos rfl, if_pos rfl]
      simp
end Go.Proofs.YtmddkjmcbddhiaaDoor.Pure
end
section
namespace Go.Proofs.YtmddkjmcbddhiaaDoor.quoteTells
open Go.ChangeShapes Go.WideShapes Go.ChangeAt Go.RowKit Go.Proofs.YtmddkjmcbddhiaaDoorW.PrintWords
open Go.ChangeMaps (open_string shut_string)
set_option linter.unusedVariables false
set_option linter.unusedSimpArgs false
theorem own : ownKnob Tryd.prog.godebug = none := by kernel_rfl
theorem laid_met (os : Os) : laidMet Tryd.prog Rows.quoteTellsRow.laid ((Rk3.laidWorld os).forCall (fun _ _ => 0) ⟨#[], #[.slice none 0 0, .string ByteArray.empty], []⟩).memory :=
  (LaidIn.of_run (l := [("unicode/utf8.acceptRanges", Rows.laid_unicode_utf8_acceptRanges), ("unicode/utf8.first", Rows.laid_unicode_utf8_first)]) [1, 0] 8 (by kernel_rfl) (by kernel_rfl) (by kernel_rfl) (by kernel_rfl)).met
theorem witness_row (os : Os) {H : Type} (enc : TypeId × Value → H) :
    (OpenSpec.ofChange Rows.quoteTellsSpec).preRow enc Tryd.prog Tryd.f3 Rows.quoteTellsRow.domain false Rows.quoteTellsRow.laid ((Rk3.laidWorld os).forCall (fun _ _ => 0) ⟨#[], #[.slice none 0 0, .string ByteArray.empty], []⟩).memory #[.slice none 0 0, .string ByteArray.empty] := by
  have hw : (DataW.whole enc Tryd.prog ((Rk3.laidWorld os).forCall (fun _ _ => 0) ⟨#[], #[.slice none 0 0, .string ByteArray.empty], []⟩).memory Tryd.f3.params.toList (OpenSpec.ofChange Rows.quoteTellsSpec).vars false #[.slice none 0 0, .string ByteArray.empty].toList 8).map (fun x => (x.1, x.2.1)) = some ([.nil, .lit (.string [])], []) := by kernel_rfl
  obtain ⟨⟨x1, x2, x3⟩, hx, hx1⟩ := Option.map_eq_some_iff.1 hw
  simp only [Prod.mk.injEq] at hx1
  obtain ⟨rfl, rfl⟩ := hx1
  exact OpenSpec.preRow_of_cond 8 hx (by kernel_rfl) (fun k hk => by cases hk) (by kernel_rfl) (laid_met os)
set_option maxRecDepth 100000 in
set_option maxHeartbeats 2000000 in
theorem lifted (os : Os) (started : os.Started) (H : Type) (enc : TypeId × Value → H) (FF : Stop.Interp) :
    ReturnsInHanded {} Tryd.checked os 3 .any ((OpenSpec.ofChange Rows.quoteTellsSpec).preRow enc Tryd.prog Tryd.f3 Rows.quoteTellsRow.domain false Rows.quoteTellsRow.laid) (((OpenSpec.ofChange Rows.quoteTellsSpec).at FF).post enc Tryd.prog Tryd.f3 false true false false) := by
  refine returnsInHanded_of_row (C := Tryd.checked) (s := (OpenSpec.ofChange Rows.quoteTellsSpec)) own started (by kernel_rfl) Tryd.func3
    (witness_row_atRef (enc := enc) (C := Tryd.checked) false (Rk3.laidWorld os) #[.slice none 0 0, .string ByteArray.empty] rfl (by kernel_rfl) (by kernel_rfl) (by kernel_rfl) (witness_row os enc)) ?_
  intro W base args ds gs before hval0 hW _ _ hsz0 hL hsh _
  have hE : P.Env W := Rk3.env_of hL hsh
  have hsz : (DataW.weightsEach Tryd.prog (Tryd.f3.params.toList ++ (OpenSpec.ofChange Rows.quoteTellsSpec).bare.plain.varTypes Tryd.prog) (ds ++ gs)).all (· ≤ reachBytes) = true := hsz0
  have hval : ∀ (j : Nat) t v, Tryd.f3.params[j]? = some t → args[j]? = some v → Value.okWide Tryd.prog W .any base t v := hval0
  have hW' := hW
  obtain ⟨p, q, hA0, hV, rfl, hfz, hnd⟩ := hW
  have hA : DataW.TrodAll enc Tryd.prog W 0 (fun _ => true) true Tryd.f3.params.toList args.toList ds p := hA0
  rw [Tryd.params3] at hA hval hsz
  obtain ⟨v0, vs0, d0, ds0, p0, q0, hargs, rfl, rfl, h0, r0⟩ := trodAll_cons hA
  obtain ⟨v1, vs1, d1, ds1, p1, q1, rfl, rfl, rfl, h1, r1⟩ := trodAll_cons r0
  obtain ⟨rfl, rfl, rfl⟩ := trodAll_nil r1
  obtain rfl : args = #[v0, v1] := by cases args; simp_all
  obtain ⟨rfl, rfl⟩ := trodVars_none hV
  obtain ⟨A0, len0, cap0, rfl⟩ := okWide_slice Tryd.underlying22 (hval 0 22 v0 rfl rfl)
  have k0 := h0
  have lt0 : ∀ x ∈ p0, x.block < W.heap.size := by obtain ⟨m, hm⟩ := k0; exact DataW.trod_lt m _ _ _ hm
  obtain ⟨x0, rfl, hr0, hc0⟩ := Rk3.open_intsK h0
  obtain ⟨a1, rfl, rfl, rfl, y1⟩ := open_string Tryd.underlying9 (hval 1 9 v1 rfl rfl) h1
  have w1 : a1.size ≤ 140737488351232 := by
    have z := sized_string hsz (j := 1) (t := 9) rfl rfl
    rw [Array.length_toList] at z
    exact z
  clear hA0 hval0 hsz0 hsz
  obtain ⟨k, hk⟩ : ∃ k, P.decklelaw13_QuoteTells.f k x0 a1 = some true := Pure.QuoteTells x0 a1 w1
  refine (P.decklelaw13_QuoteTells.calls k A0 cap0 x0 a1 true W hr0 hc0 hE hk).mono fun e W' ⟨he, bel⟩ => ?_
  subst he
  exact ⟨_, rfl, _, _, _, [], _, [], hW', trodAll_mk1 (shut_bool Tryd.underlying4 _), (trodAll_cons_mk (Below.trod Rk3.laidOut (by kernel_rfl) (of_decide_eq_true (by kernel_rfl)) k0 bel lt0) (trodAll_cons_mk (shut_string Tryd.underlying9 y1) trodAll_mk0)), rfl, bel.frame _, fun h => by cases h⟩
theorem said : Rows.QuoteTellsSaid :=
  OpenClaim.holds_of_cond 3 Tryd.f3 rfl rfl rfl rfl rfl rfl rfl ⟨rfl, rfl, rfl, rfl, rfl⟩ rfl rfl rfl rfl rfl (by kernel_rfl) Tryd.func3 (by kernel_rfl)
    (of_decide_eq_true (by kernel_rfl)) (by unfold Func.isWrapper; first | (rw [if_pos (by decide +kernel)]; kernel_rfl) | (rw [if_neg (by decide +kernel)]; exact ⟨rfl, rfl⟩))
    (fun os started H enc _ F0 => by rw [OpenClaim.pre_eq_preRow]; exact lifted os started H enc F0)
theorem plain (f : FuncId) (fn : Func) (hf : Tryd.pinned.checked.prog.funcNamed "deckle/decklelaw13.QuoteTells" = some f) (hfn : Tryd.pinned.checked.prog.funcs[f]? = some fn) :
    false = Tryd.pinned.checked.prog.looks [] ∧ ∀ (j : Nat) t, fn.params[j]? = some t → Tryd.pinned.checked.prog.wantsStandIn t = false := by
  obtain rfl : f = 3 := Option.some.inj ((show Tryd.prog.funcNamed "deckle/decklelaw13.QuoteTells" = some 3 by kernel_rfl).symm.trans hf) |>.symm
  obtain rfl : fn = Tryd.f3 := (Option.some.inj (Tryd.func3.symm.trans hfn)).symm
  refine ⟨by kernel_rfl, fun j t ht => ?_⟩
  rw [Tryd.params3] at ht
  have hm := Array.mem_of_getElem? ht
  simp only [List.mem_toArray, List.mem_cons, List.not_mem_nil, or_false] at hm
  rcases hm with rfl | rfl
  · exact (show Tryd.prog.wantsStandIn 22 = false by kernel_rfl)
  · exact (show Tryd.prog.wantsStandIn 9 = false by kernel_rfl)
/-- The tied card. -/
theorem card : Rows.QuoteTellsCardSaid :=
  Claim7.holds_tied_plain_at .later [] _ _ _ _ said (fun _ h => by cases h) (by kernel_rfl) (fun _ h => by cases h) quoteTells_row_tie rfl ⟨rfl, rfl⟩ (by kernel_rfl) rfl plain (by kernel_rfl)
#print axioms card
end Go.Proofs.YtmddkjmcbddhiaaDoor.quoteTells
namespace Go.Proofs.YtmddkjmcbddhiaaDoor
/-- The card, under a short name, for the claim. -/
theorem quoteTells_holds : Rows.QuoteTellsCardSaid := quoteTells.card
end Go.Proofs.YtmddkjmcbddhiaaDoor
end
