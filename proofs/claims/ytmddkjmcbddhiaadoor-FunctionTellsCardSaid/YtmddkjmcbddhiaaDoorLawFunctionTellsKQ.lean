/-
  Proved: lines, labels, names, texts of lines are as the reference tells. Conditions: sizes that rows of texts can have.
  Proved: the Go function deckle/decklelaw16.FunctionTells answers true at every input; each argument reads afterwards as it read before. Conditions: none but the form's own.
-/
import Derived.Test.YtmddkjmcbddhiaaDoorFtKQ
import Derived.Test.YtmddkjmcbddhiaaDoorP41KQ
import Derived.Test.YtmddkjmcbddhiaaDoorCards
import Derived.Test.YtmddkjmcbddhiaaDoorRk3KQ
import Derived.WalkKit
import Derived.ProofKit
import Derived.OpenShut
import Derived.ShutString
import Derived.ChangeOld
import Derived.Below
import Derived.SizedLaws
import Derived.Deep.DeepHandedRow
import Derived.Deep.DeepWitnessRowRef
import Derived.Lib.LaidIn
import Derived.Test.YtmddkjmcbddhiaaDoorWSizedQ
section
namespace Go.Proofs.YtmddkjmcbddhiaaDoor.Pure
open Go.RowKit Go.Proofs.YtmddkjmcbddhiaaDoor.P Go.Proofs.YtmddkjmcbddhiaaDoorW.PrintWords Go.Proofs.YtmddkjmcbddhiaaDoor.Sp
set_option linter.unusedVariables false
set_option linter.unusedSimpArgs false

theorem FunctionTells (l : List ByteArray) (s : ByteArray) (hl : l.length ≤ 4611686018427387904) (hb : ∀ x ∈ l, x.size ≤ maxLen) (hs : s.size ≤ 140737488351232) : ∃ k, decklelaw16_FunctionTells.f k l s = some true := by
  have yes : ∀ k, decklelaw16_FunctionTells.j0 (k + 1) l s true true = some true := fun k => by rw [decklelaw16_FunctionTells.j0, if_pos rfl]
  obtain ⟨r, ⟨K1, h1⟩, h2⟩ := fewF_ev l hl
  have e1 : decklelaw16_Few.f (K1 + 1) l = some r := h1 _ (by omega)
  cases r with
  | false => exact ⟨K1 + 1, by unfold decklelaw16_FunctionTells.f; rw [decklelaw16_small.f, Option.bind_some, e1, Option.bind_some, if_neg (by simp)]; exact yes K1⟩
  | true =>
    by_cases h3 : (s.size : Int) > 500
    · exact ⟨K1 + 1, by unfold decklelaw16_FunctionTells.f; rw [decklelaw16_small.f, Option.bind_some, e1, Option.bind_some, if_pos rfl, decide_eq_true h3]; exact yes K1⟩
    · obtain ⟨hn, hsz⟩ := h2 rfl
      have hsz2 : ∀ x ∈ l, x.size ≤ 1099511627776 := fun x hx => by have := hsz x hx; omega
      have hsz3 : ∀ x ∈ l, x.size ≤ 549755813888 := fun x hx => by have := hsz x hx; omega
      have hjl : (Lib.join (bys l) [10]).length ≤ 50 * 201 := by
        have hj := join_length (bys l) 200 (fun x hx => by
          obtain ⟨y, hy, rfl⟩ := List.mem_map.1 hx
          have := hsz y hy
          have h5 := length_data y
          omega)
        have h6 : (bys l).length = l.length := by unfold bys; rw [List.length_map]
        rw [h6] at hj
        have h7 := Nat.mul_le_mul_right (200 + 1) hn
        omega
      have hll := labs_length l
      have hsd := length_data s
      have hspl := spl_length s.data.toList
      obtain ⟨A1, a1⟩ := line16_ev s (by omega)
      obtain ⟨A2, a2⟩ := labels_ev l (by omega)
      obtain ⟨A3, a3⟩ := labels16_ev l (by omega) hsz2
      obtain ⟨A4, a4⟩ := same16_ev (labs l) (labs l) rfl (by omega)
      obtain ⟨A5, a5⟩ := right_ev l (by omega) hsz2
      obtain ⟨A6, a6⟩ := right16_ev l (by omega) hsz3
      obtain ⟨A7, a7⟩ := name_ev l (by omega) hsz2
      obtain ⟨A8, a8⟩ := name16_ev l (by omega) hsz3
      obtain ⟨A9, a9⟩ := join16_ev l hn hsz
      obtain ⟨A10, a10⟩ := split16_ev s (by omega)
      obtain ⟨A11, a11⟩ := same16_ev ((spl s.data.toList).map txt) ((spl s.data.toList).map txt) rfl (by rw [List.length_map]; omega)
      obtain ⟨M, hM⟩ : ∃ M, M = K1 + A1 + A2 + A3 + A4 + A5 + A6 + A7 + A8 + A9 + A10 + A11 := ⟨_, rfl⟩
      have e2 : decklelaw16_Few.f (M + 1) l = some true := h1 _ (by omega)
      have b1 : deckleref16_Line.f M s = some (lineB s) := a1 M (by omega)
      have b2 : function_Labels.f M l = some (labs l) := a2 M (by omega)
      have b3 : deckleref16_Labels.f M l = some (labs l) := a3 M (by omega)
      have b4 : deckleref16_Same.f M (labs l) (labs l) = some true := a4 M (by omega)
      have b5 : function_Right.f M l = some (rightF l) := a5 M (by omega)
      have b6 : deckleref16_Right.f M l = some (rightF l) := a6 M (by omega)
      have b7 : function_Name.f M l = some (nameF l) := a7 M (by omega)
      have b8 : deckleref16_Name.f M l = some (nameF l) := a8 M (by omega)
      have b9 : deckleref16_Join.f M l = some (txt (Lib.join (bys l) [10])) := a9 M (by omega)
      have b10 : deckleref16_Split.f M s = some ((spl s.data.toList).map txt) := a10 M (by omega)
      have b11 : deckleref16_Same.f M ((spl s.data.toList).map txt) ((spl s.data.toList).map txt) = some true := a11 M (by omega)
      refine ⟨M + 1, ?_⟩
      unfold decklelaw16_FunctionTells.f
      rw [decklelaw16_small.f, Option.bind_some, e2, Option.bind_some, if_pos rfl, decide_eq_false h3, decklelaw16_FunctionTells.j0, if_neg (by simp), if_pos rfl, function_Line_f s (by omega), Option.bind_some, b1, Option.bind_some, if_pos (by simp), b2, Option.bind_some, b3, Option.bind_some, b4, Option.bind_some, if_pos rfl,
        b5, Option.bind_some, b6, Option.bind_some, if_pos (by simp), b7, Option.bind_some, b8, Option.bind_some, if_pos rfl, fjoin_f l (by omega) (by omega), Option.bind_some, b9, Option.bind_some, if_pos rfl, fsplit_f s (by omega), Option.bind_some, b10, Option.bind_some, b11]
      rfl
end Go.Proofs.YtmddkjmcbddhiaaDoor.Pure
end
section
namespace Go.Proofs.YtmddkjmcbddhiaaDoor.functionTells
open Go.ChangeShapes Go.WideShapes Go.ChangeAt Go.RowKit Go.Proofs.YtmddkjmcbddhiaaDoorW.PrintWords
open Go.ChangeMaps (open_string shut_string)
set_option linter.unusedVariables false
set_option linter.unusedSimpArgs false
theorem own : ownKnob Tryd.prog.godebug = none := by kernel_rfl
theorem laid_met (os : Os) : laidMet Tryd.prog Rows.functionTellsRow.laid ((Rk3.laidWorld os).forCall (fun _ _ => 0) ⟨#[], #[.slice none 0 0, .string ByteArray.empty], []⟩).memory :=
  (LaidIn.of_run (l := [("unicode/utf8.acceptRanges", Rows.laid_unicode_utf8_acceptRanges), ("unicode/utf8.first", Rows.laid_unicode_utf8_first)]) [1, 0] 8 (by kernel_rfl) (by kernel_rfl) (by kernel_rfl) (by kernel_rfl)).met
theorem witness_row (os : Os) {H : Type} (enc : TypeId × Value → H) :
    (OpenSpec.ofChange Rows.functionTellsSpec).preRow enc Tryd.prog Tryd.f8 Rows.functionTellsRow.domain false Rows.functionTellsRow.laid ((Rk3.laidWorld os).forCall (fun _ _ => 0) ⟨#[], #[.slice none 0 0, .string ByteArray.empty], []⟩).memory #[.slice none 0 0, .string ByteArray.empty] := by
  have hw : (DataW.whole enc Tryd.prog ((Rk3.laidWorld os).forCall (fun _ _ => 0) ⟨#[], #[.slice none 0 0, .string ByteArray.empty], []⟩).memory Tryd.f8.params.toList (OpenSpec.ofChange Rows.functionTellsSpec).vars false #[.slice none 0 0, .string ByteArray.empty].toList 8).map (fun x => (x.1, x.2.1)) = some ([.nil, .lit (.string [])], []) := by kernel_rfl
  obtain ⟨⟨x1, x2, x3⟩, hx, hx1⟩ := Option.map_eq_some_iff.1 hw
  simp only [Prod.mk.injEq] at hx1
  obtain ⟨rfl, rfl⟩ := hx1
  exact OpenSpec.preRow_of_cond 8 hx (by kernel_rfl) (fun k hk => by cases hk) (by kernel_rfl) (laid_met os)
set_option maxRecDepth 100000 in
set_option maxHeartbeats 2000000 in
theorem lifted (os : Os) (started : os.Started) (H : Type) (enc : TypeId × Value → H) (FF : Stop.Interp) :
    ReturnsInHanded {} Tryd.checked os 8 .any ((OpenSpec.ofChange Rows.functionTellsSpec).preRow enc Tryd.prog Tryd.f8 Rows.functionTellsRow.domain false Rows.functionTellsRow.laid) (((OpenSpec.ofChange Rows.functionTellsSpec).at FF).post enc Tryd.prog Tryd.f8 false true false false) := by
  refine returnsInHanded_of_row (C := Tryd.checked) (s := (OpenSpec.ofChange Rows.functionTellsSpec)) own started (by kernel_rfl) Tryd.func8
    (witness_row_atRef (enc := enc) (C := Tryd.checked) false (Rk3.laidWorld os) #[.slice none 0 0, .string ByteArray.empty] rfl (by kernel_rfl) (by kernel_rfl) (by kernel_rfl) (witness_row os enc)) ?_
  intro W base args ds gs before hval0 hW _ _ hsz0 hL hsh _
  have hE : P.Env W := Rk3.env_of hL hsh
  have hsz : (DataW.weightsEach Tryd.prog (Tryd.f8.params.toList ++ (OpenSpec.ofChange Rows.functionTellsSpec).bare.plain.varTypes Tryd.prog) (ds ++ gs)).all (· ≤ reachBytes) = true := hsz0
  have hval : ∀ (j : Nat) t v, Tryd.f8.params[j]? = some t → args[j]? = some v → Value.okWide Tryd.prog W .any base t v := hval0
  have hW' := hW
  obtain ⟨p, q, hA0, hV, rfl, hfz, hnd⟩ := hW
  have hA : DataW.TrodAll enc Tryd.prog W 0 (fun _ => true) true Tryd.f8.params.toList args.toList ds p := hA0
  rw [Tryd.params8] at hA hval hsz
  obtain ⟨v0, vs0, d0, ds0, p0, q0, hargs, rfl, rfl, h0, r0⟩ := trodAll_cons hA
  obtain ⟨v1, vs1, d1, ds1, p1, q1, rfl, rfl, rfl, h1, r1⟩ := trodAll_cons r0
  obtain ⟨rfl, rfl, rfl⟩ := trodAll_nil r1
  obtain rfl : args = #[v0, v1] := by cases args; simp_all
  obtain ⟨rfl, rfl⟩ := trodVars_none hV
  obtain ⟨A0, len0, cap0, rfl⟩ := okWide_slice Tryd.underlying33 (hval 0 33 v0 rfl rfl)
  have k0 := h0
  have lt0 : ∀ x ∈ p0, x.block < W.heap.size := by obtain ⟨m, hm⟩ := k0; exact DataW.trod_lt m _ _ _ hm
  have sw0 : ∀ el sp, d0 = .slice el sp → (el.length + sp.length) * Tryd.prog.bytesOf 9 ≤ reachBytes := fun el sp e => sized_slice hsz (j := 0) (t := 33) rfl (by rw [e]; rfl) Tryd.underlying33
  obtain ⟨x0, rfl, hr0, hc0, hb0, hl0⟩ := Rk.open_strs Tryd.underlying33 Tryd.underlying9 (by kernel_rfl) (B := 16) (by kernel_rfl) sw0 h0
  obtain ⟨a1, rfl, rfl, rfl, y1⟩ := open_string Tryd.underlying9 (hval 1 9 v1 rfl rfl) h1
  have w1 : a1.size ≤ 140737488351232 := by
    have z := sized_string hsz (j := 1) (t := 9) rfl rfl
    rw [Array.length_toList] at z
    exact z
  clear hA0 hval0 hsz0 hsz
  obtain ⟨k, hk⟩ : ∃ k, P.decklelaw16_FunctionTells.f k x0 a1 = some true := Pure.FunctionTells x0 a1 (by omega) hb0 w1
  refine (P.decklelaw16_FunctionTells.calls k A0 cap0 x0 a1 true W hr0 hc0 hE hk).mono fun e W' ⟨he, bel⟩ => ?_
  subst he
  exact ⟨_, rfl, _, _, _, [], _, [], hW', trodAll_mk1 (shut_bool Tryd.underlying4 _), (trodAll_cons_mk (Below.trod Rk3.laidOut (by kernel_rfl) (of_decide_eq_true (by kernel_rfl)) k0 bel lt0) (trodAll_cons_mk (shut_string Tryd.underlying9 y1) trodAll_mk0)), rfl, bel.frame _, fun h => by cases h⟩
theorem said : Rows.FunctionTellsSaid :=
  OpenClaim.holds_of_cond 8 Tryd.f8 rfl rfl rfl rfl rfl rfl rfl ⟨rfl, rfl, rfl, rfl, rfl⟩ rfl rfl rfl rfl rfl (by kernel_rfl) Tryd.func8 (by kernel_rfl)
    (of_decide_eq_true (by kernel_rfl)) (by unfold Func.isWrapper; first | (rw [if_pos (by decide +kernel)]; kernel_rfl) | (rw [if_neg (by decide +kernel)]; exact ⟨rfl, rfl⟩))
    (fun os started H enc _ F0 => by rw [OpenClaim.pre_eq_preRow]; exact lifted os started H enc F0)
theorem plain (f : FuncId) (fn : Func) (hf : Tryd.pinned.checked.prog.funcNamed "deckle/decklelaw16.FunctionTells" = some f) (hfn : Tryd.pinned.checked.prog.funcs[f]? = some fn) :
    false = Tryd.pinned.checked.prog.looks [] ∧ ∀ (j : Nat) t, fn.params[j]? = some t → Tryd.pinned.checked.prog.wantsStandIn t = false := by
  obtain rfl : f = 8 := Option.some.inj ((show Tryd.prog.funcNamed "deckle/decklelaw16.FunctionTells" = some 8 by kernel_rfl).symm.trans hf) |>.symm
  obtain rfl : fn = Tryd.f8 := (Option.some.inj (Tryd.func8.symm.trans hfn)).symm
  refine ⟨by kernel_rfl, fun j t ht => ?_⟩
  rw [Tryd.params8] at ht
  have hm := Array.mem_of_getElem? ht
  simp only [List.mem_toArray, List.mem_cons, List.not_mem_nil, or_false] at hm
  rcases hm with rfl | rfl
  · exact (show Tryd.prog.wantsStandIn 33 = false by kernel_rfl)
  · exact (show Tryd.prog.wantsStandIn 9 = false by kernel_rfl)
/-- The tied card. -/
theorem card : Rows.FunctionTellsCardSaid :=
  Claim7.holds_tied_plain_at .later [] _ _ _ _ said (fun _ h => by cases h) (by kernel_rfl) (fun _ h => by cases h) functionTells_row_tie rfl ⟨rfl, rfl⟩ (by kernel_rfl) rfl plain (by kernel_rfl)
#print axioms card
end Go.Proofs.YtmddkjmcbddhiaaDoor.functionTells
namespace Go.Proofs.YtmddkjmcbddhiaaDoor
/-- The card, under a short name, for the claim. -/
theorem functionTells_holds : Rows.FunctionTellsCardSaid := functionTells.card
end Go.Proofs.YtmddkjmcbddhiaaDoor
end
