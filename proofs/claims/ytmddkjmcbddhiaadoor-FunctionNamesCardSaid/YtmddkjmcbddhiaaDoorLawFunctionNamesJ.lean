/-
  Proved: right lines begin with a right header, of their name, and labels are names unlike it, and each other. Conditions: sizes that rows of texts can have.
  Proved: the Go function deckle/decklelaw16.FunctionNames answers true at every input; each argument reads afterwards as it read before. Conditions: none but the form's own.
-/
import Derived.Test.YtmddkjmcbddhiaaDoorFbJ
import Derived.Test.YtmddkjmcbddhiaaDoorP43J
import Derived.Test.YtmddkjmcbddhiaaDoorCards
import Derived.Test.YtmddkjmcbddhiaaDoorRk3J
import Derived.WalkKit
import Derived.ProofKit
import Derived.OpenShut
import Derived.ShutString
import Derived.ChangeOld
import Derived.Below
import Derived.SizedLaws
import Derived.Deep.DeepHandedRow
import Derived.Deep.DeepWitnessRowRef
import Derived.Lib.LaidIn
import Derived.Test.YtmddkjmcbddhiaaDoorWSized
section
namespace Go.Proofs.YtmddkjmcbddhiaaDoor.Pure
open Go.RowKit Go.Proofs.YtmddkjmcbddhiaaDoor.P Go.Proofs.YtmddkjmcbddhiaaDoorW.PrintWords Go.Proofs.YtmddkjmcbddhiaaDoor.Sp
set_option linter.unusedVariables false
set_option linter.unusedSimpArgs false

theorem names_loop (l : List ByteArray) (R : Raw) (lab : List ByteArray) (hl : lab.length ≤ 1099511627776) (hs : ∀ x ∈ lab, x.size ≤ 1099511627776) (hnm : (bys lab).all isName = true) (hc : R.c.data.toList ∉ bys lab) (hd : R.d.data.toList ∉ bys lab)
    (hend : ∃ K, ∀ k, K ≤ k → decklelaw16_FunctionNames.l0 k l true true lab (lab.length : Int) R.a R.b R.c R.d R.e R.f R.ls = some true) (n : Nat) : ∀ i : Nat, i ≤ lab.length → lab.length ≤ i + n →
    Ev (fun k => decklelaw16_FunctionNames.l0 k l true true lab (i : Int) R.a R.b R.c R.d R.e R.f R.ls) true := by
  have stop : ∀ i : Nat, i ≤ lab.length → lab.length ≤ i → Ev (fun k => decklelaw16_FunctionNames.l0 k l true true lab (i : Int) R.a R.b R.c R.d R.e R.f R.ls) true := by
    intro i h1 h2
    obtain rfl : i = lab.length := by omega
    exact hend
  induction n with
  | zero => intro i h1 h2; exact stop i h1 (by omega)
  | succ n ih =>
    intro i h1 h2
    by_cases hlt : i < lab.length
    · have hmem : lab[i].data.toList ∈ bys lab := List.mem_map_of_mem (List.getElem_mem hlt)
      have hsz := hs _ (List.getElem_mem hlt)
      refine Ev.step (fun k => ?_) (ih (i + 1) (by omega) (by omega))
      rw [decklelaw16_FunctionNames.l0, if_pos (by omega), if_pos (by omega), rdOf_at lab i hlt, name_Right_f _ (by omega), List.all_eq_true.1 hnm _ hmem]
      simp only [Option.bind_some, if_true]
      rw [ByteArray.toList_eq, ByteArray.toList_eq, ByteArray.toList_eq, if_neg (fun e => hc (by rw [← e]; exact hmem)), if_neg (fun e => hd (by rw [← e]; exact hmem)), wrap_nat rfl (by omega)]
    · exact stop i h1 (by omega)
theorem FunctionNames (l : List ByteArray) (hl : l.length ≤ 4611686018427387904) (hb : ∀ x ∈ l, x.size ≤ maxLen) : ∃ k, decklelaw16_FunctionNames.f k l = some true := by
  obtain ⟨r, ⟨K1, h1⟩, h2⟩ := fewF_ev l hl
  cases r with
  | false =>
    have e1 : decklelaw16_Few.f (K1 + 1) l = some false := h1 _ (by omega)
    refine ⟨K1 + 1, ?_⟩
    unfold decklelaw16_FunctionNames.f
    simp only [decklelaw16_small.f, Option.bind_some, e1, Bool.false_eq_true, if_false]
    rw [decklelaw16_FunctionNames.j0, if_pos rfl, if_pos rfl, if_neg (by simp)]
  | true =>
    obtain ⟨hn, hsz⟩ := h2 rfl
    have hsz2 : ∀ x ∈ l, x.size ≤ 1099511627776 := fun x hx => by have := hsz x hx; omega
    obtain ⟨K2, k2⟩ := labels_ev l (by omega)
    obtain ⟨K3, k3⟩ := right_ev l (by omega) hsz2
    obtain ⟨K4, k4⟩ := name_ev l (by omega) hsz2
    cases hr : rightF l with
    | false =>
      refine ⟨K1 + K2 + K3 + K4 + 1, ?_⟩
      have e1 : decklelaw16_Few.f (K1 + K2 + K3 + K4 + 1) l = some true := h1 _ (by omega)
      have e3 : function_Right.f (K1 + K2 + K3 + K4 + 1) l = some (rightF l) := k3 _ (by omega)
      have e4 : function_Name.f (K1 + K2 + K3 + K4) l = some (nameF l) := k4 _ (by omega)
      have e5 : nameF l = ⟨#[]⟩ := by unfold nameF; rw [if_neg (by simp [hr])]
      unfold decklelaw16_FunctionNames.f
      simp only [decklelaw16_small.f, Option.bind_some, e1, if_true, e3, hr, Bool.not_false]
      rw [decklelaw16_FunctionNames.j0, if_pos rfl, if_pos rfl, if_pos rfl, e4, e5]
      simp only [Option.bind_some, ByteArray.toList_eq]
      rfl
    | true =>
      obtain ⟨g1, g2, g3, g4, g5, g6⟩ := rightF_pos hr
      have hh : (headOf l).size ≤ 1099511627776 := by
        cases l with
        | nil => simp at g1
        | cons x t => exact hsz2 x (List.mem_cons_self ..)
      obtain ⟨u1, u2, u3⟩ := unl_parts g6
      have hls := labs_size (n := 1099511627776) hsz2
      have hll := labs_length l
      have hok : hdrOk (st0 (headOf l)).a.data.toList (st0 (headOf l)).b.data.toList (st0 (headOf l)).c.data.toList (st0 (headOf l)).d.data.toList (st0 (headOf l)).e.data.toList (st0 (headOf l)).f.data.toList (bys (st0 (headOf l)).ls) = true := (reads_iff.1 g4).2.2.1
      have hcn := hdrOk_name hok
      have hsn : ∀ z, z ∈ bys (labs l) → z ∉ (st0 (headOf l)).names := fun z hz => u3 z hz (isName_ne (List.all_eq_true.1 g5 z hz))
      have hc : (st0 (headOf l)).c.data.toList ∉ bys (labs l) := fun h => hsn _ h (by unfold Raw.names; simp)
      have hd : (st0 (headOf l)).d.data.toList ∉ bys (labs l) := fun h => hsn _ h (by unfold Raw.names; simp)
      have hpar := header_Parse_f (headOf l) hh
      rw [g4, if_pos rfl] at hpar
      have hcz := (st0_size (headOf l)).c
      have hnf : nameF l = (st0 (headOf l)).c := by unfold nameF; rw [if_pos hr]
      obtain ⟨R, hR⟩ : ∃ R, R = st0 (headOf l) := ⟨_, rfl⟩
      rw [← hR] at hpar hc hd hcn hcz hnf
      have hun : name_Unlike.f (labs l) = some true := by
        unfold name_Unlike.f
        have ha : (labs l).all (fun s => decide (s.size ≤ maxLen)) = true := by
          rw [List.all_eq_true]
          intro x hx
          have := hls x hx
          exact decide_eq_true (by unfold maxLen; omega)
        rw [if_pos ⟨by omega, ha⟩, u2]
      have hend : ∃ K, ∀ k, K ≤ k → decklelaw16_FunctionNames.l0 k l true true (labs l) ((labs l).length : Int) R.a R.b R.c R.d R.e R.f R.ls = some true := by
        refine ⟨K4 + 1, fun k hk => ?_⟩
        obtain ⟨m, rfl⟩ : ∃ m, k = m + 1 := ⟨k - 1, by omega⟩
        have e4 : function_Name.f m l = some (nameF l) := k4 _ (by omega)
        rw [decklelaw16_FunctionNames.l0, if_neg (by omega), if_pos rfl, if_pos rfl, e4, hnf]
        simp only [Option.bind_some, if_true]
        rw [name_Right_f _ (by omega), hcn]
        simp only [Option.bind_some, if_true, hun]
      obtain ⟨K5, k5⟩ := names_loop l R (labs l) (by omega) hls g5 hc hd hend _ 0 (Nat.zero_le _) (Nat.le_add_left _ _)
      refine ⟨K1 + K2 + K3 + K4 + K5 + 1, ?_⟩
      have e1 : decklelaw16_Few.f (K1 + K2 + K3 + K4 + K5 + 1) l = some true := h1 _ (by omega)
      have e2 : function_Labels.f (K1 + K2 + K3 + K4 + K5) l = some (labs l) := k2 _ (by omega)
      have e3 : function_Right.f (K1 + K2 + K3 + K4 + K5 + 1) l = some (rightF l) := k3 _ (by omega)
      have e5 := k5 (K1 + K2 + K3 + K4 + K5) (by omega)
      unfold decklelaw16_FunctionNames.f
      simp only [decklelaw16_small.f, Option.bind_some, e1, if_true, e3, hr, Bool.not_true]
      rw [decklelaw16_FunctionNames.j0, if_neg (by simp), if_neg (by omega), if_pos (by omega), headOf_at l (by omega), hpar]
      simp only [Option.bind_some, e2]
      exact e5
end Go.Proofs.YtmddkjmcbddhiaaDoor.Pure
end
section
namespace Go.Proofs.YtmddkjmcbddhiaaDoor.functionNames
open Go.ChangeShapes Go.WideShapes Go.ChangeAt Go.RowKit Go.Proofs.YtmddkjmcbddhiaaDoorW.PrintWords
open Go.ChangeMaps (open_string shut_string)
set_option linter.unusedVariables false
set_option linter.unusedSimpArgs false
theorem own : ownKnob Tryd.prog.godebug = none := by kernel_rfl
theorem laid_met (os : Os) : laidMet Tryd.prog Rows.functionNamesRow.laid ((Rk3.laidWorld os).forCall (fun _ _ => 0) ⟨#[], #[.slice none 0 0], []⟩).memory :=
  (LaidIn.of_run (l := [("unicode/utf8.acceptRanges", Rows.laid_unicode_utf8_acceptRanges), ("unicode/utf8.first", Rows.laid_unicode_utf8_first)]) [1, 0] 8 (by kernel_rfl) (by kernel_rfl) (by kernel_rfl) (by kernel_rfl)).met
theorem witness_row (os : Os) {H : Type} (enc : TypeId × Value → H) :
    (OpenSpec.ofChange Rows.functionNamesSpec).preRow enc Tryd.prog Tryd.f10 Rows.functionNamesRow.domain false Rows.functionNamesRow.laid ((Rk3.laidWorld os).forCall (fun _ _ => 0) ⟨#[], #[.slice none 0 0], []⟩).memory #[.slice none 0 0] := by
  have hw : (DataW.whole enc Tryd.prog ((Rk3.laidWorld os).forCall (fun _ _ => 0) ⟨#[], #[.slice none 0 0], []⟩).memory Tryd.f10.params.toList (OpenSpec.ofChange Rows.functionNamesSpec).vars false #[.slice none 0 0].toList 8).map (fun x => (x.1, x.2.1)) = some ([.nil], []) := by kernel_rfl
  obtain ⟨⟨x1, x2, x3⟩, hx, hx1⟩ := Option.map_eq_some_iff.1 hw
  simp only [Prod.mk.injEq] at hx1
  obtain ⟨rfl, rfl⟩ := hx1
  exact OpenSpec.preRow_of_cond 8 hx (by kernel_rfl) (fun k hk => by cases hk) (by kernel_rfl) (laid_met os)
set_option maxRecDepth 100000 in
set_option maxHeartbeats 2000000 in
theorem lifted (os : Os) (started : os.Started) (H : Type) (enc : TypeId × Value → H) (FF : Stop.Interp) :
    ReturnsInHanded {} Tryd.checked os 10 .any ((OpenSpec.ofChange Rows.functionNamesSpec).preRow enc Tryd.prog Tryd.f10 Rows.functionNamesRow.domain false Rows.functionNamesRow.laid) (((OpenSpec.ofChange Rows.functionNamesSpec).at FF).post enc Tryd.prog Tryd.f10 false true false false) := by
  refine returnsInHanded_of_row (C := Tryd.checked) (s := (OpenSpec.ofChange Rows.functionNamesSpec)) own started (by kernel_rfl) Tryd.func10
    (witness_row_atRef (enc := enc) (C := Tryd.checked) false (Rk3.laidWorld os) #[.slice none 0 0] rfl (by kernel_rfl) (by kernel_rfl) (by kernel_rfl) (witness_row os enc)) ?_
  intro W base args ds gs before hval0 hW _ _ hsz0 hL hsh _
  have hE : P.Env W := Rk3.env_of hL hsh
  have hsz : (DataW.weightsEach Tryd.prog (Tryd.f10.params.toList ++ (OpenSpec.ofChange Rows.functionNamesSpec).bare.plain.varTypes Tryd.prog) (ds ++ gs)).all (· ≤ reachBytes) = true := hsz0
  have hval : ∀ (j : Nat) t v, Tryd.f10.params[j]? = some t → args[j]? = some v → Value.okWide Tryd.prog W .any base t v := hval0
  have hW' := hW
  obtain ⟨p, q, hA0, hV, rfl, hfz, hnd⟩ := hW
  have hA : DataW.TrodAll enc Tryd.prog W 0 (fun _ => true) true Tryd.f10.params.toList args.toList ds p := hA0
  rw [Tryd.params10] at hA hval hsz
  obtain ⟨v0, vs0, d0, ds0, p0, q0, hargs, rfl, rfl, h0, r0⟩ := trodAll_cons hA
  obtain ⟨rfl, rfl, rfl⟩ := trodAll_nil r0
  obtain rfl : args = #[v0] := by cases args; simp_all
  obtain ⟨rfl, rfl⟩ := trodVars_none hV
  obtain ⟨A0, len0, cap0, rfl⟩ := okWide_slice Tryd.underlying33 (hval 0 33 v0 rfl rfl)
  have k0 := h0
  have lt0 : ∀ x ∈ p0, x.block < W.heap.size := by obtain ⟨m, hm⟩ := k0; exact DataW.trod_lt m _ _ _ hm
  have sw0 : ∀ el sp, d0 = .slice el sp → (el.length + sp.length) * Tryd.prog.bytesOf 9 ≤ reachBytes := fun el sp e => sized_slice hsz (j := 0) (t := 33) rfl (by rw [e]; rfl) Tryd.underlying33
  obtain ⟨x0, rfl, hr0, hc0, hb0, hl0⟩ := Rk.open_strs Tryd.underlying33 Tryd.underlying9 (by kernel_rfl) (B := 16) (by kernel_rfl) sw0 h0
  clear hA0 hval0 hsz0 hsz
  obtain ⟨k, hk⟩ : ∃ k, P.decklelaw16_FunctionNames.f k x0 = some true := Pure.FunctionNames x0 (by omega) hb0
  refine (P.decklelaw16_FunctionNames.calls k A0 cap0 x0 true W hr0 hc0 hE hk).mono fun e W' ⟨he, bel⟩ => ?_
  subst he
  exact ⟨_, rfl, _, _, _, [], _, [], hW', trodAll_mk1 (shut_bool Tryd.underlying4 _), (trodAll_cons_mk (Below.trod Rk3.laidOut (by kernel_rfl) (of_decide_eq_true (by kernel_rfl)) k0 bel lt0) trodAll_mk0), rfl, bel.frame _, fun h => by cases h⟩
theorem said : Rows.FunctionNamesSaid :=
  OpenClaim.holds_of_cond 10 Tryd.f10 rfl rfl rfl rfl rfl rfl rfl ⟨rfl, rfl, rfl, rfl, rfl⟩ rfl rfl rfl rfl rfl (by kernel_rfl) Tryd.func10 (by kernel_rfl)
    (of_decide_eq_true (by kernel_rfl)) (by unfold Func.isWrapper; first | (rw [if_pos (by decide +kernel)]; kernel_rfl) | (rw [if_neg (by decide +kernel)]; exact ⟨rfl, rfl⟩))
    (fun os started H enc _ F0 => by rw [OpenClaim.pre_eq_preRow]; exact lifted os started H enc F0)
theorem plain (f : FuncId) (fn : Func) (hf : Tryd.pinned.checked.prog.funcNamed "deckle/decklelaw16.FunctionNames" = some f) (hfn : Tryd.pinned.checked.prog.funcs[f]? = some fn) :
    false = Tryd.pinned.checked.prog.looks [] ∧ ∀ (j : Nat) t, fn.params[j]? = some t → Tryd.pinned.checked.prog.wantsStandIn t = false := by
  obtain rfl : f = 10 := Option.some.inj ((show Tryd.prog.funcNamed "deckle/decklelaw16.FunctionNames" = some 10 by kernel_rfl).symm.trans hf) |>.symm
  obtain rfl : fn = Tryd.f10 := (Option.some.inj (Tryd.func10.symm.trans hfn)).symm
  refine ⟨by kernel_rfl, fun j t ht => ?_⟩
  rw [Tryd.params10] at ht
  have hm := Array.mem_of_getElem? ht
  simp only [List.mem_toArray, List.mem_cons, List.not_mem_nil, or_false] at hm
  rcases hm with rfl
  · exact (show Tryd.prog.wantsStandIn 33 = false by kernel_rfl)
/-- The tied card. -/
theorem card : Rows.FunctionNamesCardSaid :=
  Claim7.holds_tied_plain_at .later [] _ _ _ _ said (fun _ h => by cases h) (by kernel_rfl) (fun _ h => by cases h) functionNames_row_tie rfl ⟨rfl, rfl⟩ (by kernel_rfl) rfl plain (by kernel_rfl)
#print axioms card
end Go.Proofs.YtmddkjmcbddhiaaDoor.functionNames
namespace Go.Proofs.YtmddkjmcbddhiaaDoor
/-- The card, under a short name, for the claim. -/
theorem functionNames_holds : Rows.FunctionNamesCardSaid := functionNames.card
end Go.Proofs.YtmddkjmcbddhiaaDoor
end
