/-
  P41
-/
import Derived.Test.YtmddkjmcbddhiaaDoorP0KQ
import Derived.Test.YtmddkjmcbddhiaaDoorP19KQ
import Derived.Test.YtmddkjmcbddhiaaDoorP20KQ
import Derived.Test.YtmddkjmcbddhiaaDoorGTakeKQ
import Derived.Test.YtmddkjmcbddhiaaDoorP27KQ
import Derived.Test.YtmddkjmcbddhiaaDoorGSmall16KQ
import Derived.Test.YtmddkjmcbddhiaaDoorP30KQ
import Derived.Test.YtmddkjmcbddhiaaDoorP31KQ
import Derived.Test.YtmddkjmcbddhiaaDoorP33KQ
import Derived.Test.YtmddkjmcbddhiaaDoorP39KQ
import Derived.Test.YtmddkjmcbddhiaaDoorP40KQ
-- written by wip/tools/print2.py (a program of this session over the kit's print); not trusted: Lean checks it
namespace Go.Proofs.YtmddkjmcbddhiaaDoor.P
open Go.RowKit Go.Proofs.YtmddkjmcbddhiaaDoorW.PrintWords Go.Proofs.YtmddkjmcbddhiaaDoorW.PrintLast Go.Proofs.YtmddkjmcbddhiaaDoorW.PrintMore
attribute [local go_sem] max2_int min2_int max_two min_two max_three min_three max_four min_four   -- for this text's walks alone
set_option linter.unusedVariables false
set_option linter.unusedSimpArgs false

/-! ### decklelaw16_FunctionTells: function 8 -/
def decklelaw16_FunctionTells.j0 : Nat → List ByteArray → ByteArray → Bool → Bool → Option (Bool)
  | 0, _, _, _, _ => none
  | k + 1, x0, x1, x5, x16 => if x16 = true then (some x5) else (if x5 = true then ((function_Line.f x1).bind fun t485 => ((deckleref16_Line.f k x1).bind fun t486 => (if (t485 == t486) = true then ((function_Labels.f k x0).bind fun t487 => ((deckleref16_Labels.f k x0).bind fun t490 => ((deckleref16_Same.f k t487 t490).bind fun t493 => (if t493 = true then ((function_Right.f k x0).bind fun t494 => ((deckleref16_Right.f k x0).bind fun t495 => (if (t494 == t495) = true then ((function_Name.f k x0).bind fun t496 => ((deckleref16_Name.f k x0).bind fun t497 => (if t496.toList = t497.toList then ((function_Join.f x0).bind fun t498 => ((deckleref16_Join.f k x0).bind fun t499 => (if t498.toList = t499.toList then ((function_Split.f x1).bind fun t500 => ((deckleref16_Split.f k x1).bind fun t503 => ((deckleref16_Same.f k t500 t503).bind fun t506 => (some t506)))) else (none)))) else (none)))) else (none)))) else (none))))) else (none)))) else (none))
def decklelaw16_FunctionTells.f (k : Nat) (l0 : List ByteArray) (a1 : ByteArray) : Option (Bool) := (decklelaw16_small.f).bind fun t483 => ((decklelaw16_Few.f k l0).bind fun t484 => (if t484 = true then (decklelaw16_FunctionTells.j0 k l0 a1 t483 (decide ((a1.size : Int) > 500))) else (decklelaw16_FunctionTells.j0 k l0 a1 t483 true)))
set_option maxHeartbeats 8000000 in
set_option maxRecDepth 100000 in
theorem decklelaw16_FunctionTells.calls (k : Nat) (A0 : Option Addr) (c0 : Nat) (l0 : List ByteArray) (a1 : ByteArray) (r : Bool) (w : World) (hr0 : Kd.C Kd.string w A0 l0.length l0) (hc0 : l0.length ≤ c0) (hE_ : Env w) (h : decklelaw16_FunctionTells.f k l0 a1 = some r) :
    Calls Tryd.prog 8 #[.slice A0 l0.length c0, .string a1] w fun e w' => e = .returned (.bool r) ∧ Below w.heap.size w w' := by
  have HR0 := Aside0.mk hr0
  have HC0 := Aside0.mk hc0
  clear hr0 hc0
  have HB := Aside0.mk (Below.refl w.heap.size w)
  have HE_ := Aside0.mk hE_
  clear hE_
  have H : ((decklelaw16_small.f).bind fun t483 => ((decklelaw16_Few.f k l0).bind fun t484 => (if t484 = true then (decklelaw16_FunctionTells.j0 k l0 a1 t483 (decide ((a1.size : Int) > 500))) else (decklelaw16_FunctionTells.j0 k l0 a1 t483 true)))) = some r := h
  clear h
  replace H := Option.bind_eq_some_iff.mp H
  obtain ⟨t483, A30, H⟩ := H
  replace H : ((decklelaw16_Few.f k l0).bind fun t484 => (if t484 = true then (decklelaw16_FunctionTells.j0 k l0 a1 t483 (decide ((a1.size : Int) > 500))) else (decklelaw16_FunctionTells.j0 k l0 a1 t483 true))) = some r := H
  have A3 := Aside0.mk A30
  clear A30
  replace H := Option.bind_eq_some_iff.mp H
  obtain ⟨t484, A40, H⟩ := H
  replace H : (if t484 = true then (decklelaw16_FunctionTells.j0 k l0 a1 t483 (decide ((a1.size : Int) > 500))) else (decklelaw16_FunctionTells.j0 k l0 a1 t483 true)) = some r := H
  have A4 := Aside0.mk A40
  clear A40
  have HC5 := Aside0.mk H
  clear H
  go_enter Tryd.func8, Tryd.ntmps8
  go_upto_region 3 with (first | ((with_reducible refine gate_callee (f := 19) rfl ?_); refine goesL_ (some 7) rfl rfl Tryd.func19 (by kernel_rfl) rfl #[] rfl (by (try simp only [List.map_toArray, List.map_cons, List.map_nil]); first | done | rfl | (simp only [List.length_drop, List.length_take]; rfl)) ?_; (with_reducible refine (decklelaw16_small.calls  t483 _ ?side1 A3.out).mono ?_); (case side1 => exact HE_.out.below (by repeat (first | (with_reducible first | exact HB.out | apply below_alloc | apply pw_below_drewN | apply below_drew1) | exact HB.out))); rintro e w6 ⟨rfl, hb⟩; refine ⟨_, rfl, ?_⟩; have n0_ := Aside0.mk (below_step (by repeat (first | (with_reducible first | exact HB.out | apply below_alloc | apply pw_below_drewN | apply below_drew1) | exact HB.out)) hb); clear HB; have HB := n0_; clear n0_; (try clear hb); (try clear hb2); (try clear hk); (try clear hi)) | ((with_reducible refine gate_callee (f := 20) rfl ?_); refine goesL_ (some 9) rfl rfl Tryd.func20 (by kernel_rfl) rfl #[.slice A0 l0.length c0] rfl (by (try simp only [List.map_toArray, List.map_cons, List.map_nil]); first | done | rfl | (simp only [List.length_drop, List.length_take]; rfl)) ?_; (with_reducible refine (decklelaw16_Few.calls k _ _ l0 t484 _ ?side1 ?side2 A4.out).mono ?_); (case side1 => repeat (first | exact (Kd.C_below HR0.out HB.out) | (with_reducible refine Kd.C_alloc ?_ _) | (with_reducible refine Kd.C_drewN ?_ _) | (with_reducible refine Kd.C_drew ?_))); (case side2 => exact HC0.out); rintro e w' ⟨rfl, ⟨nd, rfl⟩⟩; refine ⟨_, rfl, ?_⟩))
  (try simp only [Act.put, List.setIfInBounds_toArray, List.set_cons_zero, List.set_cons_succ])
  go_cut [16] (fun v16 wc => ∃ (kq : Nat) (x16_4 : Bool), v16 = .bool x16_4 ∧ Aside0 (decklelaw16_FunctionTells.j0 kq l0 a1 t483 x16_4 = some r) ∧ Aside0 (kq ≤ k) ∧ Aside0 (Below w.heap.size w wc))
  case first =>
    have H := HC5.out
    clear HC5
    by_cases c7 : t484 = true
    · subst c7
      have H1 : (decklelaw16_FunctionTells.j0 k l0 a1 t483 (decide ((a1.size : Int) > 500))) = some r := by rw [if_pos rfl] at H; exact H
      clear H
      have H := H1
      clear H1
      have H' := Aside0.mk H
      clear H
      go_wp2
      go_meet
      case rel => exact ⟨_, (decide ((a1.size : Int) > 500)), (by first | rfl | (simp; done) | (simp [*]; done)), H', ⟨by first | omega | exact Nat.le_refl _⟩, ⟨by repeat (first | (with_reducible first | exact HB.out | apply below_alloc | apply pw_below_drewN | apply below_drew1) | exact HB.out)⟩⟩
    · replace c7 := Bool.eq_false_iff.mpr c7
      subst c7
      have H1 : (decklelaw16_FunctionTells.j0 k l0 a1 t483 true) = some r := by rw [if_neg (show ¬ (false = true) by decide)] at H; exact H
      clear H
      have H := H1
      clear H1
      have H' := Aside0.mk H
      clear H
      go_wp2
      go_meet
      case rel => exact ⟨_, (true), (by first | rfl | (simp; done) | (simp [*]; done)), H', ⟨by first | omega | exact Nat.le_refl _⟩, ⟨by repeat (first | (with_reducible first | exact HB.out | apply below_alloc | apply pw_below_drewN | apply below_drew1) | exact HB.out)⟩⟩
  case rest =>
    clear HC5
    try clear c1
    try clear c2
    try clear p2
    try clear c7
    obtain ⟨kq, x16_4, rfl, HA, HJ4, HB⟩ := hcut
    cases kq with
    | zero => exact absurd HA.out (by simp [decklelaw16_FunctionTells.j0])
    | succ kj4 =>
      have H := HA.out
      clear HA
      simp only [decklelaw16_FunctionTells.j0] at H
      by_cases c8 : x16_4 = true
      · subst c8
        have H1 : (some t483) = some r := by rw [if_pos rfl] at H; exact H
        clear H
        have H := H1
        clear H1
        obtain rfl := Option.some.inj H
        go_wp2
        go_ret
        exact ⟨by first | rfl | (simp [errW_none, errW_some] <;> rfl) | (simp [*, errW_none, errW_some] <;> rfl), by repeat (first | (with_reducible first | exact HB.out | apply below_alloc | apply pw_below_drewN | apply below_drew1) | exact HB.out)⟩
      · replace c8 := Bool.eq_false_iff.mpr c8
        subst c8
        have H1 : (if t483 = true then ((function_Line.f a1).bind fun t485 => ((deckleref16_Line.f kj4 a1).bind fun t486 => (if (t485 == t486) = true then ((function_Labels.f kj4 l0).bind fun t487 => ((deckleref16_Labels.f kj4 l0).bind fun t490 => ((deckleref16_Same.f kj4 t487 t490).bind fun t493 => (if t493 = true then ((function_Right.f kj4 l0).bind fun t494 => ((deckleref16_Right.f kj4 l0).bind fun t495 => (if (t494 == t495) = true then ((function_Name.f kj4 l0).bind fun t496 => ((deckleref16_Name.f kj4 l0).bind fun t497 => (if t496.toList = t497.toList then ((function_Join.f l0).bind fun t498 => ((deckleref16_Join.f kj4 l0).bind fun t499 => (if t498.toList = t499.toList then ((function_Split.f a1).bind fun t500 => ((deckleref16_Split.f kj4 a1).bind fun t503 => ((deckleref16_Same.f kj4 t500 t503).bind fun t506 => (some t506)))) else (none)))) else (none)))) else (none)))) else (none))))) else (none)))) else (none)) = some r := by rw [if_neg (show ¬ (false = true) by decide)] at H; exact H
        clear H
        have H := H1
        clear H1
        by_cases c9 : t483 = true
        · subst c9
          have H1 : ((function_Line.f a1).bind fun t485 => ((deckleref16_Line.f kj4 a1).bind fun t486 => (if (t485 == t486) = true then ((function_Labels.f kj4 l0).bind fun t487 => ((deckleref16_Labels.f kj4 l0).bind fun t490 => ((deckleref16_Same.f kj4 t487 t490).bind fun t493 => (if t493 = true then ((function_Right.f kj4 l0).bind fun t494 => ((deckleref16_Right.f kj4 l0).bind fun t495 => (if (t494 == t495) = true then ((function_Name.f kj4 l0).bind fun t496 => ((deckleref16_Name.f kj4 l0).bind fun t497 => (if t496.toList = t497.toList then ((function_Join.f l0).bind fun t498 => ((deckleref16_Join.f kj4 l0).bind fun t499 => (if t498.toList = t499.toList then ((function_Split.f a1).bind fun t500 => ((deckleref16_Split.f kj4 a1).bind fun t503 => ((deckleref16_Same.f kj4 t500 t503).bind fun t506 => (some t506)))) else (none)))) else (none)))) else (none)))) else (none))))) else (none)))) = some r := by rw [if_pos rfl] at H; exact H
          clear H
          have H := H1
          clear H1
          replace H := Option.bind_eq_some_iff.mp H
          obtain ⟨t485, A100, H⟩ := H
          replace H : ((deckleref16_Line.f kj4 a1).bind fun t486 => (if (t485 == t486) = true then ((function_Labels.f kj4 l0).bind fun t487 => ((deckleref16_Labels.f kj4 l0).bind fun t490 => ((deckleref16_Same.f kj4 t487 t490).bind fun t493 => (if t493 = true then ((function_Right.f kj4 l0).bind fun t494 => ((deckleref16_Right.f kj4 l0).bind fun t495 => (if (t494 == t495) = true then ((function_Name.f kj4 l0).bind fun t496 => ((deckleref16_Name.f kj4 l0).bind fun t497 => (if t496.toList = t497.toList then ((function_Join.f l0).bind fun t498 => ((deckleref16_Join.f kj4 l0).bind fun t499 => (if t498.toList = t499.toList then ((function_Split.f a1).bind fun t500 => ((deckleref16_Split.f kj4 a1).bind fun t503 => ((deckleref16_Same.f kj4 t500 t503).bind fun t506 => (some t506)))) else (none)))) else (none)))) else (none)))) else (none))))) else (none))) = some r := H
          have A10 := Aside0.mk A100
          clear A100
          replace H := Option.bind_eq_some_iff.mp H
          obtain ⟨t486, A110, H⟩ := H
          replace H : (if (t485 == t486) = true then ((function_Labels.f kj4 l0).bind fun t487 => ((deckleref16_Labels.f kj4 l0).bind fun t490 => ((deckleref16_Same.f kj4 t487 t490).bind fun t493 => (if t493 = true then ((function_Right.f kj4 l0).bind fun t494 => ((deckleref16_Right.f kj4 l0).bind fun t495 => (if (t494 == t495) = true then ((function_Name.f kj4 l0).bind fun t496 => ((deckleref16_Name.f kj4 l0).bind fun t497 => (if t496.toList = t497.toList then ((function_Join.f l0).bind fun t498 => ((deckleref16_Join.f kj4 l0).bind fun t499 => (if t498.toList = t499.toList then ((function_Split.f a1).bind fun t500 => ((deckleref16_Split.f kj4 a1).bind fun t503 => ((deckleref16_Same.f kj4 t500 t503).bind fun t506 => (some t506)))) else (none)))) else (none)))) else (none)))) else (none))))) else (none)) = some r := H
          have A11 := Aside0.mk A110
          clear A110
          by_cases c12 : (t485 == t486) = true
          · rw [if_pos c12] at H
            have c12b0 : (t485 == t486) = true := c12
            (try (have c12b1 : decide (t485 = t486) = true := by simpa using c12))
            (try (have c12b2 : (t485 == t486) = true := by simpa using c12))
            clear c12
            replace H := Option.bind_eq_some_iff.mp H
            obtain ⟨t487, A130, H⟩ := H
            replace H : ((deckleref16_Labels.f kj4 l0).bind fun t490 => ((deckleref16_Same.f kj4 t487 t490).bind fun t493 => (if t493 = true then ((function_Right.f kj4 l0).bind fun t494 => ((deckleref16_Right.f kj4 l0).bind fun t495 => (if (t494 == t495) = true then ((function_Name.f kj4 l0).bind fun t496 => ((deckleref16_Name.f kj4 l0).bind fun t497 => (if t496.toList = t497.toList then ((function_Join.f l0).bind fun t498 => ((deckleref16_Join.f kj4 l0).bind fun t499 => (if t498.toList = t499.toList then ((function_Split.f a1).bind fun t500 => ((deckleref16_Split.f kj4 a1).bind fun t503 => ((deckleref16_Same.f kj4 t500 t503).bind fun t506 => (some t506)))) else (none)))) else (none)))) else (none)))) else (none)))) = some r := H
            have A13 := Aside0.mk A130
            clear A130
            replace H := Option.bind_eq_some_iff.mp H
            obtain ⟨t490, A140, H⟩ := H
            replace H : ((deckleref16_Same.f kj4 t487 t490).bind fun t493 => (if t493 = true then ((function_Right.f kj4 l0).bind fun t494 => ((deckleref16_Right.f kj4 l0).bind fun t495 => (if (t494 == t495) = true then ((function_Name.f kj4 l0).bind fun t496 => ((deckleref16_Name.f kj4 l0).bind fun t497 => (if t496.toList = t497.toList then ((function_Join.f l0).bind fun t498 => ((deckleref16_Join.f kj4 l0).bind fun t499 => (if t498.toList = t499.toList then ((function_Split.f a1).bind fun t500 => ((deckleref16_Split.f kj4 a1).bind fun t503 => ((deckleref16_Same.f kj4 t500 t503).bind fun t506 => (some t506)))) else (none)))) else (none)))) else (none)))) else (none))) = some r := H
            have A14 := Aside0.mk A140
            clear A140
            replace H := Option.bind_eq_some_iff.mp H
            obtain ⟨t493, A150, H⟩ := H
            replace H : (if t493 = true then ((function_Right.f kj4 l0).bind fun t494 => ((deckleref16_Right.f kj4 l0).bind fun t495 => (if (t494 == t495) = true then ((function_Name.f kj4 l0).bind fun t496 => ((deckleref16_Name.f kj4 l0).bind fun t497 => (if t496.toList = t497.toList then ((function_Join.f l0).bind fun t498 => ((deckleref16_Join.f kj4 l0).bind fun t499 => (if t498.toList = t499.toList then ((function_Split.f a1).bind fun t500 => ((deckleref16_Split.f kj4 a1).bind fun t503 => ((deckleref16_Same.f kj4 t500 t503).bind fun t506 => (some t506)))) else (none)))) else (none)))) else (none)))) else (none)) = some r := H
            have A15 := Aside0.mk A150
            clear A150
            by_cases c16 : t493 = true
            · subst c16
              have H1 : ((function_Right.f kj4 l0).bind fun t494 => ((deckleref16_Right.f kj4 l0).bind fun t495 => (if (t494 == t495) = true then ((function_Name.f kj4 l0).bind fun t496 => ((deckleref16_Name.f kj4 l0).bind fun t497 => (if t496.toList = t497.toList then ((function_Join.f l0).bind fun t498 => ((deckleref16_Join.f kj4 l0).bind fun t499 => (if t498.toList = t499.toList then ((function_Split.f a1).bind fun t500 => ((deckleref16_Split.f kj4 a1).bind fun t503 => ((deckleref16_Same.f kj4 t500 t503).bind fun t506 => (some t506)))) else (none)))) else (none)))) else (none)))) = some r := by rw [if_pos rfl] at H; exact H
              clear H
              have H := H1
              clear H1
              replace H := Option.bind_eq_some_iff.mp H
              obtain ⟨t494, A170, H⟩ := H
              replace H : ((deckleref16_Right.f kj4 l0).bind fun t495 => (if (t494 == t495) = true then ((function_Name.f kj4 l0).bind fun t496 => ((deckleref16_Name.f kj4 l0).bind fun t497 => (if t496.toList = t497.toList then ((function_Join.f l0).bind fun t498 => ((deckleref16_Join.f kj4 l0).bind fun t499 => (if t498.toList = t499.toList then ((function_Split.f a1).bind fun t500 => ((deckleref16_Split.f kj4 a1).bind fun t503 => ((deckleref16_Same.f kj4 t500 t503).bind fun t506 => (some t506)))) else (none)))) else (none)))) else (none))) = some r := H
              have A17 := Aside0.mk A170
              clear A170
              replace H := Option.bind_eq_some_iff.mp H
              obtain ⟨t495, A180, H⟩ := H
              replace H : (if (t494 == t495) = true then ((function_Name.f kj4 l0).bind fun t496 => ((deckleref16_Name.f kj4 l0).bind fun t497 => (if t496.toList = t497.toList then ((function_Join.f l0).bind fun t498 => ((deckleref16_Join.f kj4 l0).bind fun t499 => (if t498.toList = t499.toList then ((function_Split.f a1).bind fun t500 => ((deckleref16_Split.f kj4 a1).bind fun t503 => ((deckleref16_Same.f kj4 t500 t503).bind fun t506 => (some t506)))) else (none)))) else (none)))) else (none)) = some r := H
              have A18 := Aside0.mk A180
              clear A180
              by_cases c19 : (t494 == t495) = true
              · rw [if_pos c19] at H
                have c19b0 : (t494 == t495) = true := c19
                (try (have c19b1 : decide (t494 = t495) = true := by simpa using c19))
                (try (have c19b2 : (t494 == t495) = true := by simpa using c19))
                clear c19
                replace H := Option.bind_eq_some_iff.mp H
                obtain ⟨t496, A200, H⟩ := H
                replace H : ((deckleref16_Name.f kj4 l0).bind fun t497 => (if t496.toList = t497.toList then ((function_Join.f l0).bind fun t498 => ((deckleref16_Join.f kj4 l0).bind fun t499 => (if t498.toList = t499.toList then ((function_Split.f a1).bind fun t500 => ((deckleref16_Split.f kj4 a1).bind fun t503 => ((deckleref16_Same.f kj4 t500 t503).bind fun t506 => (some t506)))) else (none)))) else (none))) = some r := H
                have A20 := Aside0.mk A200
                clear A200
                replace H := Option.bind_eq_some_iff.mp H
                obtain ⟨t497, A210, H⟩ := H
                replace H : (if t496.toList = t497.toList then ((function_Join.f l0).bind fun t498 => ((deckleref16_Join.f kj4 l0).bind fun t499 => (if t498.toList = t499.toList then ((function_Split.f a1).bind fun t500 => ((deckleref16_Split.f kj4 a1).bind fun t503 => ((deckleref16_Same.f kj4 t500 t503).bind fun t506 => (some t506)))) else (none)))) else (none)) = some r := H
                have A21 := Aside0.mk A210
                clear A210
                by_cases c22 : t496.toList = t497.toList
                · rw [if_pos c22] at H
                  have c22b0 : (t496.toList == t497.toList) = true := beq_iff_eq.mpr c22
                  have c22b1 : (t496.toList != t497.toList) = false := bne_eq_false_iff_eq.mpr c22
                  clear c22
                  replace H := Option.bind_eq_some_iff.mp H
                  obtain ⟨t498, A230, H⟩ := H
                  replace H : ((deckleref16_Join.f kj4 l0).bind fun t499 => (if t498.toList = t499.toList then ((function_Split.f a1).bind fun t500 => ((deckleref16_Split.f kj4 a1).bind fun t503 => ((deckleref16_Same.f kj4 t500 t503).bind fun t506 => (some t506)))) else (none))) = some r := H
                  have A23 := Aside0.mk A230
                  clear A230
                  replace H := Option.bind_eq_some_iff.mp H
                  obtain ⟨t499, A240, H⟩ := H
                  replace H : (if t498.toList = t499.toList then ((function_Split.f a1).bind fun t500 => ((deckleref16_Split.f kj4 a1).bind fun t503 => ((deckleref16_Same.f kj4 t500 t503).bind fun t506 => (some t506)))) else (none)) = some r := H
                  have A24 := Aside0.mk A240
                  clear A240
                  by_cases c25 : t498.toList = t499.toList
                  · rw [if_pos c25] at H
                    have c25b0 : (t498.toList == t499.toList) = true := beq_iff_eq.mpr c25
                    have c25b1 : (t498.toList != t499.toList) = false := bne_eq_false_iff_eq.mpr c25
                    clear c25
                    replace H := Option.bind_eq_some_iff.mp H
                    obtain ⟨t500, A260, H⟩ := H
                    replace H : ((deckleref16_Split.f kj4 a1).bind fun t503 => ((deckleref16_Same.f kj4 t500 t503).bind fun t506 => (some t506))) = some r := H
                    have A26 := Aside0.mk A260
                    clear A260
                    replace H := Option.bind_eq_some_iff.mp H
                    obtain ⟨t503, A270, H⟩ := H
                    replace H : ((deckleref16_Same.f kj4 t500 t503).bind fun t506 => (some t506)) = some r := H
                    have A27 := Aside0.mk A270
                    clear A270
                    replace H := Option.bind_eq_some_iff.mp H
                    obtain ⟨t506, A280, H⟩ := H
                    replace H : (some t506) = some r := H
                    have A28 := Aside0.mk A280
                    clear A280
                    obtain rfl := Option.some.inj H
                    go_wp2_with (first | (go_at_call 21; (with_reducible refine (function_Line.calls a1 t485 _ ?side1 A10.out).mono ?_); (case side1 => exact HE_.out.below (by repeat (first | (with_reducible first | exact HB.out | apply below_alloc | apply pw_below_drewN | apply below_drew1) | exact HB.out))); rintro e w29 ⟨rfl, hb⟩; have n0_ := Aside0.mk (below_step (by repeat (first | (with_reducible first | exact HB.out | apply below_alloc | apply pw_below_drewN | apply below_drew1) | exact HB.out)) hb); clear HB; have HB := n0_; clear n0_; (try clear hb); (try clear hb2); (try clear hk); (try clear hi)) | (go_at_call 22; (with_reducible refine (deckleref16_Line.calls kj4 a1 t486 _ A11.out).mono ?_); rintro e w30 ⟨rfl, hb⟩; have n0_ := Aside0.mk (below_step (by repeat (first | (with_reducible first | exact HB.out | apply below_alloc | apply pw_below_drewN | apply below_drew1) | exact HB.out)) hb); clear HB; have HB := n0_; clear n0_; (try clear hb); (try clear hb2); (try clear hk); (try clear hi)) | (go_at_call 24; (with_reducible refine (function_Labels.calls kj4 _ _ l0 t487 _ ?side1 ?side2 A13.out).mono ?_); (case side1 => repeat (first | exact (Kd.C_below HR0.out HB.out) | (with_reducible refine Kd.C_alloc ?_ _) | (with_reducible refine Kd.C_drewN ?_ _) | (with_reducible refine Kd.C_drew ?_))); (case side2 => exact HC0.out); rintro e w31 ⟨v488, rfl, ho0, hb⟩; have n0_ := Aside0.mk (Kd.R_lower ho0 (below_size (by repeat (first | (with_reducible first | exact HB.out | apply below_alloc | apply pw_below_drewN | apply below_drew1) | exact HB.out)))); have n1_ := Aside0.mk (below_step (by repeat (first | (with_reducible first | exact HB.out | apply below_alloc | apply pw_below_drewN | apply below_drew1) | exact HB.out)) hb); clear HB; have HO489 := n0_; have HB := n1_; clear n0_ n1_; (try clear hb); (try clear hb2); (try clear hk); (try clear hi); (try clear ho0)) | (go_at_call 25; (with_reducible refine (deckleref16_Labels.calls kj4 _ _ l0 t490 _ ?side1 ?side2 A14.out).mono ?_); (case side1 => repeat (first | exact (Kd.C_below HR0.out HB.out) | (with_reducible refine Kd.C_alloc ?_ _) | (with_reducible refine Kd.C_drewN ?_ _) | (with_reducible refine Kd.C_drew ?_))); (case side2 => exact HC0.out); rintro e w32 ⟨v491, rfl, ho0, hb⟩; have n0_ := Aside0.mk (Kd.R_elder' (by (with_reducible repeat (first | apply Kd.R_alloc | apply Kd.R_drewN | apply Kd.R_drew)); exact HO489.out) (Kd.R_base ho0) hb); have n1_ := Aside0.mk (Kd.R_lower (Kd.R_new' ho0 (Kd.R_lt (by (with_reducible repeat (first | apply Kd.R_alloc | apply Kd.R_drewN | apply Kd.R_drew)); exact HO489.out))) (below_size (by repeat (first | (with_reducible first | exact HB.out | apply below_alloc | apply pw_below_drewN | apply below_drew1) | exact HB.out)))); have n2_ := Aside0.mk (below_step (by repeat (first | (with_reducible first | exact HB.out | apply below_alloc | apply pw_below_drewN | apply below_drew1) | exact HB.out)) hb); clear HO489; clear HB; have HO489 := n0_; have HO492 := n1_; have HB := n2_; clear n0_ n1_ n2_; (try clear hb); (try clear hb2); (try clear hk); (try clear hi); (try clear ho0); obtain ⟨Ao33, co33, eo33⟩ := Kd.R_slice HO489.out; subst eo33; obtain ⟨Ao34, co34, eo34⟩ := Kd.R_slice HO492.out; subst eo34) | (go_at_call 23; (with_reducible refine (deckleref16_Same.calls kj4 _ _ t487 _ _ t490 true _ ?side1 ?side2 ?side3 ?side4 A15.out).mono ?_); (case side1 => repeat (first | exact (Kd.R_reads' HO489.out).2.2 | (with_reducible refine Kd.C_alloc ?_ _) | (with_reducible refine Kd.C_drewN ?_ _) | (with_reducible refine Kd.C_drew ?_))); (case side2 => exact (Kd.R_reads' HO489.out).2.1); (case side3 => repeat (first | exact (Kd.R_reads' HO492.out).2.2 | (with_reducible refine Kd.C_alloc ?_ _) | (with_reducible refine Kd.C_drewN ?_ _) | (with_reducible refine Kd.C_drew ?_))); (case side4 => exact (Kd.R_reads' HO492.out).2.1); rintro e w' ⟨rfl, ⟨nd, rfl⟩⟩) | (go_at_call 26; (with_reducible refine (function_Right.calls kj4 _ _ l0 t494 _ ?side1 ?side2 ?side3 A17.out).mono ?_); (case side1 => repeat (first | exact (Kd.C_below HR0.out (by repeat (first | (with_reducible first | exact HB.out | apply below_alloc | apply pw_below_drewN | apply below_drew1) | exact HB.out))) | (with_reducible refine Kd.C_alloc ?_ _) | (with_reducible refine Kd.C_drewN ?_ _) | (with_reducible refine Kd.C_drew ?_))); (case side2 => exact HC0.out); (case side3 => exact HE_.out.below (by repeat (first | (with_reducible first | exact HB.out | apply below_alloc | apply pw_below_drewN | apply below_drew1) | exact HB.out))); rintro e w35 ⟨rfl, hb⟩; have n0_ := Aside0.mk (Kd.R_below (by (with_reducible repeat (first | apply Kd.R_alloc | apply Kd.R_drewN | apply Kd.R_drew)); exact HO489.out) hb); have n1_ := Aside0.mk (Kd.R_below (by (with_reducible repeat (first | apply Kd.R_alloc | apply Kd.R_drewN | apply Kd.R_drew)); exact HO492.out) hb); have n2_ := Aside0.mk (below_step (by repeat (first | (with_reducible first | exact HB.out | apply below_alloc | apply pw_below_drewN | apply below_drew1) | exact HB.out)) hb); clear HO489; clear HO492; clear HB; have HO489 := n0_; have HO492 := n1_; have HB := n2_; clear n0_ n1_ n2_; (try clear hb); (try clear hb2); (try clear hk); (try clear hi)) | (go_at_call 27; (with_reducible refine (deckleref16_Right.calls kj4 _ _ l0 t495 _ ?side1 ?side2 A18.out).mono ?_); (case side1 => repeat (first | exact (Kd.C_below HR0.out HB.out) | (with_reducible refine Kd.C_alloc ?_ _) | (with_reducible refine Kd.C_drewN ?_ _) | (with_reducible refine Kd.C_drew ?_))); (case side2 => exact HC0.out); rintro e w36 ⟨rfl, hb⟩; have n0_ := Aside0.mk (Kd.R_below (by (with_reducible repeat (first | apply Kd.R_alloc | apply Kd.R_drewN | apply Kd.R_drew)); exact HO489.out) hb); have n1_ := Aside0.mk (Kd.R_below (by (with_reducible repeat (first | apply Kd.R_alloc | apply Kd.R_drewN | apply Kd.R_drew)); exact HO492.out) hb); have n2_ := Aside0.mk (below_step (by repeat (first | (with_reducible first | exact HB.out | apply below_alloc | apply pw_below_drewN | apply below_drew1) | exact HB.out)) hb); clear HO489; clear HO492; clear HB; have HO489 := n0_; have HO492 := n1_; have HB := n2_; clear n0_ n1_ n2_; (try clear hb); (try clear hb2); (try clear hk); (try clear hi)) | (go_at_call 28; (with_reducible refine (function_Name.calls kj4 _ _ l0 t496 _ ?side1 ?side2 ?side3 A20.out).mono ?_); (case side1 => repeat (first | exact (Kd.C_below HR0.out HB.out) | (with_reducible refine Kd.C_alloc ?_ _) | (with_reducible refine Kd.C_drewN ?_ _) | (with_reducible refine Kd.C_drew ?_))); (case side2 => exact HC0.out); (case side3 => exact HE_.out.below (by repeat (first | (with_reducible first | exact HB.out | apply below_alloc | apply pw_below_drewN | apply below_drew1) | exact HB.out))); rintro e w37 ⟨rfl, hb⟩; have n0_ := Aside0.mk (Kd.R_below (by (with_reducible repeat (first | apply Kd.R_alloc | apply Kd.R_drewN | apply Kd.R_drew)); exact HO489.out) hb); have n1_ := Aside0.mk (Kd.R_below (by (with_reducible repeat (first | apply Kd.R_alloc | apply Kd.R_drewN | apply Kd.R_drew)); exact HO492.out) hb); have n2_ := Aside0.mk (below_step (by repeat (first | (with_reducible first | exact HB.out | apply below_alloc | apply pw_below_drewN | apply below_drew1) | exact HB.out)) hb); clear HO489; clear HO492; clear HB; have HO489 := n0_; have HO492 := n1_; have HB := n2_; clear n0_ n1_ n2_; (try clear hb); (try clear hb2); (try clear hk); (try clear hi)) | (go_at_call 29; (with_reducible refine (deckleref16_Name.calls kj4 _ _ l0 t497 _ ?side1 ?side2 A21.out).mono ?_); (case side1 => repeat (first | exact (Kd.C_below HR0.out HB.out) | (with_reducible refine Kd.C_alloc ?_ _) | (with_reducible refine Kd.C_drewN ?_ _) | (with_reducible refine Kd.C_drew ?_))); (case side2 => exact HC0.out); rintro e w38 ⟨rfl, hb⟩; have n0_ := Aside0.mk (Kd.R_below (by (with_reducible repeat (first | apply Kd.R_alloc | apply Kd.R_drewN | apply Kd.R_drew)); exact HO489.out) hb); have n1_ := Aside0.mk (Kd.R_below (by (with_reducible repeat (first | apply Kd.R_alloc | apply Kd.R_drewN | apply Kd.R_drew)); exact HO492.out) hb); have n2_ := Aside0.mk (below_step (by repeat (first | (with_reducible first | exact HB.out | apply below_alloc | apply pw_below_drewN | apply below_drew1) | exact HB.out)) hb); clear HO489; clear HO492; clear HB; have HO489 := n0_; have HO492 := n1_; have HB := n2_; clear n0_ n1_ n2_; (try clear hb); (try clear hb2); (try clear hk); (try clear hi)) | (go_at_call 30; (with_reducible refine (function_Join.calls _ _ l0 t498 _ ?side1 ?side2 A23.out).mono ?_); (case side1 => repeat (first | exact (Kd.C_below HR0.out HB.out) | (with_reducible refine Kd.C_alloc ?_ _) | (with_reducible refine Kd.C_drewN ?_ _) | (with_reducible refine Kd.C_drew ?_))); (case side2 => exact HC0.out); rintro e w39 ⟨rfl, hb⟩; have n0_ := Aside0.mk (Kd.R_below (by (with_reducible repeat (first | apply Kd.R_alloc | apply Kd.R_drewN | apply Kd.R_drew)); exact HO489.out) hb); have n1_ := Aside0.mk (Kd.R_below (by (with_reducible repeat (first | apply Kd.R_alloc | apply Kd.R_drewN | apply Kd.R_drew)); exact HO492.out) hb); have n2_ := Aside0.mk (below_step (by repeat (first | (with_reducible first | exact HB.out | apply below_alloc | apply pw_below_drewN | apply below_drew1) | exact HB.out)) hb); clear HO489; clear HO492; clear HB; have HO489 := n0_; have HO492 := n1_; have HB := n2_; clear n0_ n1_ n2_; (try clear hb); (try clear hb2); (try clear hk); (try clear hi)) | (go_at_call 31; (with_reducible refine (deckleref16_Join.calls kj4 _ _ l0 t499 _ ?side1 ?side2 A24.out).mono ?_); (case side1 => repeat (first | exact (Kd.C_below HR0.out HB.out) | (with_reducible refine Kd.C_alloc ?_ _) | (with_reducible refine Kd.C_drewN ?_ _) | (with_reducible refine Kd.C_drew ?_))); (case side2 => exact HC0.out); rintro e w' ⟨rfl, ⟨nd, rfl⟩⟩) | (go_at_call 32; (with_reducible refine (function_Split.calls a1 t500 _ ?side1 A26.out).mono ?_); (case side1 => exact HE_.out.below (by repeat (first | (with_reducible first | exact HB.out | apply below_alloc | apply pw_below_drewN | apply below_drew1) | exact HB.out))); rintro e w40 ⟨v501, rfl, ho0, hb⟩; have n0_ := Aside0.mk (Kd.R_elder' (by (with_reducible repeat (first | apply Kd.R_alloc | apply Kd.R_drewN | apply Kd.R_drew)); exact HO489.out) (Kd.R_base ho0) hb); have n1_ := Aside0.mk (Kd.R_elder' (by (with_reducible repeat (first | apply Kd.R_alloc | apply Kd.R_drewN | apply Kd.R_drew)); exact HO492.out) (Kd.R_base ho0) hb); have n2_ := Aside0.mk (Kd.R_lower (Kd.R_new' (Kd.R_new' ho0 (Kd.R_lt (by (with_reducible repeat (first | apply Kd.R_alloc | apply Kd.R_drewN | apply Kd.R_drew)); exact HO489.out))) (Kd.R_lt (by (with_reducible repeat (first | apply Kd.R_alloc | apply Kd.R_drewN | apply Kd.R_drew)); exact HO492.out))) (below_size (by repeat (first | (with_reducible first | exact HB.out | apply below_alloc | apply pw_below_drewN | apply below_drew1) | exact HB.out)))); have n3_ := Aside0.mk (below_step (by repeat (first | (with_reducible first | exact HB.out | apply below_alloc | apply pw_below_drewN | apply below_drew1) | exact HB.out)) hb); clear HO489; clear HO492; clear HB; have HO489 := n0_; have HO492 := n1_; have HO502 := n2_; have HB := n3_; clear n0_ n1_ n2_ n3_; (try clear hb); (try clear hb2); (try clear hk); (try clear hi); (try clear ho0)) | (go_at_call 33; (with_reducible refine (deckleref16_Split.calls kj4 a1 t503 _ A27.out).mono ?_); rintro e w41 ⟨v504, rfl, ho0, hb⟩; have n0_ := Aside0.mk (Kd.R_elder' (by (with_reducible repeat (first | apply Kd.R_alloc | apply Kd.R_drewN | apply Kd.R_drew)); exact HO489.out) (Kd.R_base ho0) hb); have n1_ := Aside0.mk (Kd.R_elder' (by (with_reducible repeat (first | apply Kd.R_alloc | apply Kd.R_drewN | apply Kd.R_drew)); exact HO492.out) (Kd.R_base ho0) hb); have n2_ := Aside0.mk (Kd.R_elder' (by (with_reducible repeat (first | apply Kd.R_alloc | apply Kd.R_drewN | apply Kd.R_drew)); exact HO502.out) (Kd.R_base ho0) hb); have n3_ := Aside0.mk (Kd.R_lower (Kd.R_new' (Kd.R_new' (Kd.R_new' ho0 (Kd.R_lt (by (with_reducible repeat (first | apply Kd.R_alloc | apply Kd.R_drewN | apply Kd.R_drew)); exact HO489.out))) (Kd.R_lt (by (with_reducible repeat (first | apply Kd.R_alloc | apply Kd.R_drewN | apply Kd.R_drew)); exact HO492.out))) (Kd.R_lt (by (with_reducible repeat (first | apply Kd.R_alloc | apply Kd.R_drewN | apply Kd.R_drew)); exact HO502.out))) (below_size (by repeat (first | (with_reducible first | exact HB.out | apply below_alloc | apply pw_below_drewN | apply below_drew1) | exact HB.out)))); have n4_ := Aside0.mk (below_step (by repeat (first | (with_reducible first | exact HB.out | apply below_alloc | apply pw_below_drewN | apply below_drew1) | exact HB.out)) hb); clear HO489; clear HO492; clear HO502; clear HB; have HO489 := n0_; have HO492 := n1_; have HO502 := n2_; have HO505 := n3_; have HB := n4_; clear n0_ n1_ n2_ n3_ n4_; (try clear hb); (try clear hb2); (try clear hk); (try clear hi); (try clear ho0); obtain ⟨Ao42, co42, eo42⟩ := Kd.R_slice HO502.out; subst eo42; obtain ⟨Ao43, co43, eo43⟩ := Kd.R_slice HO505.out; subst eo43) | (go_at_call 23; (with_reducible refine (deckleref16_Same.calls kj4 _ _ t500 _ _ t503 t506 _ ?side1 ?side2 ?side3 ?side4 A28.out).mono ?_); (case side1 => repeat (first | exact (Kd.R_reads' HO502.out).2.2 | (with_reducible refine Kd.C_alloc ?_ _) | (with_reducible refine Kd.C_drewN ?_ _) | (with_reducible refine Kd.C_drew ?_))); (case side2 => exact (Kd.R_reads' HO502.out).2.1); (case side3 => repeat (first | exact (Kd.R_reads' HO505.out).2.2 | (with_reducible refine Kd.C_alloc ?_ _) | (with_reducible refine Kd.C_drewN ?_ _) | (with_reducible refine Kd.C_drew ?_))); (case side4 => exact (Kd.R_reads' HO505.out).2.1); rintro e w' ⟨rfl, ⟨nd, rfl⟩⟩))
                    go_ret
                    exact ⟨by first | rfl | (simp [errW_none, errW_some] <;> rfl) | (simp [*, errW_none, errW_some] <;> rfl), by repeat (first | (with_reducible first | exact HB.out | apply below_alloc | apply pw_below_drewN | apply below_drew1) | exact HB.out)⟩
                  · rw [if_neg c25] at H
                    exact absurd H (by simp)
                · rw [if_neg c22] at H
                  exact absurd H (by simp)
              · rw [if_neg c19] at H
                exact absurd H (by simp)
            · replace c16 := Bool.eq_false_iff.mpr c16
              subst c16
              have H1 : (none) = some r := by rw [if_neg (show ¬ (false = true) by decide)] at H; exact H
              clear H
              have H := H1
              clear H1
              exact absurd H (by simp)
          · rw [if_neg c12] at H
            exact absurd H (by simp)
        · replace c9 := Bool.eq_false_iff.mpr c9
          subst c9
          have H1 : (none) = some r := by rw [if_neg (show ¬ (false = true) by decide)] at H; exact H
          clear H
          have H := H1
          clear H1
          exact absurd H (by simp)

end Go.Proofs.YtmddkjmcbddhiaaDoor.P
