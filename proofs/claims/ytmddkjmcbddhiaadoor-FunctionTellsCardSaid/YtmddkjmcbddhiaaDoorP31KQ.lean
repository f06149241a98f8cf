/-
  P31
-/
import Derived.Test.YtmddkjmcbddhiaaDoorP0KQ
import Derived.Test.YtmddkjmcbddhiaaDoorP10KQ
-- written by wip/tools/print2.py (a program of this session over the kit's print); not trusted: Lean checks it
namespace Go.Proofs.YtmddkjmcbddhiaaDoor.P
open Go.RowKit Go.Proofs.YtmddkjmcbddhiaaDoorW.PrintWords Go.Proofs.YtmddkjmcbddhiaaDoorW.PrintLast Go.Proofs.YtmddkjmcbddhiaaDoorW.PrintMore
attribute [local go_sem] max2_int min2_int max_two min_two max_three min_three max_four min_four   -- for this text's walks alone
set_option linter.unusedVariables false
set_option linter.unusedSimpArgs false

/-! ### deckleref16_Line: function 22 -/
mutual
def deckleref16_Line.j0 : Nat → List Int → Bool → Option (Bool)
  | 0, _, _ => none
  | k + 1, x3, x17 => if x17 = true then (some false) else (deckleref16_Line.l0 k x3 0)
def deckleref16_Line.l0 : Nat → List Int → Int → Option (Bool)
  | 0, _, _ => none
  | k + 1, x3, x5 => if x5 < (x3.length : Int) then (if 0 ≤ x5 then (if (rd x3 x5) < 32 then (some false) else (if (rd x3 x5) ≥ 127 then (if (rd x3 x5) ≤ 159 then (some false) else (deckleref16_Line.l0 k x3 (wrap64 (x5 + 1)))) else (deckleref16_Line.l0 k x3 (wrap64 (x5 + 1))))) else (none)) else (some true)
end
def deckleref16_Line.f (k : Nat) (a0 : ByteArray) : Option (Bool) := (deckleref07_Signs.f k a0).bind fun bt374 => (if bt374.2 = true then (deckleref16_Line.j0 k bt374.1 (decide ((bt374.1.length : Int) > 1000))) else (deckleref16_Line.j0 k bt374.1 true))
set_option maxHeartbeats 8000000 in
set_option maxRecDepth 100000 in
theorem deckleref16_Line.calls (k : Nat) (a0 : ByteArray) (r : Bool) (w : World) (h : deckleref16_Line.f k a0 = some r) :
    Calls Tryd.prog 22 #[.string a0] w fun e w' => e = .returned (.bool r) ∧ Below w.heap.size w w' := by
  have HB := Aside0.mk (Below.refl w.heap.size w)
  have H : ((deckleref07_Signs.f k a0).bind fun bt374 => (if bt374.2 = true then (deckleref16_Line.j0 k bt374.1 (decide ((bt374.1.length : Int) > 1000))) else (deckleref16_Line.j0 k bt374.1 true))) = some r := h
  clear h
  replace H := Option.bind_eq_some_iff.mp H
  obtain ⟨⟨t374, t375⟩, A20, H⟩ := H
  replace H : (if t375 = true then (deckleref16_Line.j0 k t374 (decide ((t374.length : Int) > 1000))) else (deckleref16_Line.j0 k t374 true)) = some r := H
  have A2 := Aside0.mk A20
  clear A20
  have HC3 := Aside0.mk H
  clear H
  go_enter Tryd.func22, Tryd.ntmps22
  go_upto_region 2 with (first | ((with_reducible refine gate_callee (f := 49) rfl ?_); refine goesL_ (some 8) rfl rfl Tryd.func49 (by kernel_rfl) rfl #[.string a0] rfl (by (try simp only [List.map_toArray, List.map_cons, List.map_nil]); first | done | rfl | (simp only [List.length_drop, List.length_take]; rfl)) ?_; (with_reducible refine (deckleref07_Signs.calls k a0 t374 t375 _ A2.out).mono ?_); rintro e w4 ⟨v376, rfl, ho0, hb⟩; refine ⟨_, rfl, ?_⟩; have n0_ := Aside0.mk (Kd.R_lower ho0 (below_size (by repeat (first | (with_reducible first | exact HB.out | apply below_alloc | apply pw_below_drewN | apply below_drew1) | exact HB.out)))); have n1_ := Aside0.mk (below_step (by repeat (first | (with_reducible first | exact HB.out | apply below_alloc | apply pw_below_drewN | apply below_drew1) | exact HB.out)) hb); clear HB; have HO377 := n0_; have HB := n1_; clear n0_ n1_; (try clear hb); (try clear hb2); (try clear hk); (try clear hi); (try clear ho0)))
  (try simp only [Act.put, List.setIfInBounds_toArray, List.set_cons_zero, List.set_cons_succ])
  go_cut [17] (fun v17 wc => ∃ (kq : Nat) (x17_2 : Bool), v17 = .bool x17_2 ∧ Aside0 (deckleref16_Line.j0 kq t374 x17_2 = some r) ∧ Aside0 (kq ≤ k) ∧ Aside0 (Kd.R (Kd.int .i64) 3 wc w.heap.size (fun _ => True) v376 t374) ∧ Aside0 (Below w.heap.size w wc))
  case first =>
    have H := HC3.out
    clear HC3
    by_cases c5 : t375 = true
    · subst c5
      have H1 : (deckleref16_Line.j0 k t374 (decide ((t374.length : Int) > 1000))) = some r := by rw [if_pos rfl] at H; exact H
      clear H
      have H := H1
      clear H1
      have H' := Aside0.mk H
      clear H
      obtain ⟨Ao6, co6, eo6⟩ := Kd.R_slice HO377.out
      subst eo6
      go_wp2
      go_meet
      case rel => exact ⟨_, (decide ((t374.length : Int) > 1000)), (by first | rfl | (simp; done) | (simp [*]; done)), H', ⟨by first | omega | exact Nat.le_refl _⟩, ⟨by (with_reducible repeat (first | apply Kd.R_alloc | apply Kd.R_drewN | apply Kd.R_drew)); exact HO377.out⟩, ⟨by repeat (first | (with_reducible first | exact HB.out | apply below_alloc | apply pw_below_drewN | apply below_drew1) | exact HB.out)⟩⟩
    · replace c5 := Bool.eq_false_iff.mpr c5
      subst c5
      have H1 : (deckleref16_Line.j0 k t374 true) = some r := by rw [if_neg (show ¬ (false = true) by decide)] at H; exact H
      clear H
      have H := H1
      clear H1
      have H' := Aside0.mk H
      clear H
      go_wp2
      go_meet
      case rel => exact ⟨_, (true), (by first | rfl | (simp; done) | (simp [*]; done)), H', ⟨by first | omega | exact Nat.le_refl _⟩, ⟨by (with_reducible repeat (first | apply Kd.R_alloc | apply Kd.R_drewN | apply Kd.R_drew)); exact HO377.out⟩, ⟨by repeat (first | (with_reducible first | exact HB.out | apply below_alloc | apply pw_below_drewN | apply below_drew1) | exact HB.out)⟩⟩
  case rest =>
    clear HC3
    try clear c2
    try clear p2
    try clear c4
    try clear c5
    obtain ⟨kq, x17_2, rfl, HA, HJ2, HO_3, HB⟩ := hcut
    cases kq with
    | zero => exact absurd HA.out (by simp [deckleref16_Line.j0])
    | succ kj2 =>
      have H := HA.out
      clear HA
      simp only [deckleref16_Line.j0] at H
      by_cases c7 : x17_2 = true
      · subst c7
        have H1 : (some false) = some r := by rw [if_pos rfl] at H; exact H
        clear H
        have H := H1
        clear H1
        obtain rfl := Option.some.inj H
        go_wp2
        go_ret
        exact ⟨by first | rfl | (simp [errW_none, errW_some] <;> rfl) | (simp [*, errW_none, errW_some] <;> rfl), by repeat (first | (with_reducible first | exact HB.out | apply below_alloc | apply pw_below_drewN | apply below_drew1) | exact HB.out)⟩
      · replace c7 := Bool.eq_false_iff.mpr c7
        subst c7
        have H1 : (deckleref16_Line.l0 kj2 t374 0) = some r := by rw [if_neg (show ¬ (false = true) by decide)] at H; exact H
        clear H
        have H := H1
        clear H1
        have H' := Aside0.mk H
        clear H
        go_wp2
        go_loopg [5] kj2 (fun kq v5 w' => ∃ (x5_2 : Int), v5 = .int .i64 x5_2 ∧ Aside0 (deckleref16_Line.l0 kq t374 x5_2 = some r) ∧ Aside0 (kq ≤ kj2) ∧ Aside0 (Kd.R (Kd.int .i64) 3 w' w.heap.size (fun _ => True) v376 t374) ∧ Aside0 (Below w.heap.size w w'))
        case atStart => exact ⟨(0), (by first | rfl | (simp; done) | (simp [*]; done)), H', ⟨Nat.le_refl _⟩, ⟨by (with_reducible repeat (first | apply Kd.R_alloc | apply Kd.R_drewN | apply Kd.R_drew)); exact HO_3.out⟩, ⟨by repeat (first | (with_reducible first | exact HB.out | apply below_alloc | apply pw_below_drewN | apply below_drew1) | exact HB.out)⟩⟩
        case round =>
          clear H'
          try clear c2
          try clear p2
          try clear c4
          try clear c5
          try clear c7
          try clear p2
          obtain ⟨x5_2, rfl, HA, HK2, HO_3, HB⟩ := hrel
          cases gk with
          | zero => exact absurd HA.out (by simp [deckleref16_Line.l0])
          | succ k2 =>
            have H := HA.out
            clear HA
            simp only [deckleref16_Line.l0] at H
            by_cases c8 : x5_2 < (t374.length : Int)
            · rw [if_pos c8] at H
              have c8b0 : decide (x5_2 < (t374.length : Int)) = true := decide_eq_true c8
              clear c8
              by_cases c9 : 0 ≤ x5_2
              · rw [if_pos c9] at H
                have c9b0 : decide (0 ≤ x5_2) = true := decide_eq_true c9
                clear c9
                by_cases c10 : (rd t374 x5_2) < 32
                · rw [if_pos c10] at H
                  have c10b0 : decide ((rd t374 x5_2) < 32) = true := decide_eq_true c10
                  clear c10
                  obtain rfl := Option.some.inj H
                  obtain ⟨Ao11, co11, eo11⟩ := Kd.R_slice HO_3.out
                  subst eo11
                  have p378 : 0 ≤ (x5_2 : Int) := of_decide_eq_true (by first | (with_reducible assumption) | assumption)
                  have q378 : x5_2 < (t374.length : Int) := of_decide_eq_true (by first | (with_reducible assumption) | assumption)
                  obtain ⟨ad378, e378, hx378_0⟩ := Kd.at_int (Kd.R_reads' HO_3.out).2.2 x5_2 p378 q378
                  cases e378
                  replace p378 := eq_true p378
                  replace q378 := eq_true q378
                  go_wp2
                  go_ret
                  exact ⟨by first | rfl | (simp [errW_none, errW_some] <;> rfl) | (simp [*, errW_none, errW_some] <;> rfl), by repeat (first | (with_reducible first | exact HB.out | apply below_alloc | apply pw_below_drewN | apply below_drew1) | exact HB.out)⟩
                · rw [if_neg c10] at H
                  have c10b0 : decide ((rd t374 x5_2) < 32) = false := decide_eq_false c10
                  clear c10
                  by_cases c12 : (rd t374 x5_2) ≥ 127
                  · rw [if_pos c12] at H
                    have c12b0 : decide (127 ≤ (rd t374 x5_2)) = true := decide_eq_true c12
                    clear c12
                    by_cases c13 : (rd t374 x5_2) ≤ 159
                    · rw [if_pos c13] at H
                      have c13b0 : decide ((rd t374 x5_2) ≤ 159) = true := decide_eq_true c13
                      clear c13
                      obtain rfl := Option.some.inj H
                      obtain ⟨Ao14, co14, eo14⟩ := Kd.R_slice HO_3.out
                      subst eo14
                      have p378 : 0 ≤ (x5_2 : Int) := of_decide_eq_true (by first | (with_reducible assumption) | assumption)
                      have q378 : x5_2 < (t374.length : Int) := of_decide_eq_true (by first | (with_reducible assumption) | assumption)
                      obtain ⟨ad378, e378, hx378_0⟩ := Kd.at_int (Kd.R_reads' HO_3.out).2.2 x5_2 p378 q378
                      cases e378
                      replace p378 := eq_true p378
                      replace q378 := eq_true q378
                      have p379 : 0 ≤ (x5_2 : Int) := of_decide_eq_true (by first | (with_reducible assumption) | assumption)
                      have q379 : x5_2 < (t374.length : Int) := of_decide_eq_true (by first | (with_reducible assumption) | assumption)
                      obtain ⟨ad379, e379, hx379_0⟩ := Kd.at_int (Kd.R_reads' HO_3.out).2.2 x5_2 p379 q379
                      obtain rfl : ad378 = ad379 := (by injection e379)
                      replace p379 := eq_true p379
                      replace q379 := eq_true q379
                      have p380 : 0 ≤ (x5_2 : Int) := of_decide_eq_true (by first | (with_reducible assumption) | assumption)
                      have q380 : x5_2 < (t374.length : Int) := of_decide_eq_true (by first | (with_reducible assumption) | assumption)
                      obtain ⟨ad380, e380, hx380_0⟩ := Kd.at_int (Kd.R_reads' HO_3.out).2.2 x5_2 p380 q380
                      obtain rfl : ad378 = ad380 := (by injection e380)
                      replace p380 := eq_true p380
                      replace q380 := eq_true q380
                      go_wp2
                      go_ret
                      exact ⟨by first | rfl | (simp [errW_none, errW_some] <;> rfl) | (simp [*, errW_none, errW_some] <;> rfl), by repeat (first | (with_reducible first | exact HB.out | apply below_alloc | apply pw_below_drewN | apply below_drew1) | exact HB.out)⟩
                    · rw [if_neg c13] at H
                      have c13b0 : decide ((rd t374 x5_2) ≤ 159) = false := decide_eq_false c13
                      clear c13
                      have H' := Aside0.mk H
                      clear H
                      obtain ⟨Ao15, co15, eo15⟩ := Kd.R_slice HO_3.out
                      subst eo15
                      have p378 : 0 ≤ (x5_2 : Int) := of_decide_eq_true (by first | (with_reducible assumption) | assumption)
                      have q378 : x5_2 < (t374.length : Int) := of_decide_eq_true (by first | (with_reducible assumption) | assumption)
                      obtain ⟨ad378, e378, hx378_0⟩ := Kd.at_int (Kd.R_reads' HO_3.out).2.2 x5_2 p378 q378
                      cases e378
                      replace p378 := eq_true p378
                      replace q378 := eq_true q378
                      have p379 : 0 ≤ (x5_2 : Int) := of_decide_eq_true (by first | (with_reducible assumption) | assumption)
                      have q379 : x5_2 < (t374.length : Int) := of_decide_eq_true (by first | (with_reducible assumption) | assumption)
                      obtain ⟨ad379, e379, hx379_0⟩ := Kd.at_int (Kd.R_reads' HO_3.out).2.2 x5_2 p379 q379
                      obtain rfl : ad378 = ad379 := (by injection e379)
                      replace p379 := eq_true p379
                      replace q379 := eq_true q379
                      have p380 : 0 ≤ (x5_2 : Int) := of_decide_eq_true (by first | (with_reducible assumption) | assumption)
                      have q380 : x5_2 < (t374.length : Int) := of_decide_eq_true (by first | (with_reducible assumption) | assumption)
                      obtain ⟨ad380, e380, hx380_0⟩ := Kd.at_int (Kd.R_reads' HO_3.out).2.2 x5_2 p380 q380
                      obtain rfl : ad378 = ad380 := (by injection e380)
                      replace p380 := eq_true p380
                      replace q380 := eq_true q380
                      go_wp2
                      go_roundg k2
                      case measure => have := HJ2.out; have := HK2.out; omega
                      case rel => exact ⟨(wrap64 (x5_2 + 1)), (by first | rfl | (simp; done) | (simp [*]; done)), H', ⟨by have := HJ2.out; have := HK2.out; omega⟩, ⟨by (with_reducible repeat (first | apply Kd.R_alloc | apply Kd.R_drewN | apply Kd.R_drew)); exact HO_3.out⟩, ⟨by repeat (first | (with_reducible first | exact HB.out | apply below_alloc | apply pw_below_drewN | apply below_drew1) | exact HB.out)⟩⟩
                  · rw [if_neg c12] at H
                    have c12b0 : decide (127 ≤ (rd t374 x5_2)) = false := decide_eq_false c12
                    clear c12
                    have H' := Aside0.mk H
                    clear H
                    obtain ⟨Ao16, co16, eo16⟩ := Kd.R_slice HO_3.out
                    subst eo16
                    have p378 : 0 ≤ (x5_2 : Int) := of_decide_eq_true (by first | (with_reducible assumption) | assumption)
                    have q378 : x5_2 < (t374.length : Int) := of_decide_eq_true (by first | (with_reducible assumption) | assumption)
                    obtain ⟨ad378, e378, hx378_0⟩ := Kd.at_int (Kd.R_reads' HO_3.out).2.2 x5_2 p378 q378
                    cases e378
                    replace p378 := eq_true p378
                    replace q378 := eq_true q378
                    have p379 : 0 ≤ (x5_2 : Int) := of_decide_eq_true (by first | (with_reducible assumption) | assumption)
                    have q379 : x5_2 < (t374.length : Int) := of_decide_eq_true (by first | (with_reducible assumption) | assumption)
                    obtain ⟨ad379, e379, hx379_0⟩ := Kd.at_int (Kd.R_reads' HO_3.out).2.2 x5_2 p379 q379
                    obtain rfl : ad378 = ad379 := (by injection e379)
                    replace p379 := eq_true p379
                    replace q379 := eq_true q379
                    go_wp2
                    go_roundg k2
                    case measure => have := HJ2.out; have := HK2.out; omega
                    case rel => exact ⟨(wrap64 (x5_2 + 1)), (by first | rfl | (simp; done) | (simp [*]; done)), H', ⟨by have := HJ2.out; have := HK2.out; omega⟩, ⟨by (with_reducible repeat (first | apply Kd.R_alloc | apply Kd.R_drewN | apply Kd.R_drew)); exact HO_3.out⟩, ⟨by repeat (first | (with_reducible first | exact HB.out | apply below_alloc | apply pw_below_drewN | apply below_drew1) | exact HB.out)⟩⟩
              · rw [if_neg c9] at H
                exact absurd H (by simp)
            · rw [if_neg c8] at H
              have c8b0 : decide (x5_2 < (t374.length : Int)) = false := decide_eq_false c8
              clear c8
              obtain rfl := Option.some.inj H
              obtain ⟨Ao17, co17, eo17⟩ := Kd.R_slice HO_3.out
              subst eo17
              go_wp2
              go_ret
              exact ⟨by first | rfl | (simp [errW_none, errW_some] <;> rfl) | (simp [*, errW_none, errW_some] <;> rfl), by repeat (first | (with_reducible first | exact HB.out | apply below_alloc | apply pw_below_drewN | apply below_drew1) | exact HB.out)⟩

end Go.Proofs.YtmddkjmcbddhiaaDoor.P
