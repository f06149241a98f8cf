/-
  P12
-/
import Derived.Test.YtmddkjmcbddhiaaDoorP0
import Derived.Test.YtmddkjmcbddhiaaDoorP11
import Derived.Test.YtmddkjmcbddhiaaDoorP6
import Derived.Test.YtmddkjmcbddhiaaDoorP7L
import Derived.Test.YtmddkjmcbddhiaaDoorP9
import Derived.Test.YtmddkjmcbddhiaaDoorQdL
-- written by wip/tools/print2.py (a program of this session over the kit's print); not trusted: Lean checks it
namespace Go.Proofs.YtmddkjmcbddhiaaDoor.P
open Go.RowKit Go.Proofs.YtmddkjmcbddhiaaDoorW.PrintWords Go.Proofs.YtmddkjmcbddhiaaDoorW.PrintLast Go.Proofs.YtmddkjmcbddhiaaDoorW.PrintMore
attribute [local go_sem] max2_int min2_int max_two min_two max_three min_three max_four min_four   -- for this text's walks alone
set_option linter.unusedVariables false
set_option linter.unusedSimpArgs false

/-! ### decklelaw13_QuoteTells: function 3 -/
def decklelaw13_QuoteTells.j0 : Nat → List Int → ByteArray → Bool → Bool → Option (Bool)
  | 0, _, _, _, _ => none
  | k + 1, x0, x1, x5, x24 => if x24 = true then (some x5) else ((quote_Text.f x0).bind fun bt211 => ((deckleref13_Text.f k x0).bind fun bt213 => ((quote_Read.f x1).bind fun bt215 => ((deckleref13_Read.f k x1).bind fun bt220 => (if x5 = true then (if bt211.1.toList = bt213.1.toList then (if (bt211.2 == bt213.2) = true then ((deckleref01_Same.f k bt215.1 bt220.1).bind fun t225 => (if t225 = true then (if bt215.2.1.toList = bt220.2.1.toList then (some (bt215.2.2 == bt220.2.2)) else (none)) else (none))) else (none)) else (none)) else (none))))))
def decklelaw13_QuoteTells.f (k : Nat) (l0 : List Int) (a1 : ByteArray) : Option (Bool) := (decklelaw13_small.f k).bind fun t210 => (if (l0.length : Int) > 100 then (decklelaw13_QuoteTells.j0 k l0 a1 t210 true) else (decklelaw13_QuoteTells.j0 k l0 a1 t210 (decide ((a1.size : Int) > 500))))
theorem decklelaw13_QuoteTells.mono_l : ∀ k, (∀ y0 y1 y2 y3, LeO (decklelaw13_QuoteTells.j0 k y0 y1 y2 y3) (decklelaw13_QuoteTells.j0 (k + 1) y0 y1 y2 y3))
  | 0 => fun _ _ _ _ r h => by simp [decklelaw13_QuoteTells.j0] at h
  | k + 1 => by
    have ih0 := decklelaw13_QuoteTells.mono_l k
    · intro y0 y1 y2 y3
      unfold decklelaw13_QuoteTells.j0
      repeat' first
      | (with_reducible exact ih0 _ _ _ _)
      | (with_reducible exact decklelaw13_small.mono _)
      | (with_reducible exact deckleref01_Same.mono _ _ _)
      | (with_reducible exact deckleref13_Read.mono _ _)
      | (with_reducible exact deckleref13_Text.mono _ _)
      | (with_reducible exact LeO.refl _)
      | (with_reducible exact LeO.none _)
      | (with_reducible refine LeO.ite ?_ ?_)
      | (with_reducible refine LeO.bind ?_ (fun _ => ?_))
      | exact ih0 _ _ _ _
      | exact decklelaw13_small.mono _
      | exact deckleref01_Same.mono _ _ _
      | exact deckleref13_Read.mono _ _
      | exact deckleref13_Text.mono _ _
      | exact LeO.none _
      | refine LeO.ite ?_ ?_
      | refine LeO.bind ?_ (fun _ => ?_)
theorem decklelaw13_QuoteTells.mono : ∀ a0 a1 k, LeO (decklelaw13_QuoteTells.f k a0 a1) (decklelaw13_QuoteTells.f (k + 1) a0 a1) := by
  intro a0 a1 k
  have ih0 := decklelaw13_QuoteTells.mono_l k
  unfold decklelaw13_QuoteTells.f
  repeat' first
      | (with_reducible exact ih0 _ _ _ _)
      | (with_reducible exact decklelaw13_small.mono _)
      | (with_reducible exact deckleref01_Same.mono _ _ _)
      | (with_reducible exact deckleref13_Read.mono _ _)
      | (with_reducible exact deckleref13_Text.mono _ _)
      | (with_reducible exact LeO.refl _)
      | (with_reducible exact LeO.none _)
      | (with_reducible refine LeO.ite ?_ ?_)
      | (with_reducible refine LeO.bind ?_ (fun _ => ?_))
      | exact ih0 _ _ _ _
      | exact decklelaw13_small.mono _
      | exact deckleref01_Same.mono _ _ _
      | exact deckleref13_Read.mono _ _
      | exact deckleref13_Text.mono _ _
      | exact LeO.none _
      | refine LeO.ite ?_ ?_
      | refine LeO.bind ?_ (fun _ => ?_)
set_option maxHeartbeats 8000000 in
set_option maxRecDepth 100000 in
theorem decklelaw13_QuoteTells.calls (k : Nat) (A0 : Option Addr) (c0 : Nat) (l0 : List Int) (a1 : ByteArray) (r : Bool) (w : World) (hr0 : Kd.C (Kd.int .i64) w A0 l0.length l0) (hc0 : l0.length ≤ c0) (hE_ : Env w) (h : decklelaw13_QuoteTells.f k l0 a1 = some r) :
    Calls Tryd.prog 3 #[.slice A0 l0.length c0, .string a1] w fun e w' => e = .returned (.bool r) ∧ Below w.heap.size w w' := by
  have HR0 := Aside0.mk hr0
  have HC0 := Aside0.mk hc0
  clear hr0 hc0
  have HB := Aside0.mk (Below.refl w.heap.size w)
  have HE_ := Aside0.mk hE_
  clear hE_
  have H : ((decklelaw13_small.f k).bind fun t210 => (if (l0.length : Int) > 100 then (decklelaw13_QuoteTells.j0 k l0 a1 t210 true) else (decklelaw13_QuoteTells.j0 k l0 a1 t210 (decide ((a1.size : Int) > 500))))) = some r := h
  clear h
  replace H := Option.bind_eq_some_iff.mp H
  obtain ⟨t210, A30, H⟩ := H
  replace H : (if (l0.length : Int) > 100 then (decklelaw13_QuoteTells.j0 k l0 a1 t210 true) else (decklelaw13_QuoteTells.j0 k l0 a1 t210 (decide ((a1.size : Int) > 500)))) = some r := H
  have A3 := Aside0.mk A30
  clear A30
  have HC4 := Aside0.mk H
  clear H
  go_enter Tryd.func3, Tryd.ntmps3
  go_upto_region 2 with (first | ((with_reducible refine gate_callee (f := 13) rfl ?_); refine goesL_ (some 16) rfl rfl Tryd.func13 (by kernel_rfl) rfl #[] rfl (by (try simp only [List.map_toArray, List.map_cons, List.map_nil]); first | done | rfl | (simp only [List.length_drop, List.length_take]; rfl)) ?_; (with_reducible refine (decklelaw13_small.calls k  t210 _ ?side1 A3.out).mono ?_); (case side1 => exact HE_.out.below (by repeat (first | (with_reducible first | exact HB.out | apply below_alloc | apply pw_below_drewN | apply below_drew1) | exact HB.out))); rintro e w5 ⟨rfl, hb⟩; refine ⟨_, rfl, ?_⟩; have n0_ := Aside0.mk (below_step (by repeat (first | (with_reducible first | exact HB.out | apply below_alloc | apply pw_below_drewN | apply below_drew1) | exact HB.out)) hb); clear HB; have HB := n0_; clear n0_; (try clear hb); (try clear hb2); (try clear hk); (try clear hi)))
  (try simp only [Act.put, List.setIfInBounds_toArray, List.set_cons_zero, List.set_cons_succ])
  go_cut [24] (fun v24 wc => ∃ (kq : Nat) (x24_3 : Bool), v24 = .bool x24_3 ∧ Aside0 (decklelaw13_QuoteTells.j0 kq l0 a1 t210 x24_3 = some r) ∧ Aside0 (kq ≤ k) ∧ Aside0 (Below w.heap.size w wc))
  case first =>
    have H := HC4.out
    clear HC4
    by_cases c6 : (l0.length : Int) > 100
    · rw [if_pos c6] at H
      have c6b0 : decide (100 < (l0.length : Int)) = true := decide_eq_true c6
      have c6b1 : decide (100 < l0.length) = true := decide_eq_true (by omega)
      clear c6
      (first | rw [c6b0] | (simp only [i64_w, i32_w]; rw [c6b0]) | skip)
      have H' := Aside0.mk H
      clear H
      go_wp2
      go_meet
      case rel => exact ⟨_, (true), (by first | rfl | (simp; done) | (simp [*]; done)), H', ⟨by first | omega | exact Nat.le_refl _⟩, ⟨by repeat (first | (with_reducible first | exact HB.out | apply below_alloc | apply pw_below_drewN | apply below_drew1) | exact HB.out)⟩⟩
    · rw [if_neg c6] at H
      have c6b0 : decide (100 < (l0.length : Int)) = false := decide_eq_false c6
      have c6b1 : decide (100 < l0.length) = false := decide_eq_false (by omega)
      clear c6
      (first | rw [c6b0] | (simp only [i64_w, i32_w]; rw [c6b0]) | skip)
      have H' := Aside0.mk H
      clear H
      go_wp2
      go_meet
      case rel => exact ⟨_, (decide ((a1.size : Int) > 500)), (by first | rfl | (simp; done) | (simp [*]; done)), H', ⟨by first | omega | exact Nat.le_refl _⟩, ⟨by repeat (first | (with_reducible first | exact HB.out | apply below_alloc | apply pw_below_drewN | apply below_drew1) | exact HB.out)⟩⟩
  case rest =>
    clear HC4
    try clear c1
    try clear p2
    try clear c3
    try clear c6
    try clear c6b0
    try clear c6b1
    obtain ⟨kq, x24_3, rfl, HA, HJ3, HB⟩ := hcut
    cases kq with
    | zero => exact absurd HA.out (by simp [decklelaw13_QuoteTells.j0])
    | succ kj3 =>
      have H := HA.out
      clear HA
      simp only [decklelaw13_QuoteTells.j0] at H
      by_cases c7 : x24_3 = true
      · subst c7
        have H1 : (some t210) = some r := by rw [if_pos rfl] at H; exact H
        clear H
        have H := H1
        clear H1
        obtain rfl := Option.some.inj H
        go_wp2
        go_ret
        exact ⟨by first | rfl | (simp [errW_none, errW_some] <;> rfl) | (simp [*, errW_none, errW_some] <;> rfl), by repeat (first | (with_reducible first | exact HB.out | apply below_alloc | apply pw_below_drewN | apply below_drew1) | exact HB.out)⟩
      · replace c7 := Bool.eq_false_iff.mpr c7
        subst c7
        have H1 : ((quote_Text.f l0).bind fun bt211 => ((deckleref13_Text.f kj3 l0).bind fun bt213 => ((quote_Read.f a1).bind fun bt215 => ((deckleref13_Read.f kj3 a1).bind fun bt220 => (if t210 = true then (if bt211.1.toList = bt213.1.toList then (if (bt211.2 == bt213.2) = true then ((deckleref01_Same.f kj3 bt215.1 bt220.1).bind fun t225 => (if t225 = true then (if bt215.2.1.toList = bt220.2.1.toList then (some (bt215.2.2 == bt220.2.2)) else (none)) else (none))) else (none)) else (none)) else (none)))))) = some r := by rw [if_neg (show ¬ (false = true) by decide)] at H; exact H
        clear H
        have H := H1
        clear H1
        replace H := Option.bind_eq_some_iff.mp H
        obtain ⟨⟨t211, t212⟩, A80, H⟩ := H
        replace H : ((deckleref13_Text.f kj3 l0).bind fun bt213 => ((quote_Read.f a1).bind fun bt215 => ((deckleref13_Read.f kj3 a1).bind fun bt220 => (if t210 = true then (if t211.toList = bt213.1.toList then (if (t212 == bt213.2) = true then ((deckleref01_Same.f kj3 bt215.1 bt220.1).bind fun t225 => (if t225 = true then (if bt215.2.1.toList = bt220.2.1.toList then (some (bt215.2.2 == bt220.2.2)) else (none)) else (none))) else (none)) else (none)) else (none))))) = some r := H
        have A8 := Aside0.mk A80
        clear A80
        replace H := Option.bind_eq_some_iff.mp H
        obtain ⟨⟨t213, t214⟩, A90, H⟩ := H
        replace H : ((quote_Read.f a1).bind fun bt215 => ((deckleref13_Read.f kj3 a1).bind fun bt220 => (if t210 = true then (if t211.toList = t213.toList then (if (t212 == t214) = true then ((deckleref01_Same.f kj3 bt215.1 bt220.1).bind fun t225 => (if t225 = true then (if bt215.2.1.toList = bt220.2.1.toList then (some (bt215.2.2 == bt220.2.2)) else (none)) else (none))) else (none)) else (none)) else (none)))) = some r := H
        have A9 := Aside0.mk A90
        clear A90
        replace H := Option.bind_eq_some_iff.mp H
        obtain ⟨⟨t215, t216, t217⟩, A100, H⟩ := H
        replace H : ((deckleref13_Read.f kj3 a1).bind fun bt220 => (if t210 = true then (if t211.toList = t213.toList then (if (t212 == t214) = true then ((deckleref01_Same.f kj3 t215 bt220.1).bind fun t225 => (if t225 = true then (if t216.toList = bt220.2.1.toList then (some (t217 == bt220.2.2)) else (none)) else (none))) else (none)) else (none)) else (none))) = some r := H
        have A10 := Aside0.mk A100
        clear A100
        replace H := Option.bind_eq_some_iff.mp H
        obtain ⟨⟨t220, t221, t222⟩, A110, H⟩ := H
        replace H : (if t210 = true then (if t211.toList = t213.toList then (if (t212 == t214) = true then ((deckleref01_Same.f kj3 t215 t220).bind fun t225 => (if t225 = true then (if t216.toList = t221.toList then (some (t217 == t222)) else (none)) else (none))) else (none)) else (none)) else (none)) = some r := H
        have A11 := Aside0.mk A110
        clear A110
        by_cases c12 : t210 = true
        · subst c12
          have H1 : (if t211.toList = t213.toList then (if (t212 == t214) = true then ((deckleref01_Same.f kj3 t215 t220).bind fun t225 => (if t225 = true then (if t216.toList = t221.toList then (some (t217 == t222)) else (none)) else (none))) else (none)) else (none)) = some r := by rw [if_pos rfl] at H; exact H
          clear H
          have H := H1
          clear H1
          by_cases c13 : t211.toList = t213.toList
          · rw [if_pos c13] at H
            have c13b0 : (t211.toList == t213.toList) = true := beq_iff_eq.mpr c13
            have c13b1 : (t211.toList != t213.toList) = false := bne_eq_false_iff_eq.mpr c13
            clear c13
            by_cases c14 : (t212 == t214) = true
            · rw [if_pos c14] at H
              have c14b0 : (t212 == t214) = true := c14
              (try (have c14b1 : decide (t212 = t214) = true := by simpa using c14))
              (try (have c14b2 : (t212 == t214) = true := by simpa using c14))
              clear c14
              replace H := Option.bind_eq_some_iff.mp H
              obtain ⟨t225, A150, H⟩ := H
              replace H : (if t225 = true then (if t216.toList = t221.toList then (some (t217 == t222)) else (none)) else (none)) = some r := H
              have A15 := Aside0.mk A150
              clear A150
              by_cases c16 : t225 = true
              · subst c16
                have H1 : (if t216.toList = t221.toList then (some (t217 == t222)) else (none)) = some r := by rw [if_pos rfl] at H; exact H
                clear H
                have H := H1
                clear H1
                by_cases c17 : t216.toList = t221.toList
                · rw [if_pos c17] at H
                  have c17b0 : (t216.toList == t221.toList) = true := beq_iff_eq.mpr c17
                  have c17b1 : (t216.toList != t221.toList) = false := bne_eq_false_iff_eq.mpr c17
                  clear c17
                  obtain rfl := Option.some.inj H
                  go_wp2_with (first | ((with_reducible refine gate_callee (f := 14) rfl ?_); refine goesL_ (some 28) rfl rfl Tryd.func14 (by kernel_rfl) rfl #[.slice A0 l0.length c0] rfl (by (try simp only [List.map_toArray, List.map_cons, List.map_nil]); first | done | rfl | (simp only [List.length_drop, List.length_take]; rfl)) ?_; (with_reducible refine (quote_Text.calls _ _ l0 t211 t212 _ ?side1 ?side2 A8.out).mono ?_); (case side1 => repeat (first | exact (Kd.C_below HR0.out HB.out) | (with_reducible refine Kd.C_alloc ?_ _) | (with_reducible refine Kd.C_drewN ?_ _) | (with_reducible refine Kd.C_drew ?_))); (case side2 => exact HC0.out); rintro e w18 ⟨rfl, hb⟩; refine ⟨_, rfl, ?_⟩; have n0_ := Aside0.mk (below_step (by repeat (first | (with_reducible first | exact HB.out | apply below_alloc | apply pw_below_drewN | apply below_drew1) | exact HB.out)) hb); clear HB; have HB := n0_; clear n0_; (try clear hb); (try clear hb2); (try clear hk); (try clear hi)) | ((with_reducible refine gate_callee (f := 15) rfl ?_); refine goesL_ (some 33) rfl rfl Tryd.func15 (by kernel_rfl) rfl #[.slice A0 l0.length c0] rfl (by (try simp only [List.map_toArray, List.map_cons, List.map_nil]); first | done | rfl | (simp only [List.length_drop, List.length_take]; rfl)) ?_; (with_reducible refine (deckleref13_Text.calls kj3 _ _ l0 t213 t214 _ ?side1 ?side2 A9.out).mono ?_); (case side1 => repeat (first | exact (Kd.C_below HR0.out HB.out) | (with_reducible refine Kd.C_alloc ?_ _) | (with_reducible refine Kd.C_drewN ?_ _) | (with_reducible refine Kd.C_drew ?_))); (case side2 => exact HC0.out); rintro e w19 ⟨rfl, hb⟩; refine ⟨_, rfl, ?_⟩; have n0_ := Aside0.mk (below_step (by repeat (first | (with_reducible first | exact HB.out | apply below_alloc | apply pw_below_drewN | apply below_drew1) | exact HB.out)) hb); clear HB; have HB := n0_; clear n0_; (try clear hb); (try clear hb2); (try clear hk); (try clear hi)) | ((with_reducible refine gate_callee (f := 16) rfl ?_); refine goesL_ (some 38) rfl rfl Tryd.func16 (by kernel_rfl) rfl #[.string a1] rfl (by (try simp only [List.map_toArray, List.map_cons, List.map_nil]); first | done | rfl | (simp only [List.length_drop, List.length_take]; rfl)) ?_; (with_reducible refine (quote_Read.calls a1 t215 t216 t217 _ ?side1 A10.out).mono ?_); (case side1 => exact HE_.out.below (by repeat (first | (with_reducible first | exact HB.out | apply below_alloc | apply pw_below_drewN | apply below_drew1) | exact HB.out))); rintro e w20 ⟨v218, rfl, ho0, hb⟩; refine ⟨_, rfl, ?_⟩; have n0_ := Aside0.mk (Kd.R_lower ho0 (below_size (by repeat (first | (with_reducible first | exact HB.out | apply below_alloc | apply pw_below_drewN | apply below_drew1) | exact HB.out)))); have n1_ := Aside0.mk (below_step (by repeat (first | (with_reducible first | exact HB.out | apply below_alloc | apply pw_below_drewN | apply below_drew1) | exact HB.out)) hb); clear HB; have HO219 := n0_; have HB := n1_; clear n0_ n1_; (try clear hb); (try clear hb2); (try clear hk); (try clear hi); (try clear ho0)) | ((with_reducible refine gate_callee (f := 17) rfl ?_); refine goesL_ (some 44) rfl rfl Tryd.func17 (by kernel_rfl) rfl #[.string a1] rfl (by (try simp only [List.map_toArray, List.map_cons, List.map_nil]); first | done | rfl | (simp only [List.length_drop, List.length_take]; rfl)) ?_; (with_reducible refine (deckleref13_Read.calls kj3 a1 t220 t221 t222 _ A11.out).mono ?_); rintro e w21 ⟨v223, rfl, ho0, hb⟩; refine ⟨_, rfl, ?_⟩; have n0_ := Aside0.mk (Kd.R_elder' (by (with_reducible repeat (first | apply Kd.R_alloc | apply Kd.R_drewN | apply Kd.R_drew)); exact HO219.out) (Kd.R_base ho0) hb); have n1_ := Aside0.mk (Kd.R_lower (Kd.R_new' ho0 (Kd.R_lt (by (with_reducible repeat (first | apply Kd.R_alloc | apply Kd.R_drewN | apply Kd.R_drew)); exact HO219.out))) (below_size (by repeat (first | (with_reducible first | exact HB.out | apply below_alloc | apply pw_below_drewN | apply below_drew1) | exact HB.out)))); have n2_ := Aside0.mk (below_step (by repeat (first | (with_reducible first | exact HB.out | apply below_alloc | apply pw_below_drewN | apply below_drew1) | exact HB.out)) hb); clear HO219; clear HB; have HO219 := n0_; have HO224 := n1_; have HB := n2_; clear n0_ n1_ n2_; (try clear hb); (try clear hb2); (try clear hk); (try clear hi); (try clear ho0); obtain ⟨Ao22, co22, eo22⟩ := Kd.R_slice HO219.out; subst eo22; obtain ⟨Ao23, co23, eo23⟩ := Kd.R_slice HO224.out; subst eo23) | (go_at_call 18; (with_reducible refine (deckleref01_Same.calls kj3 _ _ t215 _ _ t220 true _ ?side1 ?side2 ?side3 ?side4 A15.out).mono ?_); (case side1 => repeat (first | exact (Kd.R_reads' HO219.out).2.2 | (with_reducible refine Kd.C_alloc ?_ _) | (with_reducible refine Kd.C_drewN ?_ _) | (with_reducible refine Kd.C_drew ?_))); (case side2 => exact (Kd.R_reads' HO219.out).2.1); (case side3 => repeat (first | exact (Kd.R_reads' HO224.out).2.2 | (with_reducible refine Kd.C_alloc ?_ _) | (with_reducible refine Kd.C_drewN ?_ _) | (with_reducible refine Kd.C_drew ?_))); (case side4 => exact (Kd.R_reads' HO224.out).2.1); rintro e w' ⟨rfl, ⟨nd, rfl⟩⟩))
                  go_ret
                  exact ⟨by first | rfl | (simp [errW_none, errW_some] <;> rfl) | (simp [*, errW_none, errW_some] <;> rfl), by repeat (first | (with_reducible first | exact HB.out | apply below_alloc | apply pw_below_drewN | apply below_drew1) | exact HB.out)⟩
                · rw [if_neg c17] at H
                  exact absurd H (by simp)
              · replace c16 := Bool.eq_false_iff.mpr c16
                subst c16
                have H1 : (none) = some r := by rw [if_neg (show ¬ (false = true) by decide)] at H; exact H
                clear H
                have H := H1
                clear H1
                exact absurd H (by simp)
            · rw [if_neg c14] at H
              exact absurd H (by simp)
          · rw [if_neg c13] at H
            exact absurd H (by simp)
        · replace c12 := Bool.eq_false_iff.mpr c12
          subst c12
          have H1 : (none) = some r := by rw [if_neg (show ¬ (false = true) by decide)] at H; exact H
          clear H
          have H := H1
          clear H1
          exact absurd H (by simp)

end Go.Proofs.YtmddkjmcbddhiaaDoor.P
