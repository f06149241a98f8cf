/-
  P42
-/
import Derived.Test.YtmddkjmcbddhiaaDoorP0
import Derived.Test.YtmddkjmcbddhiaaDoorP19J
import Derived.Test.YtmddkjmcbddhiaaDoorP20
import Derived.Test.YtmddkjmcbddhiaaDoorP27J
import Derived.Test.YtmddkjmcbddhiaaDoorGSmall16J
import Derived.Test.YtmddkjmcbddhiaaDoorP30
-- written by wip/tools/print2.py (a program of this session over the kit's print); not trusted: Lean checks it
namespace Go.Proofs.YtmddkjmcbddhiaaDoor.P
open Go.RowKit Go.Proofs.YtmddkjmcbddhiaaDoorW.PrintWords Go.Proofs.YtmddkjmcbddhiaaDoorW.PrintLast Go.Proofs.YtmddkjmcbddhiaaDoorW.PrintMore
attribute [local go_sem] max2_int min2_int max_two min_two max_three min_three max_four min_four   -- for this text's walks alone
set_option linter.unusedVariables false
set_option linter.unusedSimpArgs false

/-! ### decklelaw16_FunctionBack: function 9 -/
mutual
def decklelaw16_FunctionBack.j0 : Nat → List ByteArray → ByteArray → Bool → Bool → Option (Bool)
  | 0, _, _, _, _ => none
  | k + 1, x0, x1, x5, x22 => if x22 = true then (some x5) else ((function_Split.f x1).bind fun t509 => ((function_Join.f t509).bind fun t512 => (if t512.toList = x1.toList then (decklelaw16_FunctionBack.l0 k x0 x5 0) else (none))))
def decklelaw16_FunctionBack.l0 : Nat → List ByteArray → Bool → Int → Option (Bool)
  | 0, _, _, _ => none
  | k + 1, x0, x5, x7 => if x7 < (x0.length : Int) then (if 0 ≤ x7 then ((function_Line.f (rdOf ByteArray.empty x0 x7)).bind fun t519 => (if t519 = true then (decklelaw16_FunctionBack.l0 k x0 x5 (wrap64 (x7 + 1))) else (if x5 = true then ((function_Right.f k x0).bind fun t520 => (some (!t520))) else (none)))) else (none)) else (if x5 = true then ((function_Join.f x0).bind fun t513 => ((function_Split.f t513).bind fun t514 => ((deckleref16_Same.f k t514 x0).bind fun t517 => (some t517)))) else (none))
end
def decklelaw16_FunctionBack.f (k : Nat) (l0 : List ByteArray) (a1 : ByteArray) : Option (Bool) := (decklelaw16_small.f).bind fun t507 => ((decklelaw16_Few.f k l0).bind fun t508 => (if t508 = true then (if (a1.size : Int) > 500 then (decklelaw16_FunctionBack.j0 k l0 a1 t507 true) else (decklelaw16_FunctionBack.j0 k l0 a1 t507 (decide ((l0.length : Int) < 1)))) else (decklelaw16_FunctionBack.j0 k l0 a1 t507 true)))
theorem decklelaw16_FunctionBack.mono_l : ∀ k, (∀ y0 y1 y2 y3, LeO (decklelaw16_FunctionBack.j0 k y0 y1 y2 y3) (decklelaw16_FunctionBack.j0 (k + 1) y0 y1 y2 y3)) ∧ (∀ y0 y1 y2, LeO (decklelaw16_FunctionBack.l0 k y0 y1 y2) (decklelaw16_FunctionBack.l0 (k + 1) y0 y1 y2))
  | 0 => ⟨fun _ _ _ _ r h => by simp [decklelaw16_FunctionBack.j0] at h, fun _ _ _ r h => by simp [decklelaw16_FunctionBack.l0] at h⟩
  | k + 1 => by
    obtain ⟨ih0, ih1⟩ := decklelaw16_FunctionBack.mono_l k
    refine ⟨?_, ?_⟩
    · intro y0 y1 y2 y3
      unfold decklelaw16_FunctionBack.j0
      repeat' first
      | (with_reducible exact ih0 _ _ _ _)
      | (with_reducible exact ih1 _ _ _)
      | (with_reducible exact decklelaw16_Few.mono _ _)
      | (with_reducible exact deckleref16_Same.mono _ _ _)
      | (with_reducible exact function_Right.mono _ _)
      | (with_reducible exact LeO.refl _)
      | (with_reducible exact LeO.none _)
      | (with_reducible refine LeO.ite ?_ ?_)
      | (with_reducible refine LeO.bind ?_ (fun _ => ?_))
      | exact ih0 _ _ _ _
      | exact ih1 _ _ _
      | exact decklelaw16_Few.mono _ _
      | exact deckleref16_Same.mono _ _ _
      | exact function_Right.mono _ _
      | exact LeO.none _
      | refine LeO.ite ?_ ?_
      | refine LeO.bind ?_ (fun _ => ?_)
    · intro y0 y1 y2
      unfold decklelaw16_FunctionBack.l0
      repeat' first
      | (with_reducible exact ih0 _ _ _ _)
      | (with_reducible exact ih1 _ _ _)
      | (with_reducible exact decklelaw16_Few.mono _ _)
      | (with_reducible exact deckleref16_Same.mono _ _ _)
      | (with_reducible exact function_Right.mono _ _)
      | (with_reducible exact LeO.refl _)
      | (with_reducible exact LeO.none _)
      | (with_reducible refine LeO.ite ?_ ?_)
      | (with_reducible refine LeO.bind ?_ (fun _ => ?_))
      | exact ih0 _ _ _ _
      | exact ih1 _ _ _
      | exact decklelaw16_Few.mono _ _
      | exact deckleref16_Same.mono _ _ _
      | exact function_Right.mono _ _
      | exact LeO.none _
      | refine LeO.ite ?_ ?_
      | refine LeO.bind ?_ (fun _ => ?_)
theorem decklelaw16_FunctionBack.mono : ∀ a0 a1 k, LeO (decklelaw16_FunctionBack.f k a0 a1) (decklelaw16_FunctionBack.f (k + 1) a0 a1) := by
  intro a0 a1 k
  obtain ⟨ih0, ih1⟩ := decklelaw16_FunctionBack.mono_l k
  unfold decklelaw16_FunctionBack.f
  repeat' first
      | (with_reducible exact ih0 _ _ _ _)
      | (with_reducible exact ih1 _ _ _)
      | (with_reducible exact decklelaw16_Few.mono _ _)
      | (with_reducible exact deckleref16_Same.mono _ _ _)
      | (with_reducible exact function_Right.mono _ _)
      | (with_reducible exact LeO.refl _)
      | (with_reducible exact LeO.none _)
      | (with_reducible refine LeO.ite ?_ ?_)
      | (with_reducible refine LeO.bind ?_ (fun _ => ?_))
      | exact ih0 _ _ _ _
      | exact ih1 _ _ _
      | exact decklelaw16_Few.mono _ _
      | exact deckleref16_Same.mono _ _ _
      | exact function_Right.mono _ _
      | exact LeO.none _
      | refine LeO.ite ?_ ?_
      | refine LeO.bind ?_ (fun _ => ?_)
set_option maxHeartbeats 8000000 in
set_option maxRecDepth 100000 in
theorem decklelaw16_FunctionBack.calls (k : Nat) (A0 : Option Addr) (c0 : Nat) (l0 : List ByteArray) (a1 : ByteArray) (r : Bool) (w : World) (hr0 : Kd.C Kd.string w A0 l0.length l0) (hc0 : l0.length ≤ c0) (hE_ : Env w) (h : decklelaw16_FunctionBack.f k l0 a1 = some r) :
    Calls Tryd.prog 9 #[.slice A0 l0.length c0, .string a1] w fun e w' => e = .returned (.bool r) ∧ Below w.heap.size w w' := by
  have HR0 := Aside0.mk hr0
  have HC0 := Aside0.mk hc0
  clear hr0 hc0
  have HB := Aside0.mk (Below.refl w.heap.size w)
  have HE_ := Aside0.mk hE_
  clear hE_
  have H : ((decklelaw16_small.f).bind fun t507 => ((decklelaw16_Few.f k l0).bind fun t508 => (if t508 = true then (if (a1.size : Int) > 500 then (decklelaw16_FunctionBack.j0 k l0 a1 t507 true) else (decklelaw16_FunctionBack.j0 k l0 a1 t507 (decide ((l0.length : Int) < 1)))) else (decklelaw16_FunctionBack.j0 k l0 a1 t507 true)))) = some r := h
  clear h
  replace H := Option.bind_eq_some_iff.mp H
  obtain ⟨t507, A30, H⟩ := H
  replace H : ((decklelaw16_Few.f k l0).bind fun t508 => (if t508 = true then (if (a1.size : Int) > 500 then (decklelaw16_FunctionBack.j0 k l0 a1 t507 true) else (decklelaw16_FunctionBack.j0 k l0 a1 t507 (decide ((l0.length : Int) < 1)))) else (decklelaw16_FunctionBack.j0 k l0 a1 t507 true))) = some r := H
  have A3 := Aside0.mk A30
  clear A30
  replace H := Option.bind_eq_some_iff.mp H
  obtain ⟨t508, A40, H⟩ := H
  replace H : (if t508 = true then (if (a1.size : Int) > 500 then (decklelaw16_FunctionBack.j0 k l0 a1 t507 true) else (decklelaw16_FunctionBack.j0 k l0 a1 t507 (decide ((l0.length : Int) < 1)))) else (decklelaw16_FunctionBack.j0 k l0 a1 t507 true)) = some r := H
  have A4 := Aside0.mk A40
  clear A40
  have HC5 := Aside0.mk H
  clear H
  go_enter Tryd.func9, Tryd.ntmps9
  go_upto_region 3 with (first | ((with_reducible refine gate_callee (f := 19) rfl ?_); refine goesL_ (some 8) rfl rfl Tryd.func19 (by kernel_rfl) rfl #[] rfl (by (try simp only [List.map_toArray, List.map_cons, List.map_nil]); first | done | rfl | (simp only [List.length_drop, List.length_take]; rfl)) ?_; (with_reducible refine (decklelaw16_small.calls  t507 _ ?side1 A3.out).mono ?_); (case side1 => exact HE_.out.below (by repeat (first | (with_reducible first | exact HB.out | apply below_alloc | apply pw_below_drewN | apply below_drew1) | exact HB.out))); rintro e w6 ⟨rfl, hb⟩; refine ⟨_, rfl, ?_⟩; have n0_ := Aside0.mk (below_step (by repeat (first | (with_reducible first | exact HB.out | apply below_alloc | apply pw_below_drewN | apply below_drew1) | exact HB.out)) hb); clear HB; have HB := n0_; clear n0_; (try clear hb); (try clear hb2); (try clear hk); (try clear hi)) | ((with_reducible refine gate_callee (f := 20) rfl ?_); refine goesL_ (some 10) rfl rfl Tryd.func20 (by kernel_rfl) rfl #[.slice A0 l0.length c0] rfl (by (try simp only [List.map_toArray, List.map_cons, List.map_nil]); first | done | rfl | (simp only [List.length_drop, List.length_take]; rfl)) ?_; (with_reducible refine (decklelaw16_Few.calls k _ _ l0 t508 _ ?side1 ?side2 A4.out).mono ?_); (case side1 => repeat (first | exact (Kd.C_below HR0.out HB.out) | (with_reducible refine Kd.C_alloc ?_ _) | (with_reducible refine Kd.C_drewN ?_ _) | (with_reducible refine Kd.C_drew ?_))); (case side2 => exact HC0.out); rintro e w' ⟨rfl, ⟨nd, rfl⟩⟩; refine ⟨_, rfl, ?_⟩))
  (try simp only [Act.put, List.setIfInBounds_toArray, List.set_cons_zero, List.set_cons_succ])
  go_cut [22] (fun v22 wc => ∃ (kq : Nat) (x22_4 : Bool), v22 = .bool x22_4 ∧ Aside0 (decklelaw16_FunctionBack.j0 kq l0 a1 t507 x22_4 = some r) ∧ Aside0 (kq ≤ k) ∧ Aside0 (Below w.heap.size w wc))
  case first =>
    have H := HC5.out
    clear HC5
    by_cases c7 : t508 = true
    · subst c7
      have H1 : (if (a1.size : Int) > 500 then (decklelaw16_FunctionBack.j0 k l0 a1 t507 true) else (decklelaw16_FunctionBack.j0 k l0 a1 t507 (decide ((l0.length : Int) < 1)))) = some r := by rw [if_pos rfl] at H; exact H
      clear H
      have H := H1
      clear H1
      by_cases c8 : (a1.size : Int) > 500
      · rw [if_pos c8] at H
        have c8b0 : decide (500 < (a1.size : Int)) = true := decide_eq_true c8
        have c8b1 : decide (500 < a1.size) = true := decide_eq_true (by omega)
        clear c8
        (first | rw [c8b0] | (simp only [i64_w, i32_w]; rw [c8b0]) | skip)
        have H' := Aside0.mk H
        clear H
        go_wp2
        go_meet
        case rel => exact ⟨_, (true), (by first | rfl | (simp; done) | (simp [*]; done)), H', ⟨by first | omega | exact Nat.le_refl _⟩, ⟨by repeat (first | (with_reducible first | exact HB.out | apply below_alloc | apply pw_below_drewN | apply below_drew1) | exact HB.out)⟩⟩
      · rw [if_neg c8] at H
        have c8b0 : decide (500 < (a1.size : Int)) = false := decide_eq_false c8
        have c8b1 : decide (500 < a1.size) = false := decide_eq_false (by omega)
        clear c8
        (first | rw [c8b0] | (simp only [i64_w, i32_w]; rw [c8b0]) | skip)
        have H' := Aside0.mk H
        clear H
        go_wp2
        go_meet
        case rel => exact ⟨_, (decide ((l0.length : Int) < 1)), (by first | rfl | (simp; done) | (simp [*]; done)), H', ⟨by first | omega | exact Nat.le_refl _⟩, ⟨by repeat (first | (with_reducible first | exact HB.out | apply below_alloc | apply pw_below_drewN | apply below_drew1) | exact HB.out)⟩⟩
    · replace c7 := Bool.eq_false_iff.mpr c7
      subst c7
      have H1 : (decklelaw16_FunctionBack.j0 k l0 a1 t507 true) = some r := by rw [if_neg (show ¬ (false = true) by decide)] at H; exact H
      clear H
      have H := H1
      clear H1
      have H' := Aside0.mk H
      clear H
      go_wp2
      go_meet
      case rel => exact ⟨_, (true), (by first | rfl | (simp; done) | (simp [*]; done)), H', ⟨by first | omega | exact Nat.le_refl _⟩, ⟨by repeat (first | (with_reducible first | exact HB.out | apply below_alloc | apply pw_below_drewN | apply below_drew1) | exact HB.out)⟩⟩
  case rest =>
    clear HC5
    try clear c1
    try clear c2
    try clear p2
    try clear c7
    try clear c8
    try clear c8b0
    try clear c8b1
    obtain ⟨kq, x22_4, rfl, HA, HJ4, HB⟩ := hcut
    cases kq with
    | zero => exact absurd HA.out (by simp [decklelaw16_FunctionBack.j0])
    | succ kj4 =>
      have H := HA.out
      clear HA
      simp only [decklelaw16_FunctionBack.j0] at H
      by_cases c9 : x22_4 = true
      · subst c9
        have H1 : (some t507) = some r := by rw [if_pos rfl] at H; exact H
        clear H
        have H := H1
        clear H1
        obtain rfl := Option.some.inj H
        go_wp2
        go_ret
        exact ⟨by first | rfl | (simp [errW_none, errW_some] <;> rfl) | (simp [*, errW_none, errW_some] <;> rfl), by repeat (first | (with_reducible first | exact HB.out | apply below_alloc | apply pw_below_drewN | apply below_drew1) | exact HB.out)⟩
      · replace c9 := Bool.eq_false_iff.mpr c9
        subst c9
        have H1 : ((function_Split.f a1).bind fun t509 => ((function_Join.f t509).bind fun t512 => (if t512.toList = a1.toList then (decklelaw16_FunctionBack.l0 kj4 l0 t507 0) else (none)))) = some r := by rw [if_neg (show ¬ (false = true) by decide)] at H; exact H
        clear H
        have H := H1
        clear H1
        replace H := Option.bind_eq_some_iff.mp H
        obtain ⟨t509, A100, H⟩ := H
        replace H : ((function_Join.f t509).bind fun t512 => (if t512.toList = a1.toList then (decklelaw16_FunctionBack.l0 kj4 l0 t507 0) else (none))) = some r := H
        have A10 := Aside0.mk A100
        clear A100
        replace H := Option.bind_eq_some_iff.mp H
        obtain ⟨t512, A110, H⟩ := H
        replace H : (if t512.toList = a1.toList then (decklelaw16_FunctionBack.l0 kj4 l0 t507 0) else (none)) = some r := H
        have A11 := Aside0.mk A110
        clear A110
        by_cases c12 : t512.toList = a1.toList
        · rw [if_pos c12] at H
          have c12b0 : (t512.toList == a1.toList) = true := beq_iff_eq.mpr c12
          have c12b1 : (t512.toList != a1.toList) = false := bne_eq_false_iff_eq.mpr c12
          clear c12
          have H' := Aside0.mk H
          clear H
          go_wp2_with (first | ((with_reducible refine gate_callee (f := 32) rfl ?_); refine goesL_ (some 25) rfl rfl Tryd.func32 (by kernel_rfl) rfl #[.string a1] rfl (by (try simp only [List.map_toArray, List.map_cons, List.map_nil]); first | done | rfl | (simp only [List.length_drop, List.length_take]; rfl)) ?_; (with_reducible refine (function_Split.calls a1 t509 _ ?side1 A10.out).mono ?_); (case side1 => exact HE_.out.below (by repeat (first | (with_reducible first | exact HB.out | apply below_alloc | apply pw_below_drewN | apply below_drew1) | exact HB.out))); rintro e w13 ⟨v510, rfl, ho0, hb⟩; refine ⟨_, rfl, ?_⟩; have n0_ := Aside0.mk (Kd.R_lower ho0 (below_size (by repeat (first | (with_reducible first | exact HB.out | apply below_alloc | apply pw_below_drewN | apply below_drew1) | exact HB.out)))); have n1_ := Aside0.mk (below_step (by repeat (first | (with_reducible first | exact HB.out | apply below_alloc | apply pw_below_drewN | apply below_drew1) | exact HB.out)) hb); clear HB; have HO511 := n0_; have HB := n1_; clear n0_ n1_; (try clear hb); (try clear hb2); (try clear hk); (try clear hi); (try clear ho0); obtain ⟨Ao14, co14, eo14⟩ := Kd.R_slice HO511.out; subst eo14) | ((with_reducible refine gate_callee (f := 30) rfl ?_); refine goesL_ (some 26) rfl rfl Tryd.func30 (by kernel_rfl) rfl #[.slice Ao14 t509.length co14] rfl (by (try simp only [List.map_toArray, List.map_cons, List.map_nil]); first | done | rfl | (simp only [List.length_drop, List.length_take]; rfl)) ?_; (with_reducible refine (function_Join.calls _ _ t509 t512 _ ?side1 ?side2 A11.out).mono ?_); (case side1 => repeat (first | exact (Kd.R_reads' HO511.out).2.2 | (with_reducible refine Kd.C_alloc ?_ _) | (with_reducible refine Kd.C_drewN ?_ _) | (with_reducible refine Kd.C_drew ?_))); (case side2 => exact (Kd.R_reads' HO511.out).2.1); rintro e w15 ⟨rfl, hb⟩; refine ⟨_, rfl, ?_⟩; have n0_ := Aside0.mk (Kd.R_below (by (with_reducible repeat (first | apply Kd.R_alloc | apply Kd.R_drewN | apply Kd.R_drew)); exact HO511.out) hb); have n1_ := Aside0.mk (below_step (by repeat (first | (with_reducible first | exact HB.out | apply below_alloc | apply pw_below_drewN | apply below_drew1) | exact HB.out)) hb); clear HO511; clear HB; have HO511 := n0_; have HB := n1_; clear n0_ n1_; (try clear hb); (try clear hb2); (try clear hk); (try clear hi)))
          go_loopg [7] kj4 (fun kq v7 w' => ∃ (x7_2 : Int), v7 = .int .i64 x7_2 ∧ Aside0 (decklelaw16_FunctionBack.l0 kq l0 t507 x7_2 = some r) ∧ Aside0 (kq ≤ kj4) ∧ Aside0 (Below w.heap.size w w'))
          case atStart => exact ⟨(0), (by first | rfl | (simp; done) | (simp [*]; done)), H', ⟨Nat.le_refl _⟩, ⟨by repeat (first | (with_reducible first | exact HB.out | apply below_alloc | apply pw_below_drewN | apply below_drew1) | exact HB.out)⟩⟩
          case round =>
            clear H'
            try clear c1
            try clear c2
            try clear p2
            try clear c3
            try clear c7
            try clear c8
            try clear c8b0
            try clear c8b1
            try clear c9
            try clear c12
            try clear c12b0
            try clear c12b1
            try clear p2
            obtain ⟨x7_2, rfl, HA, HK2, HB⟩ := hrel
            cases gk with
            | zero => exact absurd HA.out (by simp [decklelaw16_FunctionBack.l0])
            | succ k2 =>
              have H := HA.out
              clear HA
              simp only [decklelaw16_FunctionBack.l0] at H
              by_cases c16 : x7_2 < (l0.length : Int)
              · rw [if_pos c16] at H
                have c16b0 : decide (x7_2 < (l0.length : Int)) = true := decide_eq_true c16
                clear c16
                by_cases c17 : 0 ≤ x7_2
                · rw [if_pos c17] at H
                  have c17b0 : decide (0 ≤ x7_2) = true := decide_eq_true c17
                  clear c17
                  replace H := Option.bind_eq_some_iff.mp H
                  obtain ⟨t519, A180, H⟩ := H
                  replace H : (if t519 = true then (decklelaw16_FunctionBack.l0 k2 l0 t507 (wrap64 (x7_2 + 1))) else (if t507 = true then ((function_Right.f k2 l0).bind fun t520 => (some (!t520))) else (none))) = some r := H
                  have A18 := Aside0.mk A180
                  clear A180
                  by_cases c19 : t519 = true
                  · subst c19
                    have H1 : (decklelaw16_FunctionBack.l0 k2 l0 t507 (wrap64 (x7_2 + 1))) = some r := by rw [if_pos rfl] at H; exact H
                    clear H
                    have H := H1
                    clear H1
                    have H' := Aside0.mk H
                    clear H
                    have p518 : 0 ≤ (x7_2 : Int) := of_decide_eq_true (by first | (with_reducible assumption) | assumption)
                    have q518 : x7_2 < (l0.length : Int) := of_decide_eq_true (by first | (with_reducible assumption) | assumption)
                    obtain ⟨ad518, e518, hx518_0⟩ := Kd.at_string HR0.out x7_2 p518 q518
                    cases e518
                    replace hx518_0 := (HB.out.cell (World.block_lt_of_cell? w _ hx518_0)).trans hx518_0
                    replace p518 := eq_true p518
                    replace q518 := eq_true q518
                    go_wp2_with (first | ((with_reducible refine gate_callee (f := 21) rfl ?_); refine goesL_ (some 39) rfl rfl Tryd.func21 (by kernel_rfl) rfl #[.string (rdOf ByteArray.empty l0 x7_2)] rfl (by (try simp only [List.map_toArray, List.map_cons, List.map_nil]); first | done | rfl | (simp only [List.length_drop, List.length_take]; rfl)) ?_; (with_reducible refine (function_Line.calls (rdOf ByteArray.empty l0 x7_2) true _ ?side1 A18.out).mono ?_); (case side1 => exact HE_.out.below (by repeat (first | (with_reducible first | exact HB.out | apply below_alloc | apply pw_below_drewN | apply below_drew1) | exact HB.out))); rintro e w20 ⟨rfl, hb⟩; refine ⟨_, rfl, ?_⟩; have n0_ := Aside0.mk (below_step (by repeat (first | (with_reducible first | exact HB.out | apply below_alloc | apply pw_below_drewN | apply below_drew1) | exact HB.out)) hb); clear HB; have HB := n0_; clear n0_; (try clear hb); (try clear hb2); (try clear hk); (try clear hi)))
                    go_roundg k2
                    case measure => have := HJ4.out; have := HK2.out; omega
                    case rel => exact ⟨(wrap64 (x7_2 + 1)), (by first | rfl | (simp; done) | (simp [*]; done)), H', ⟨by have := HJ4.out; have := HK2.out; omega⟩, ⟨by repeat (first | (with_reducible first | exact HB.out | apply below_alloc | apply pw_below_drewN | apply below_drew1) | exact HB.out)⟩⟩
                  · replace c19 := Bool.eq_false_iff.mpr c19
                    subst c19
                    have H1 : (if t507 = true then ((function_Right.f k2 l0).bind fun t520 => (some (!t520))) else (none)) = some r := by rw [if_neg (show ¬ (false = true) by decide)] at H; exact H
                    clear H
                    have H := H1
                    clear H1
                    by_cases c21 : t507 = true
                    · subst c21
                      have H1 : ((function_Right.f k2 l0).bind fun t520 => (some (!t520))) = some r := by rw [if_pos rfl] at H; exact H
                      clear H
                      have H := H1
                      clear H1
                      replace H := Option.bind_eq_some_iff.mp H
                      obtain ⟨t520, A220, H⟩ := H
                      replace H : (some (!t520)) = some r := H
                      have A22 := Aside0.mk A220
                      clear A220
                      obtain rfl := Option.some.inj H
                      have p518 : 0 ≤ (x7_2 : Int) := of_decide_eq_true (by first | (with_reducible assumption) | assumption)
                      have q518 : x7_2 < (l0.length : Int) := of_decide_eq_true (by first | (with_reducible assumption) | assumption)
                      obtain ⟨ad518, e518, hx518_0⟩ := Kd.at_string HR0.out x7_2 p518 q518
                      cases e518
                      replace hx518_0 := (HB.out.cell (World.block_lt_of_cell? w _ hx518_0)).trans hx518_0
                      replace p518 := eq_true p518
                      replace q518 := eq_true q518
                      go_wp2_with (first | ((with_reducible refine gate_callee (f := 21) rfl ?_); refine goesL_ (some 39) rfl rfl Tryd.func21 (by kernel_rfl) rfl #[.string (rdOf ByteArray.empty l0 x7_2)] rfl (by (try simp only [List.map_toArray, List.map_cons, List.map_nil]); first | done | rfl | (simp only [List.length_drop, List.length_take]; rfl)) ?_; (with_reducible refine (function_Line.calls (rdOf ByteArray.empty l0 x7_2) false _ ?side1 A18.out).mono ?_); (case side1 => exact HE_.out.below (by repeat (first | (with_reducible first | exact HB.out | apply below_alloc | apply pw_below_drewN | apply below_drew1) | exact HB.out))); rintro e w23 ⟨rfl, hb⟩; refine ⟨_, rfl, ?_⟩; have n0_ := Aside0.mk (below_step (by repeat (first | (with_reducible first | exact HB.out | apply below_alloc | apply pw_below_drewN | apply below_drew1) | exact HB.out)) hb); clear HB; have HB := n0_; clear n0_; (try clear hb); (try clear hb2); (try clear hk); (try clear hi)) | (go_at_call 26; (with_reducible refine (function_Right.calls k2 _ _ l0 t520 _ ?side1 ?side2 ?side3 A22.out).mono ?_); (case side1 => repeat (first | exact (Kd.C_below HR0.out HB.out) | (with_reducible refine Kd.C_alloc ?_ _) | (with_reducible refine Kd.C_drewN ?_ _) | (with_reducible refine Kd.C_drew ?_))); (case side2 => exact HC0.out); (case side3 => exact HE_.out.below (by repeat (first | (with_reducible first | exact HB.out | apply below_alloc | apply pw_below_drewN | apply below_drew1) | exact HB.out))); rintro e w24 ⟨rfl, hb⟩; have n0_ := Aside0.mk (below_step (by repeat (first | (with_reducible first | exact HB.out | apply below_alloc | apply pw_below_drewN | apply below_drew1) | exact HB.out)) hb); clear HB; have HB := n0_; clear n0_; (try clear hb); (try clear hb2); (try clear hk); (try clear hi)))
                      go_ret
                      exact ⟨by first | rfl | (simp [errW_none, errW_some] <;> rfl) | (simp [*, errW_none, errW_some] <;> rfl), by repeat (first | (with_reducible first | exact HB.out | apply below_alloc | apply pw_below_drewN | apply below_drew1) | exact HB.out)⟩
                    · replace c21 := Bool.eq_false_iff.mpr c21
                      subst c21
                      have H1 : (none) = some r := by rw [if_neg (show ¬ (false = true) by decide)] at H; exact H
                      clear H
                      have H := H1
                      clear H1
                      exact absurd H (by simp)
                · rw [if_neg c17] at H
                  exact absurd H (by simp)
              · rw [if_neg c16] at H
                have c16b0 : decide (x7_2 < (l0.length : Int)) = false := decide_eq_false c16
                clear c16
                by_cases c25 : t507 = true
                · subst c25
                  have H1 : ((function_Join.f l0).bind fun t513 => ((function_Split.f t513).bind fun t514 => ((deckleref16_Same.f k2 t514 l0).bind fun t517 => (some t517)))) = some r := by rw [if_pos rfl] at H; exact H
                  clear H
                  have H := H1
                  clear H1
                  replace H := Option.bind_eq_some_iff.mp H
                  obtain ⟨t513, A260, H⟩ := H
                  replace H : ((function_Split.f t513).bind fun t514 => ((deckleref16_Same.f k2 t514 l0).bind fun t517 => (some t517))) = some r := H
                  have A26 := Aside0.mk A260
                  clear A260
                  replace H := Option.bind_eq_some_iff.mp H
                  obtain ⟨t514, A270, H⟩ := H
                  replace H : ((deckleref16_Same.f k2 t514 l0).bind fun t517 => (some t517)) = some r := H
                  have A27 := Aside0.mk A270
                  clear A270
                  replace H := Option.bind_eq_some_iff.mp H
                  obtain ⟨t517, A280, H⟩ := H
                  replace H : (some t517) = some r := H
                  have A28 := Aside0.mk A280
                  clear A280
                  obtain rfl := Option.some.inj H
                  go_wp2_with (first | (go_at_call 30; (with_reducible refine (function_Join.calls _ _ l0 t513 _ ?side1 ?side2 A26.out).mono ?_); (case side1 => repeat (first | exact (Kd.C_below HR0.out HB.out) | (with_reducible refine Kd.C_alloc ?_ _) | (with_reducible refine Kd.C_drewN ?_ _) | (with_reducible refine Kd.C_drew ?_))); (case side2 => exact HC0.out); rintro e w29 ⟨rfl, hb⟩; have n0_ := Aside0.mk (below_step (by repeat (first | (with_reducible first | exact HB.out | apply below_alloc | apply pw_below_drewN | apply below_drew1) | exact HB.out)) hb); clear HB; have HB := n0_; clear n0_; (try clear hb); (try clear hb2); (try clear hk); (try clear hi)) | (go_at_call 32; (with_reducible refine (function_Split.calls t513 t514 _ ?side1 A27.out).mono ?_); (case side1 => exact HE_.out.below (by repeat (first | (with_reducible first | exact HB.out | apply below_alloc | apply pw_below_drewN | apply below_drew1) | exact HB.out))); rintro e w30 ⟨v515, rfl, ho0, hb⟩; have n0_ := Aside0.mk (Kd.R_lower ho0 (below_size (by repeat (first | (with_reducible first | exact HB.out | apply below_alloc | apply pw_below_drewN | apply below_drew1) | exact HB.out)))); have n1_ := Aside0.mk (below_step (by repeat (first | (with_reducible first | exact HB.out | apply below_alloc | apply pw_below_drewN | apply below_drew1) | exact HB.out)) hb); clear HB; have HO516 := n0_; have HB := n1_; clear n0_ n1_; (try clear hb); (try clear hb2); (try clear hk); (try clear hi); (try clear ho0); obtain ⟨Ao31, co31, eo31⟩ := Kd.R_slice HO516.out; subst eo31) | (go_at_call 23; (with_reducible refine (deckleref16_Same.calls k2 _ _ t514 _ _ l0 t517 _ ?side1 ?side2 ?side3 ?side4 A28.out).mono ?_); (case side1 => repeat (first | exact (Kd.R_reads' HO516.out).2.2 | (with_reducible refine Kd.C_alloc ?_ _) | (with_reducible refine Kd.C_drewN ?_ _) | (with_reducible refine Kd.C_drew ?_))); (case side2 => exact (Kd.R_reads' HO516.out).2.1); (case side3 => repeat (first | exact (Kd.C_below HR0.out HB.out) | (with_reducible refine Kd.C_alloc ?_ _) | (with_reducible refine Kd.C_drewN ?_ _) | (with_reducible refine Kd.C_drew ?_))); (case side4 => exact HC0.out); rintro e w' ⟨rfl, ⟨nd, rfl⟩⟩))
                  go_ret
                  exact ⟨by first | rfl | (simp [errW_none, errW_some] <;> rfl) | (simp [*, errW_none, errW_some] <;> rfl), by repeat (first | (with_reducible first | exact HB.out | apply below_alloc | apply pw_below_drewN | apply below_drew1) | exact HB.out)⟩
                · replace c25 := Bool.eq_false_iff.mpr c25
                  subst c25
                  have H1 : (none) = some r := by rw [if_neg (show ¬ (false = true) by decide)] at H; exact H
                  clear H
                  have H := H1
                  clear H1
                  exact absurd H (by simp)
        · rw [if_neg c12] at H
          exact absurd H (by simp)

end Go.Proofs.YtmddkjmcbddhiaaDoor.P
