-- written by wip/tools/print2.py (a program of this session over the kit's print); not trusted: Lean checks it
import Derived.Test.YtmddkjmcbddhiaaDoorP0
import Derived.Test.YtmddkjmcbddhiaaDoorP7
import Derived.Test.YtmddkjmcbddhiaaDoorGQText
namespace Go.Proofs.YtmddkjmcbddhiaaDoor.P
open Go.RowKit Go.Proofs.YtmddkjmcbddhiaaDoorW.PrintWords Go.Proofs.YtmddkjmcbddhiaaDoorW.PrintLast Go.Proofs.YtmddkjmcbddhiaaDoorW.PrintMore
attribute [local go_sem] max2_int min2_int max_two min_two max_three min_three max_four min_four   -- for this text's walks alone
set_option linter.unusedVariables false
set_option linter.unusedSimpArgs false

/-! ### decklelaw13_QuoteCounts: function 7 -/
mutual
def decklelaw13_QuoteCounts.l0 : Nat → List Int → Bool → ByteArray → Bool → Int → Int → Option (Bool)
  | 0, _, _, _, _, _, _ => none
  | k + 1, x0, x3, x4, x5, x6, x7 => if x7 < (x0.length : Int) then (if 0 ≤ x7 then (if (rd x0 x7) < 0 then (decklelaw13_QuoteCounts.j1 k x0 x3 x4 x5 x6 x7 true) else (if (rd x0 x7) > 1114111 then (decklelaw13_QuoteCounts.j1 k x0 x3 x4 x5 x6 x7 true) else (if (rd x0 x7) ≥ 55296 then (decklelaw13_QuoteCounts.j1 k x0 x3 x4 x5 x6 x7 (decide ((rd x0 x7) ≤ 57343))) else (decklelaw13_QuoteCounts.j1 k x0 x3 x4 x5 x6 x7 false)))) else (none)) else (if x3 = true then (if x5 = true then (some ((x4.size : Int) == x6)) else (none)) else (none))
def decklelaw13_QuoteCounts.j1 : Nat → List Int → Bool → ByteArray → Bool → Int → Int → Bool → Option (Bool)
  | 0, _, _, _, _, _, _, _ => none
  | k + 1, x0, x3, x4, x5, x6, x7, x26 => if x26 = true then (if x3 = true then (if x5 = true then (none) else (some (x4.toList == ([] : List UInt8)))) else (none)) else (if 0 ≤ x7 then (if x7 < (x0.length : Int) then (if (rd x0 x7) = 39 then (decklelaw13_QuoteCounts.l0 k x0 x3 x4 x5 (wrap64 (x6 + 2)) (wrap64 (x7 + 1))) else (if (rd x0 x7) < 128 then (decklelaw13_QuoteCounts.l0 k x0 x3 x4 x5 (wrap64 (x6 + 1)) (wrap64 (x7 + 1))) else (if (rd x0 x7) < 2048 then (decklelaw13_QuoteCounts.l0 k x0 x3 x4 x5 (wrap64 (x6 + 2)) (wrap64 (x7 + 1))) else (if (rd x0 x7) < 65536 then (decklelaw13_QuoteCounts.l0 k x0 x3 x4 x5 (wrap64 (x6 + 3)) (wrap64 (x7 + 1))) else (decklelaw13_QuoteCounts.l0 k x0 x3 x4 x5 (wrap64 (x6 + 4)) (wrap64 (x7 + 1))))))) else (none)) else (none))
end
def decklelaw13_QuoteCounts.f (k : Nat) (l0 : List Int) : Option (Bool) := (decklelaw13_small.f k).bind fun t276 => (if (l0.length : Int) > 100 then (some t276) else ((quote_Text.f l0).bind fun bt277 => (decklelaw13_QuoteCounts.l0 k l0 t276 bt277.1 bt277.2 2 0)))
theorem decklelaw13_QuoteCounts.mono_l : ∀ k, (∀ y0 y1 y2 y3 y4 y5, LeO (decklelaw13_QuoteCounts.l0 k y0 y1 y2 y3 y4 y5) (decklelaw13_QuoteCounts.l0 (k + 1) y0 y1 y2 y3 y4 y5)) ∧ (∀ y0 y1 y2 y3 y4 y5 y6, LeO (decklelaw13_QuoteCounts.j1 k y0 y1 y2 y3 y4 y5 y6) (decklelaw13_QuoteCounts.j1 (k + 1) y0 y1 y2 y3 y4 y5 y6))
  | 0 => ⟨fun _ _ _ _ _ _ r h => by simp [decklelaw13_QuoteCounts.l0] at h, fun _ _ _ _ _ _ _ r h => by simp [decklelaw13_QuoteCounts.j1] at h⟩
  | k + 1 => by
    obtain ⟨ih0, ih1⟩ := decklelaw13_QuoteCounts.mono_l k
    refine ⟨?_, ?_⟩
    · intro y0 y1 y2 y3 y4 y5
      unfold decklelaw13_QuoteCounts.l0
      repeat' first
      | (with_reducible exact ih0 _ _ _ _ _ _)
      | (with_reducible exact ih1 _ _ _ _ _ _ _)
      | (with_reducible exact decklelaw13_small.mono _)
      | (with_reducible exact LeO.refl _)
      | (with_reducible exact LeO.none _)
      | (with_reducible refine LeO.ite ?_ ?_)
      | (with_reducible refine LeO.bind ?_ (fun _ => ?_))
      | exact ih0 _ _ _ _ _ _
      | exact ih1 _ _ _ _ _ _ _
      | exact decklelaw13_small.mono _
      | exact LeO.none _
      | refine LeO.ite ?_ ?_
      | refine LeO.bind ?_ (fun _ => ?_)
    · intro y0 y1 y2 y3 y4 y5 y6
      unfold decklelaw13_QuoteCounts.j1
      repeat' first
      | (with_reducible exact ih0 _ _ _ _ _ _)
      | (with_reducible exact ih1 _ _ _ _ _ _ _)
      | (with_reducible exact decklelaw13_small.mono _)
      | (with_reducible exact LeO.refl _)
      | (with_reducible exact LeO.none _)
      | (with_reducible refine LeO.ite ?_ ?_)
      | (with_reducible refine LeO.bind ?_ (fun _ => ?_))
      | exact ih0 _ _ _ _ _ _
      | exact ih1 _ _ _ _ _ _ _
      | exact decklelaw13_small.mono _
      | exact LeO.none _
      | refine LeO.ite ?_ ?_
      | refine LeO.bind ?_ (fun _ => ?_)
theorem decklelaw13_QuoteCounts.mono : ∀ a0 k, LeO (decklelaw13_QuoteCounts.f k a0) (decklelaw13_QuoteCounts.f (k + 1) a0) := by
  intro a0 k
  obtain ⟨ih0, ih1⟩ := decklelaw13_QuoteCounts.mono_l k
  unfold decklelaw13_QuoteCounts.f
  repeat' first
      | (with_reducible exact ih0 _ _ _ _ _ _)
      | (with_reducible exact ih1 _ _ _ _ _ _ _)
      | (with_reducible exact decklelaw13_small.mono _)
      | (with_reducible exact LeO.refl _)
      | (with_reducible exact LeO.none _)
      | (with_reducible refine LeO.ite ?_ ?_)
      | (with_reducible refine LeO.bind ?_ (fun _ => ?_))
      | exact ih0 _ _ _ _ _ _
      | exact ih1 _ _ _ _ _ _ _
      | exact decklelaw13_small.mono _
      | exact LeO.none _
      | refine LeO.ite ?_ ?_
      | refine LeO.bind ?_ (fun _ => ?_)
set_option maxHeartbeats 8000000 in
set_option maxRecDepth 100000 in
theorem decklelaw13_QuoteCounts.calls (k : Nat) (A0 : Option Addr) (c0 : Nat) (l0 : List Int) (r : Bool) (w : World) (hr0 : Kd.C (Kd.int .i64) w A0 l0.length l0) (hc0 : l0.length ≤ c0) (hE_ : Env w) (h : decklelaw13_QuoteCounts.f k l0 = some r) :
    Calls Tryd.prog 7 #[.slice A0 l0.length c0] w fun e w' => e = .returned (.bool r) ∧ Below w.heap.size w w' := by
  have HR0 := Aside0.mk hr0
  have HC0 := Aside0.mk hc0
  clear hr0 hc0
  have HB := Aside0.mk (Below.refl w.heap.size w)
  have HE_ := Aside0.mk hE_
  clear hE_
  have H : ((decklelaw13_small.f k).bind fun t276 => (if (l0.length : Int) > 100 then (some t276) else ((quote_Text.f l0).bind fun bt277 => (decklelaw13_QuoteCounts.l0 k l0 t276 bt277.1 bt277.2 2 0)))) = some r := h
  clear h
  replace H := Option.bind_eq_some_iff.mp H
  obtain ⟨t276, A20, H⟩ := H
  replace H : (if (l0.length : Int) > 100 then (some t276) else ((quote_Text.f l0).bind fun bt277 => (decklelaw13_QuoteCounts.l0 k l0 t276 bt277.1 bt277.2 2 0))) = some r := H
  have A2 := Aside0.mk A20
  clear A20
  by_cases c3 : (l0.length : Int) > 100
  · rw [if_pos c3] at H
    have c3b0 : decide (100 < (l0.length : Int)) = true := decide_eq_true c3
    have c3b1 : decide (100 < l0.length) = true := decide_eq_true (by omega)
    clear c3
    obtain rfl := Option.some.inj H
    go_enter Tryd.func7, Tryd.ntmps7
    go_wp2_with (first | ((with_reducible refine gate_callee (f := 13) rfl ?_); refine goesL_ (some 8) rfl rfl Tryd.func13 (by kernel_rfl) rfl #[] rfl (by (try simp only [List.map_toArray, List.map_cons, List.map_nil]); first | done | rfl | (simp only [List.length_drop, List.length_take]; rfl)) ?_; (with_reducible refine (decklelaw13_small.calls k  t276 _ ?side1 A2.out).mono ?_); (case side1 => exact HE_.out.below (by repeat (first | (with_reducible first | exact HB.out | apply below_alloc | apply pw_below_drewN | apply below_drew1) | exact HB.out))); rintro e w4 ⟨rfl, hb⟩; refine ⟨_, rfl, ?_⟩; have n0_ := Aside0.mk (below_step (by repeat (first | (with_reducible first | exact HB.out | apply below_alloc | apply pw_below_drewN | apply below_drew1) | exact HB.out)) hb); clear HB; have HB := n0_; clear n0_; (try clear hb); (try clear hb2); (try clear hk); (try clear hi)))
    go_ret
    exact ⟨by first | rfl | (simp [errW_none, errW_some] <;> rfl) | (simp [*, errW_none, errW_some] <;> rfl), by repeat (first | (with_reducible first | exact HB.out | apply below_alloc | apply pw_below_drewN | apply below_drew1) | exact HB.out)⟩
  · rw [if_neg c3] at H
    have c3b0 : decide (100 < (l0.length : Int)) = false := decide_eq_false c3
    have c3b1 : decide (100 < l0.length) = false := decide_eq_false (by omega)
    clear c3
    replace H := Option.bind_eq_some_iff.mp H
    obtain ⟨⟨t277, t278⟩, A50, H⟩ := H
    replace H : (decklelaw13_QuoteCounts.l0 k l0 t276 t277 t278 2 0) = some r := H
    have A5 := Aside0.mk A50
    clear A50
    have H' := Aside0.mk H
    clear H
    go_enter Tryd.func7, Tryd.ntmps7
    go_wp2_with (first | ((with_reducible refine gate_callee (f := 13) rfl ?_); refine goesL_ (some 8) rfl rfl Tryd.func13 (by kernel_rfl) rfl #[] rfl (by (try simp only [List.map_toArray, List.map_cons, List.map_nil]); first | done | rfl | (simp only [List.length_drop, List.length_take]; rfl)) ?_; (with_reducible refine (decklelaw13_small.calls k  t276 _ ?side1 A2.out).mono ?_); (case side1 => exact HE_.out.below (by repeat (first | (with_reducible first | exact HB.out | apply below_alloc | apply pw_below_drewN | apply below_drew1) | exact HB.out))); rintro e w6 ⟨rfl, hb⟩; refine ⟨_, rfl, ?_⟩; have n0_ := Aside0.mk (below_step (by repeat (first | (with_reducible first | exact HB.out | apply below_alloc | apply pw_below_drewN | apply below_drew1) | exact HB.out)) hb); clear HB; have HB := n0_; clear n0_; (try clear hb); (try clear hb2); (try clear hk); (try clear hi)) | ((with_reducible refine gate_callee (f := 14) rfl ?_); refine goesL_ (some 15) rfl rfl Tryd.func14 (by kernel_rfl) rfl #[.slice A0 l0.length c0] rfl (by (try simp only [List.map_toArray, List.map_cons, List.map_nil]); first | done | rfl | (simp only [List.length_drop, List.length_take]; rfl)) ?_; (with_reducible refine (quote_Text.calls _ _ l0 t277 t278 _ ?side1 ?side2 A5.out).mono ?_); (case side1 => repeat (first | exact (Kd.C_below HR0.out HB.out) | (with_reducible refine Kd.C_alloc ?_ _) | (with_reducible refine Kd.C_drewN ?_ _) | (with_reducible refine Kd.C_drew ?_))); (case side2 => exact HC0.out); rintro e w7 ⟨rfl, hb⟩; refine ⟨_, rfl, ?_⟩; have n0_ := Aside0.mk (below_step (by repeat (first | (with_reducible first | exact HB.out | apply below_alloc | apply pw_below_drewN | apply below_drew1) | exact HB.out)) hb); clear HB; have HB := n0_; clear n0_; (try clear hb); (try clear hb2); (try clear hk); (try clear hi)))
    go_loopg [6, 7] k (fun kq v6 v7 w' => ∃ (x6_1 : Int) (x7_1 : Int), v6 = .int .i64 x6_1 ∧ v7 = .int .i64 x7_1 ∧ Aside0 (decklelaw13_QuoteCounts.l0 kq l0 t276 t277 t278 x6_1 x7_1 = some r) ∧ Aside0 (kq ≤ k) ∧ Aside0 (Below w.heap.size w w'))
    case atStart => exact ⟨(2), (0), (by first | rfl | (simp; done) | (simp [*]; done)), (by first | rfl | (simp; done) | (simp [*]; done)), H', ⟨Nat.le_refl _⟩, ⟨by repeat (first | (with_reducible first | exact HB.out | apply below_alloc | apply pw_below_drewN | apply below_drew1) | exact HB.out)⟩⟩
    case round =>
      clear H'
      try clear c1
      try clear p2
      try clear c3
      try clear c3b0
      try clear c3b1
      try clear c7
      obtain ⟨x6_1, x7_1, rfl, rfl, HA, HK1, HB⟩ := hrel
      cases gk with
      | zero => exact absurd HA.out (by simp [decklelaw13_QuoteCounts.l0])
      | succ k1 =>
        have H := HA.out
        clear HA
        simp only [decklelaw13_QuoteCounts.l0] at H
        by_cases c8 : x7_1 < (l0.length : Int)
        · rw [if_pos c8] at H
          have c8b0 : decide (x7_1 < (l0.length : Int)) = true := decide_eq_true c8
          clear c8
          have HC9 := Aside0.mk H
          clear H
          go_upto_region 10 with (fail)
          go_cut [26] (fun v26 wc => ∃ (kq : Nat) (x26_8 : Bool), v26 = .bool x26_8 ∧ Aside0 (decklelaw13_QuoteCounts.j1 kq l0 t276 t277 t278 x6_1 x7_1 x26_8 = some r) ∧ Aside0 (kq ≤ k1) ∧ Aside0 (Below w.heap.size w wc))
          case first =>
            have H := HC9.out
            clear HC9
            by_cases c10 : 0 ≤ x7_1
            · rw [if_pos c10] at H
              have c10b0 : decide (0 ≤ x7_1) = true := decide_eq_true c10
              clear c10
              (first | rw [c10b0] | (simp only [i64_w, i32_w]; rw [c10b0]) | skip)
              by_cases c11 : (rd l0 x7_1) < 0
              · rw [if_pos c11] at H
                have c11b0 : decide ((rd l0 x7_1) < 0) = true := decide_eq_true c11
                clear c11
                have H' := Aside0.mk H
                clear H
                have p279 : 0 ≤ (x7_1 : Int) := of_decide_eq_true (by first | (with_reducible assumption) | assumption)
                have q279 : x7_1 < (l0.length : Int) := of_decide_eq_true (by first | (with_reducible assumption) | assumption)
                obtain ⟨ad279, e279, hx279_0⟩ := Kd.at_int HR0.out x7_1 p279 q279
                cases e279
                replace hx279_0 := (HB.out.cell (World.block_lt_of_cell? w _ hx279_0)).trans hx279_0
                replace p279 := eq_true p279
                replace q279 := eq_true q279
                go_wp2
                go_meet
                case rel => exact ⟨_, (true), (by first | rfl | (simp; done) | (simp [*]; done)), H', ⟨by have := HK1.out; first | omega | exact Nat.le_refl _⟩, ⟨by repeat (first | (with_reducible first | exact HB.out | apply below_alloc | apply pw_below_drewN | apply below_drew1) | exact HB.out)⟩⟩
              · rw [if_neg c11] at H
                have c11b0 : decide ((rd l0 x7_1) < 0) = false := decide_eq_false c11
                clear c11
                by_cases c12 : (rd l0 x7_1) > 1114111
                · rw [if_pos c12] at H
                  have c12b0 : decide (1114111 < (rd l0 x7_1)) = true := decide_eq_true c12
                  clear c12
                  have H' := Aside0.mk H
                  clear H
                  have p279 : 0 ≤ (x7_1 : Int) := of_decide_eq_true (by first | (with_reducible assumption) | assumption)
                  have q279 : x7_1 < (l0.length : Int) := of_decide_eq_true (by first | (with_reducible assumption) | assumption)
                  obtain ⟨ad279, e279, hx279_0⟩ := Kd.at_int HR0.out x7_1 p279 q279
                  cases e279
                  replace hx279_0 := (HB.out.cell (World.block_lt_of_cell? w _ hx279_0)).trans hx279_0
                  replace p279 := eq_true p279
                  replace q279 := eq_true q279
                  have p280 : 0 ≤ (x7_1 : Int) := of_decide_eq_true (by first | (with_reducible assumption) | assumption)
                  have q280 : x7_1 < (l0.length : Int) := of_decide_eq_true (by first | (with_reducible assumption) | assumption)
                  obtain ⟨ad280, e280, hx280_0⟩ := Kd.at_int HR0.out x7_1 p280 q280
                  obtain rfl : ad279 = ad280 := (by injection e280)
                  replace hx280_0 := (HB.out.cell (World.block_lt_of_cell? w _ hx280_0)).trans hx280_0
                  replace p280 := eq_true p280
                  replace q280 := eq_true q280
                  go_wp2
                  go_meet
                  case rel => exact ⟨_, (true), (by first | rfl | (simp; done) | (simp [*]; done)), H', ⟨by have := HK1.out; first | omega | exact Nat.le_refl _⟩, ⟨by repeat (first | (with_reducible first | exact HB.out | apply below_alloc | apply pw_below_drewN | apply below_drew1) | exact HB.out)⟩⟩
                · rw [if_neg c12] at H
                  have c12b0 : decide (1114111 < (rd l0 x7_1)) = false := decide_eq_false c12
                  clear c12
                  by_cases c13 : (rd l0 x7_1) ≥ 55296
                  · rw [if_pos c13] at H
                    have c13b0 : decide (55296 ≤ (rd l0 x7_1)) = true := decide_eq_true c13
                    clear c13
                    have H' := Aside0.mk H
                    clear H
                    have p279 : 0 ≤ (x7_1 : Int) := of_decide_eq_true (by first | (with_reducible assumption) | assumption)
                    have q279 : x7_1 < (l0.length : Int) := of_decide_eq_true (by first | (with_reducible assumption) | assumption)
                    obtain ⟨ad279, e279, hx279_0⟩ := Kd.at_int HR0.out x7_1 p279 q279
                    cases e279
                    replace hx279_0 := (HB.out.cell (World.block_lt_of_cell? w _ hx279_0)).trans hx279_0
                    replace p279 := eq_true p279
                    replace q279 := eq_true q279
                    have p280 : 0 ≤ (x7_1 : Int) := of_decide_eq_true (by first | (with_reducible assumption) | assumption)
                    have q280 : x7_1 < (l0.length : Int) := of_decide_eq_true (by first | (with_reducible assumption) | assumption)
                    obtain ⟨ad280, e280, hx280_0⟩ := Kd.at_int HR0.out x7_1 p280 q280
                    obtain rfl : ad279 = ad280 := (by injection e280)
                    replace hx280_0 := (HB.out.cell (World.block_lt_of_cell? w _ hx280_0)).trans hx280_0
                    replace p280 := eq_true p280
                    replace q280 := eq_true q280
                    have p281 : 0 ≤ (x7_1 : Int) := of_decide_eq_true (by first | (with_reducible assumption) | assumption)
                    have q281 : x7_1 < (l0.length : Int) := of_decide_eq_true (by first | (with_reducible assumption) | assumption)
                    obtain ⟨ad281, e281, hx281_0⟩ := Kd.at_int HR0.out x7_1 p281 q281
                    obtain rfl : ad279 = ad281 := (by injection e281)
                    replace hx281_0 := (HB.out.cell (World.block_lt_of_cell? w _ hx281_0)).trans hx281_0
                    replace p281 := eq_true p281
                    replace q281 := eq_true q281
                    have p282 : 0 ≤ (x7_1 : Int) := of_decide_eq_true (by first | (with_reducible assumption) | assumption)
                    have q282 : x7_1 < (l0.length : Int) := of_decide_eq_true (by first | (with_reducible assumption) | assumption)
                    obtain ⟨ad282, e282, hx282_0⟩ := Kd.at_int HR0.out x7_1 p282 q282
                    obtain rfl : ad279 = ad282 := (by injection e282)
                    replace hx282_0 := (HB.out.cell (World.block_lt_of_cell? w _ hx282_0)).trans hx282_0
                    replace p282 := eq_true p282
                    replace q282 := eq_true q282
                    go_wp2
                    go_meet
                    case rel => exact ⟨_, (decide ((rd l0 x7_1) ≤ 57343)), (by first | rfl | (simp; done) | (simp [*]; done)), H', ⟨by have := HK1.out; first | omega | exact Nat.le_refl _⟩, ⟨by repeat (first | (with_reducible first | exact HB.out | apply below_alloc | apply pw_below_drewN | apply below_drew1) | exact HB.out)⟩⟩
                  · rw [if_neg c13] at H
                    have c13b0 : decide (55296 ≤ (rd l0 x7_1)) = false := decide_eq_false c13
                    clear c13
                    have H' := Aside0.mk H
                    clear H
                    have p279 : 0 ≤ (x7_1 : Int) := of_decide_eq_true (by first | (with_reducible assumption) | assumption)
                    have q279 : x7_1 < (l0.length : Int) := of_decide_eq_true (by first | (with_reducible assumption) | assumption)
                    obtain ⟨ad279, e279, hx279_0⟩ := Kd.at_int HR0.out x7_1 p279 q279
                    cases e279
                    replace hx279_0 := (HB.out.cell (World.block_lt_of_cell? w _ hx279_0)).trans hx279_0
                    replace p279 := eq_true p279
                    replace q279 := eq_true q279
                    have p280 : 0 ≤ (x7_1 : Int) := of_decide_eq_true (by first | (with_reducible assumption) | assumption)
                    have q280 : x7_1 < (l0.length : Int) := of_decide_eq_true (by first | (with_reducible assumption) | assumption)
                    obtain ⟨ad280, e280, hx280_0⟩ := Kd.at_int HR0.out x7_1 p280 q280
                    obtain rfl : ad279 = ad280 := (by injection e280)
                    replace hx280_0 := (HB.out.cell (World.block_lt_of_cell? w _ hx280_0)).trans hx280_0
                    replace p280 := eq_true p280
                    replace q280 := eq_true q280
                    have p281 : 0 ≤ (x7_1 : Int) := of_decide_eq_true (by first | (with_reducible assumption) | assumption)
                    have q281 : x7_1 < (l0.length : Int) := of_decide_eq_true (by first | (with_reducible assumption) | assumption)
                    obtain ⟨ad281, e281, hx281_0⟩ := Kd.at_int HR0.out x7_1 p281 q281
                    obtain rfl : ad279 = ad281 := (by injection e281)
                    replace hx281_0 := (HB.out.cell (World.block_lt_of_cell? w _ hx281_0)).trans hx281_0
                    replace p281 := eq_true p281
                    replace q281 := eq_true q281
                    go_wp2
                    go_meet
                    case rel => exact ⟨_, (false), (by first | rfl | (simp; done) | (simp [*]; done)), H', ⟨by have := HK1.out; first | omega | exact Nat.le_refl _⟩, ⟨by repeat (first | (with_reducible first | exact HB.out | apply below_alloc | apply pw_below_drewN | apply below_drew1) | exact HB.out)⟩⟩
            · rw [if_neg c10] at H
              exact absurd H (by simp)
          case rest =>
            clear HC9
            try clear c1
            try clear p2
            try clear q2
            try clear hx2
            try clear c3
            try clear c3b0
            try clear c3b1
            try clear c7
            try clear c8
            try clear c8b0
            try clear c10
            try clear c10b0
            try clear c11
            try clear c11b0
            try clear c12
            try clear c12b0
            try clear c13
            try clear c13b0
            try clear hx279_0
            try clear hx280_0
            try clear hx281_0
            try clear hx282_0
            try clear p2
            try clear p279
            try clear p280
            try clear p281
            try clear p282
            try clear q279
            try clear q280
            try clear q281
            try clear q282
            obtain ⟨kq, x26_8, rfl, HA, HJ8, HB⟩ := hcut
            cases kq with
            | zero => exact absurd HA.out (by simp [decklelaw13_QuoteCounts.j1])
            | succ kj8 =>
              have H := HA.out
              clear HA
              simp only [decklelaw13_QuoteCounts.j1] at H
              by_cases c14 : x26_8 = true
              · subst c14
                have H1 : (if t276 = true then (if t278 = true then (none) else (some (t277.toList == ([] : List UInt8)))) else (none)) = some r := by rw [if_pos rfl] at H; exact H
                clear H
                have H := H1
                clear H1
                by_cases c15 : t276 = true
                · subst c15
                  have H1 : (if t278 = true then (none) else (some (t277.toList == ([] : List UInt8)))) = some r := by rw [if_pos rfl] at H; exact H
                  clear H
                  have H := H1
                  clear H1
                  by_cases c16 : t278 = true
                  · subst c16
                    have H1 : (none) = some r := by rw [if_pos rfl] at H; exact H
                    clear H
                    have H := H1
                    clear H1
                    exact absurd H (by simp)
                  · replace c16 := Bool.eq_false_iff.mpr c16
                    subst c16
                    have H1 : (some (t277.toList == ([] : List UInt8))) = some r := by rw [if_neg (show ¬ (false = true) by decide)] at H; exact H
                    clear H
                    have H := H1
                    clear H1
                    obtain rfl := Option.some.inj H
                    go_wp2
                    go_ret
                    exact ⟨by first | rfl | (simp [errW_none, errW_some] <;> rfl) | (simp [*, errW_none, errW_some] <;> rfl), by repeat (first | (with_reducible first | exact HB.out | apply below_alloc | apply pw_below_drewN | apply below_drew1) | exact HB.out)⟩
                · replace c15 := Bool.eq_false_iff.mpr c15
                  subst c15
                  have H1 : (none) = some r := by rw [if_neg (show ¬ (false = true) by decide)] at H; exact H
                  clear H
                  have H := H1
                  clear H1
                  exact absurd H (by simp)
              · replace c14 := Bool.eq_false_iff.mpr c14
                subst c14
                have H1 : (if 0 ≤ x7_1 then (if x7_1 < (l0.length : Int) then (if (rd l0 x7_1) = 39 then (decklelaw13_QuoteCounts.l0 kj8 l0 t276 t277 t278 (wrap64 (x6_1 + 2)) (wrap64 (x7_1 + 1))) else (if (rd l0 x7_1) < 128 then (decklelaw13_QuoteCounts.l0 kj8 l0 t276 t277 t278 (wrap64 (x6_1 + 1)) (wrap64 (x7_1 + 1))) else (if (rd l0 x7_1) < 2048 then (decklelaw13_QuoteCounts.l0 kj8 l0 t276 t277 t278 (wrap64 (x6_1 + 2)) (wrap64 (x7_1 + 1))) else (if (rd l0 x7_1) < 65536 then (decklelaw13_QuoteCounts.l0 kj8 l0 t276 t277 t278 (wrap64 (x6_1 + 3)) (wrap64 (x7_1 + 1))) else (decklelaw13_QuoteCounts.l0 kj8 l0 t276 t277 t278 (wrap64 (x6_1 + 4)) (wrap64 (x7_1 + 1))))))) else (none)) else (none)) = some r := by rw [if_neg (show ¬ (false = true) by decide)] at H; exact H
                clear H
                have H := H1
                clear H1
                by_cases c17 : 0 ≤ x7_1
                · rw [if_pos c17] at H
                  have c17b0 : decide (0 ≤ x7_1) = true := decide_eq_true c17
                  clear c17
                  by_cases c18 : x7_1 < (l0.length : Int)
                  · rw [if_pos c18] at H
                    have c18b0 : decide (x7_1 < (l0.length : Int)) = true := decide_eq_true c18
                    clear c18
                    by_cases c19 : (rd l0 x7_1) = 39
                    · rw [if_pos c19] at H
                      have c19b0 : ((rd l0 x7_1) == 39) = true := beq_iff_eq.mpr c19
                      have c19b1 : ((rd l0 x7_1) != 39) = false := bne_eq_false_iff_eq.mpr c19
                      clear c19
                      have H' := Aside0.mk H
                      clear H
                      have p283 : 0 ≤ (x7_1 : Int) := of_decide_eq_true (by first | (with_reducible assumption) | assumption)
                      have q283 : x7_1 < (l0.length : Int) := of_decide_eq_true (by first | (with_reducible assumption) | assumption)
                      obtain ⟨ad283, e283, hx283_0⟩ := Kd.at_int HR0.out x7_1 p283 q283
                      cases e283
                      replace hx283_0 := (HB.out.cell (World.block_lt_of_cell? w _ hx283_0)).trans hx283_0
                      replace p283 := eq_true p283
                      replace q283 := eq_true q283
                      go_wp2
                      go_roundg kj8
                      case measure => have := HK1.out; have := HJ8.out; omega
                      case rel => exact ⟨(wrap64 (x6_1 + 2)), (wrap64 (x7_1 + 1)), (by first | rfl | (simp; done) | (simp [*]; done)), (by first | rfl | (simp; done) | (simp [*]; done)), H', ⟨by have := HK1.out; have := HJ8.out; omega⟩, ⟨by repeat (first | (with_reducible first | exact HB.out | apply below_alloc | apply pw_below_drewN | apply below_drew1) | exact HB.out)⟩⟩
                    · rw [if_neg c19] at H
                      have c19b0 : ((rd l0 x7_1) == 39) = false := beq_eq_false_iff_ne.mpr c19
                      have c19b1 : ((rd l0 x7_1) != 39) = true := bne_iff_ne.mpr c19
                      by_cases c20 : (rd l0 x7_1) < 128
                      · rw [if_pos c20] at H
                        have c20b0 : decide ((rd l0 x7_1) < 128) = true := decide_eq_true c20
                        clear c20
                        have H' := Aside0.mk H
                        clear H
                        have p283 : 0 ≤ (x7_1 : Int) := of_decide_eq_true (by first | (with_reducible assumption) | assumption)
                        have q283 : x7_1 < (l0.length : Int) := of_decide_eq_true (by first | (with_reducible assumption) | assumption)
                        obtain ⟨ad283, e283, hx283_0⟩ := Kd.at_int HR0.out x7_1 p283 q283
                        cases e283
                        replace hx283_0 := (HB.out.cell (World.block_lt_of_cell? w _ hx283_0)).trans hx283_0
                        replace p283 := eq_true p283
                        replace q283 := eq_true q283
                        have p284 : 0 ≤ (x7_1 : Int) := of_decide_eq_true (by first | (with_reducible assumption) | assumption)
                        have q284 : x7_1 < (l0.length : Int) := of_decide_eq_true (by first | (with_reducible assumption) | assumption)
                        obtain ⟨ad284, e284, hx284_0⟩ := Kd.at_int HR0.out x7_1 p284 q284
                        obtain rfl : ad283 = ad284 := (by injection e284)
                        replace hx284_0 := (HB.out.cell (World.block_lt_of_cell? w _ hx284_0)).trans hx284_0
                        replace p284 := eq_true p284
                        replace q284 := eq_true q284
                        go_wp2
                        go_roundg kj8
                        case measure => have := HK1.out; have := HJ8.out; omega
                        case rel => exact ⟨(wrap64 (x6_1 + 1)), (wrap64 (x7_1 + 1)), (by first | rfl | (simp; done) | (simp [*]; done)), (by first | rfl | (simp; done) | (simp [*]; done)), H', ⟨by have := HK1.out; have := HJ8.out; omega⟩, ⟨by repeat (first | (with_reducible first | exact HB.out | apply below_alloc | apply pw_below_drewN | apply below_drew1) | exact HB.out)⟩⟩
                      · rw [if_neg c20] at H
                        have c20b0 : decide ((rd l0 x7_1) < 128) = false := decide_eq_false c20
                        clear c20
                        by_cases c21 : (rd l0 x7_1) < 2048
                        · rw [if_pos c21] at H
                          have c21b0 : decide ((rd l0 x7_1) < 2048) = true := decide_eq_true c21
                          clear c21
                          have H' := Aside0.mk H
                          clear H
                          have p283 : 0 ≤ (x7_1 : Int) := of_decide_eq_true (by first | (with_reducible assumption) | assumption)
                          have q283 : x7_1 < (l0.length : Int) := of_decide_eq_true (by first | (with_reducible assumption) | assumption)
                          obtain ⟨ad283, e283, hx283_0⟩ := Kd.at_int HR0.out x7_1 p283 q283
                          cases e283
                          replace hx283_0 := (HB.out.cell (World.block_lt_of_cell? w _ hx283_0)).trans hx283_0
                          replace p283 := eq_true p283
                          replace q283 := eq_true q283
                          have p284 : 0 ≤ (x7_1 : Int) := of_decide_eq_true (by first | (with_reducible assumption) | assumption)
                          have q284 : x7_1 < (l0.length : Int) := of_decide_eq_true (by first | (with_reducible assumption) | assumption)
                          obtain ⟨ad284, e284, hx284_0⟩ := Kd.at_int HR0.out x7_1 p284 q284
                          obtain rfl : ad283 = ad284 := (by injection e284)
                          replace hx284_0 := (HB.out.cell (World.block_lt_of_cell? w _ hx284_0)).trans hx284_0
                          replace p284 := eq_true p284
                          replace q284 := eq_true q284
                          have p285 : 0 ≤ (x7_1 : Int) := of_decide_eq_true (by first | (with_reducible assumption) | assumption)
                          have q285 : x7_1 < (l0.length : Int) := of_decide_eq_true (by first | (with_reducible assumption) | assumption)
                          obtain ⟨ad285, e285, hx285_0⟩ := Kd.at_int HR0.out x7_1 p285 q285
                          obtain rfl : ad283 = ad285 := (by injection e285)
                          replace hx285_0 := (HB.out.cell (World.block_lt_of_cell? w _ hx285_0)).trans hx285_0
                          replace p285 := eq_true p285
                          replace q285 := eq_true q285
                          go_wp2
                          go_roundg kj8
                          case measure => have := HK1.out; have := HJ8.out; omega
                          case rel => exact ⟨(wrap64 (x6_1 + 2)), (wrap64 (x7_1 + 1)), (by first | rfl | (simp; done) | (simp [*]; done)), (by first | rfl | (simp; done) | (simp [*]; done)), H', ⟨by have := HK1.out; have := HJ8.out; omega⟩, ⟨by repeat (first | (with_reducible first | exact HB.out | apply below_alloc | apply pw_below_drewN | apply below_drew1) | exact HB.out)⟩⟩
                        · rw [if_neg c21] at H
                          have c21b0 : decide ((rd l0 x7_1) < 2048) = false := decide_eq_false c21
                          clear c21
                          by_cases c22 : (rd l0 x7_1) < 65536
                          · rw [if_pos c22] at H
                            have c22b0 : decide ((rd l0 x7_1) < 65536) = true := decide_eq_true c22
                            clear c22
                            have H' := Aside0.mk H
                            clear H
                            have p283 : 0 ≤ (x7_1 : Int) := of_decide_eq_true (by first | (with_reducible assumption) | assumption)
                            have q283 : x7_1 < (l0.length : Int) := of_decide_eq_true (by first | (with_reducible assumption) | assumption)
                            obtain ⟨ad283, e283, hx283_0⟩ := Kd.at_int HR0.out x7_1 p283 q283
                            cases e283
                            replace hx283_0 := (HB.out.cell (World.block_lt_of_cell? w _ hx283_0)).trans hx283_0
                            replace p283 := eq_true p283
                            replace q283 := eq_true q283
                            have p284 : 0 ≤ (x7_1 : Int) := of_decide_eq_true (by first | (with_reducible assumption) | assumption)
                            have q284 : x7_1 < (l0.length : Int) := of_decide_eq_true (by first | (with_reducible assumption) | assumption)
                            obtain ⟨ad284, e284, hx284_0⟩ := Kd.at_int HR0.out x7_1 p284 q284
                            obtain rfl : ad283 = ad284 := (by injection e284)
                            replace hx284_0 := (HB.out.cell (World.block_lt_of_cell? w _ hx284_0)).trans hx284_0
                            replace p284 := eq_true p284
                            replace q284 := eq_true q284
                            have p285 : 0 ≤ (x7_1 : Int) := of_decide_eq_true (by first | (with_reducible assumption) | assumption)
                            have q285 : x7_1 < (l0.length : Int) := of_decide_eq_true (by first | (with_reducible assumption) | assumption)
                            obtain ⟨ad285, e285, hx285_0⟩ := Kd.at_int HR0.out x7_1 p285 q285
                            obtain rfl : ad283 = ad285 := (by injection e285)
                            replace hx285_0 := (HB.out.cell (World.block_lt_of_cell? w _ hx285_0)).trans hx285_0
                            replace p285 := eq_true p285
                            replace q285 := eq_true q285
                            have p286 : 0 ≤ (x7_1 : Int) := of_decide_eq_true (by first | (with_reducible assumption) | assumption)
                            have q286 : x7_1 < (l0.length : Int) := of_decide_eq_true (by first | (with_reducible assumption) | assumption)
                            obtain ⟨ad286, e286, hx286_0⟩ := Kd.at_int HR0.out x7_1 p286 q286
                            obtain rfl : ad283 = ad286 := (by injection e286)
                            replace hx286_0 := (HB.out.cell (World.block_lt_of_cell? w _ hx286_0)).trans hx286_0
                            replace p286 := eq_true p286
                            replace q286 := eq_true q286
                            go_wp2
                            go_roundg kj8
                            case measure => have := HK1.out; have := HJ8.out; omega
                            case rel => exact ⟨(wrap64 (x6_1 + 3)), (wrap64 (x7_1 + 1)), (by first | rfl | (simp; done) | (simp [*]; done)), (by first | rfl | (simp; done) | (simp [*]; done)), H', ⟨by have := HK1.out; have := HJ8.out; omega⟩, ⟨by repeat (first | (with_reducible first | exact HB.out | apply below_alloc | apply pw_below_drewN | apply below_drew1) | exact HB.out)⟩⟩
                          · rw [if_neg c22] at H
                            have c22b0 : decide ((rd l0 x7_1) < 65536) = false := decide_eq_false c22
                            clear c22
                            have H' := Aside0.mk H
                            clear H
                            have p283 : 0 ≤ (x7_1 : Int) := of_decide_eq_true (by first | (with_reducible assumption) | assumption)
                            have q283 : x7_1 < (l0.length : Int) := of_decide_eq_true (by first | (with_reducible assumption) | assumption)
                            obtain ⟨ad283, e283, hx283_0⟩ := Kd.at_int HR0.out x7_1 p283 q283
                            cases e283
                            replace hx283_0 := (HB.out.cell (World.block_lt_of_cell? w _ hx283_0)).trans hx283_0
                            replace p283 := eq_true p283
                            replace q283 := eq_true q283
                            have p284 : 0 ≤ (x7_1 : Int) := of_decide_eq_true (by first | (with_reducible assumption) | assumption)
                            have q284 : x7_1 < (l0.length : Int) := of_decide_eq_true (by first | (with_reducible assumption) | assumption)
                            obtain ⟨ad284, e284, hx284_0⟩ := Kd.at_int HR0.out x7_1 p284 q284
                            obtain rfl : ad283 = ad284 := (by injection e284)
                            replace hx284_0 := (HB.out.cell (World.block_lt_of_cell? w _ hx284_0)).trans hx284_0
                            replace p284 := eq_true p284
                            replace q284 := eq_true q284
                            have p285 : 0 ≤ (x7_1 : Int) := of_decide_eq_true (by first | (with_reducible assumption) | assumption)
                            have q285 : x7_1 < (l0.length : Int) := of_decide_eq_true (by first | (with_reducible assumption) | assumption)
                            obtain ⟨ad285, e285, hx285_0⟩ := Kd.at_int HR0.out x7_1 p285 q285
                            obtain rfl : ad283 = ad285 := (by injection e285)
                            replace hx285_0 := (HB.out.cell (World.block_lt_of_cell? w _ hx285_0)).trans hx285_0
                            replace p285 := eq_true p285
                            replace q285 := eq_true q285
                            have p286 : 0 ≤ (x7_1 : Int) := of_decide_eq_true (by first | (with_reducible assumption) | assumption)
                            have q286 : x7_1 < (l0.length : Int) := of_decide_eq_true (by first | (with_reducible assumption) | assumption)
                            obtain ⟨ad286, e286, hx286_0⟩ := Kd.at_int HR0.out x7_1 p286 q286
                            obtain rfl : ad283 = ad286 := (by injection e286)
                            replace hx286_0 := (HB.out.cell (World.block_lt_of_cell? w _ hx286_0)).trans hx286_0
                            replace p286 := eq_true p286
                            replace q286 := eq_true q286
                            go_wp2
                            go_roundg kj8
                            case measure => have := HK1.out; have := HJ8.out; omega
                            case rel => exact ⟨(wrap64 (x6_1 + 4)), (wrap64 (x7_1 + 1)), (by first | rfl | (simp; done) | (simp [*]; done)), (by first | rfl | (simp; done) | (simp [*]; done)), H', ⟨by have := HK1.out; have := HJ8.out; omega⟩, ⟨by repeat (first | (with_reducible first | exact HB.out | apply below_alloc | apply pw_below_drewN | apply below_drew1) | exact HB.out)⟩⟩
                  · rw [if_neg c18] at H
                    exact absurd H (by simp)
                · rw [if_neg c17] at H
                  exact absurd H (by simp)
        · rw [if_neg c8] at H
          have c8b0 : decide (x7_1 < (l0.length : Int)) = false := decide_eq_false c8
          clear c8
          by_cases c23 : t276 = true
          · subst c23
            have H1 : (if t278 = true then (some ((t277.size : Int) == x6_1)) else (none)) = some r := by rw [if_pos rfl] at H; exact H
            clear H
            have H := H1
            clear H1
            by_cases c24 : t278 = true
            · subst c24
              have H1 : (some ((t277.size : Int) == x6_1)) = some r := by rw [if_pos rfl] at H; exact H
              clear H
              have H := H1
              clear H1
              obtain rfl := Option.some.inj H
              go_wp2
              go_ret
              exact ⟨by first | rfl | (simp [errW_none, errW_some] <;> rfl) | (simp [*, errW_none, errW_some] <;> rfl), by repeat (first | (with_reducible first | exact HB.out | apply below_alloc | apply pw_below_drewN | apply below_drew1) | exact HB.out)⟩
            · replace c24 := Bool.eq_false_iff.mpr c24
              subst c24
              have H1 : (none) = some r := by rw [if_neg (show ¬ (false = true) by decide)] at H; exact H
              clear H
              have H := H1
              clear H1
              exact absurd H (by simp)
          · replace c23 := Bool.eq_false_iff.mpr c23
            subst c23
            have H1 : (none) = some r := by rw [if_neg (show ¬ (false = true) by decide)] at H; exact H
            clear H
            have H := H1
            clear H1
            exact absurd H (by simp)

end Go.Proofs.YtmddkjmcbddhiaaDoor.P
