/-
  P45
-/
import Derived.Test.YtmddkjmcbddhiaaDoorP0M
-- written by wip/tools/print2.py (a program of this session over the kit's print); not trusted: Lean checks it
namespace Go.Proofs.YtmddkjmcbddhiaaDoor.P
open Go.RowKit Go.Proofs.YtmddkjmcbddhiaaDoorW.PrintWords Go.Proofs.YtmddkjmcbddhiaaDoorW.PrintLast Go.Proofs.YtmddkjmcbddhiaaDoorW.PrintMore
attribute [local go_sem] max2_int min2_int max_two min_two max_three min_three max_four min_four   -- for this text's walks alone
set_option linter.unusedVariables false
set_option linter.unusedSimpArgs false

/-! ### decklelaw15_Few: function 37 -/
mutual
def decklelaw15_Few.l0 : Nat → Int → ByteArray → ByteArray → ByteArray → ByteArray → ByteArray → ByteArray → List ByteArray → Option (Bool)
  | 0, _, _, _, _, _, _, _, _ => none
  | k + 1, x3, x581000, x581001, x581002, x581003, x581004, x581005, x581006 => if x3 < (x581006.length : Int) then (decklelaw15_Few.j1 k x3 (decide (x3 < 50)) x581000 x581001 x581002 x581003 x581004 x581005 x581006) else (decklelaw15_Few.j1 k x3 false x581000 x581001 x581002 x581003 x581004 x581005 x581006)
def decklelaw15_Few.j1 : Nat → Int → Bool → ByteArray → ByteArray → ByteArray → ByteArray → ByteArray → ByteArray → List ByteArray → Option (Bool)
  | 0, _, _, _, _, _, _, _, _, _ => none
  | k + 1, x3, x12, x581000, x581001, x581002, x581003, x581004, x581005, x581006 => if x12 = true then (if 0 ≤ x3 then (if x3 < (x581006.length : Int) then (if ((rdOf ByteArray.empty x581006 x3).size : Int) > 100 then (some false) else (decklelaw15_Few.l0 k (wrap64 (x3 + 1)) x581000 x581001 x581002 x581003 x581004 x581005 x581006)) else (none)) else (none)) else (if (x581006.length : Int) ≤ 30 then (if (x581000.size : Int) ≤ 100 then (if (x581001.size : Int) ≤ 100 then (if (x581002.size : Int) ≤ 100 then (if (x581003.size : Int) ≤ 100 then (if (x581004.size : Int) ≤ 100 then (some (decide ((x581005.size : Int) ≤ 100))) else (some false)) else (some false)) else (some false)) else (some false)) else (some false)) else (some false))
end
def decklelaw15_Few.f (k : Nat) (a0_0 : ByteArray) (a0_1 : ByteArray) (a0_2 : ByteArray) (a0_3 : ByteArray) (a0_4 : ByteArray) (a0_5 : ByteArray) (l0_6 : List ByteArray) : Option (Bool) := decklelaw15_Few.l0 k 0 a0_0 a0_1 a0_2 a0_3 a0_4 a0_5 l0_6
theorem decklelaw15_Few.mono_l : ∀ k, (∀ y0 y1 y2 y3 y4 y5 y6 y7, LeO (decklelaw15_Few.l0 k y0 y1 y2 y3 y4 y5 y6 y7) (decklelaw15_Few.l0 (k + 1) y0 y1 y2 y3 y4 y5 y6 y7)) ∧ (∀ y0 y1 y2 y3 y4 y5 y6 y7 y8, LeO (decklelaw15_Few.j1 k y0 y1 y2 y3 y4 y5 y6 y7 y8) (decklelaw15_Few.j1 (k + 1) y0 y1 y2 y3 y4 y5 y6 y7 y8))
  | 0 => ⟨fun _ _ _ _ _ _ _ _ r h => by simp [decklelaw15_Few.l0] at h, fun _ _ _ _ _ _ _ _ _ r h => by simp [decklelaw15_Few.j1] at h⟩
  | k + 1 => by
    obtain ⟨ih0, ih1⟩ := decklelaw15_Few.mono_l k
    refine ⟨?_, ?_⟩
    · intro y0 y1 y2 y3 y4 y5 y6 y7
      unfold decklelaw15_Few.l0
      repeat' first
      | (with_reducible exact ih0 _ _ _ _ _ _ _ _)
      | (with_reducible exact ih1 _ _ _ _ _ _ _ _ _)
      | (with_reducible exact LeO.refl _)
      | (with_reducible exact LeO.none _)
      | (with_reducible refine LeO.ite ?_ ?_)
      | (with_reducible refine LeO.bind ?_ (fun _ => ?_))
      | exact ih0 _ _ _ _ _ _ _ _
      | exact ih1 _ _ _ _ _ _ _ _ _
      | exact LeO.none _
      | refine LeO.ite ?_ ?_
      | refine LeO.bind ?_ (fun _ => ?_)
    · intro y0 y1 y2 y3 y4 y5 y6 y7 y8
      unfold decklelaw15_Few.j1
      repeat' first
      | (with_reducible exact ih0 _ _ _ _ _ _ _ _)
      | (with_reducible exact ih1 _ _ _ _ _ _ _ _ _)
      | (with_reducible exact LeO.refl _)
      | (with_reducible exact LeO.none _)
      | (with_reducible refine LeO.ite ?_ ?_)
      | (with_reducible refine LeO.bind ?_ (fun _ => ?_))
      | exact ih0 _ _ _ _ _ _ _ _
      | exact ih1 _ _ _ _ _ _ _ _ _
      | exact LeO.none _
      | refine LeO.ite ?_ ?_
      | refine LeO.bind ?_ (fun _ => ?_)
theorem decklelaw15_Few.mono : ∀ a0 a1 a2 a3 a4 a5 a6 k, LeO (decklelaw15_Few.f k a0 a1 a2 a3 a4 a5 a6) (decklelaw15_Few.f (k + 1) a0 a1 a2 a3 a4 a5 a6) := by
  intro a0 a1 a2 a3 a4 a5 a6 k
  obtain ⟨ih0, ih1⟩ := decklelaw15_Few.mono_l k
  unfold decklelaw15_Few.f
  repeat' first
      | (with_reducible exact ih0 _ _ _ _ _ _ _ _)
      | (with_reducible exact ih1 _ _ _ _ _ _ _ _ _)
      | (with_reducible exact LeO.refl _)
      | (with_reducible exact LeO.none _)
      | (with_reducible refine LeO.ite ?_ ?_)
      | (with_reducible refine LeO.bind ?_ (fun _ => ?_))
      | exact ih0 _ _ _ _ _ _ _ _
      | exact ih1 _ _ _ _ _ _ _ _ _
      | exact LeO.none _
      | refine LeO.ite ?_ ?_
      | refine LeO.bind ?_ (fun _ => ?_)
set_option maxHeartbeats 8000000 in
set_option maxRecDepth 100000 in
theorem decklelaw15_Few.calls (k : Nat) (a0_0 : ByteArray) (a0_1 : ByteArray) (a0_2 : ByteArray) (a0_3 : ByteArray) (a0_4 : ByteArray) (a0_5 : ByteArray) (A0_6 : Option Addr) (c0_6 : Nat) (l0_6 : List ByteArray) (r : Bool) (w : World) (hr0_6 : Kd.C Kd.string w A0_6 l0_6.length l0_6) (hc0_6 : l0_6.length ≤ c0_6) (h : decklelaw15_Few.f k a0_0 a0_1 a0_2 a0_3 a0_4 a0_5 l0_6 = some r) :
    Calls Tryd.prog 37 #[.agg #[.string a0_0, .string a0_1, .string a0_2, .string a0_3, .string a0_4, .string a0_5, .slice A0_6 l0_6.length c0_6]] w fun e w' => e = .returned (.bool r) ∧ Below w.heap.size w w' := by
  have hu42 := Tryd.underlying42
  have HR0_6 := Aside0.mk hr0_6
  have HC0_6 := Aside0.mk hc0_6
  clear hr0_6 hc0_6
  have HB := Aside0.mk (Below.refl w.heap.size w)
  have H : (decklelaw15_Few.l0 k 0 a0_0 a0_1 a0_2 a0_3 a0_4 a0_5 l0_6) = some r := h
  clear h
  have H' := Aside0.mk H
  clear H
  go_enter Tryd.func37, Tryd.ntmps37
  go_wp2_with (first | ((with_reducible refine gate_dst (N := 1) rfl ?_); (try (refine gate_guard (by rfl) ?_; dsimp only)); refine box_event ?hg (N := 1) ?hd (cs := #[.string a0_0, .string a0_1, .string a0_2, .string a0_3, .string a0_4, .string a0_5, .slice A0_6 l0_6.length c0_6]) (t := 42) ?hr ?_; (case hd => rfl); (case hg => rfl); (case hr => first | (go_simp; done) | (go_simp; rfl)); intro gb580 hg w2 hbox hb; have n0_ := Aside0.mk (below_step (by repeat (first | (with_reducible first | exact HB.out | apply below_alloc | apply pw_below_drewN | apply below_drew1) | exact HB.out)) hb); have n1_ := Aside0.mk (hbox); have n2_ := Aside0.mk ((by rw [hg]; exact (below_size (by repeat (first | (with_reducible first | exact HB.out | apply below_alloc | apply pw_below_drewN | apply below_drew1) | exact HB.out))) : w.heap.size ≤ gb580)); have n3_ := Aside0.mk ((by rw [hg]; exact (below_size (by repeat (first | (with_reducible first | exact HB.out | apply below_alloc | apply pw_below_drewN | apply below_drew1) | exact HB.out))) : w.heap.size ≤ gb580)); clear HB; have HB := n0_; have BK580 := n1_; have GW580 := n2_; have GE580 := n3_; clear n0_ n1_ n2_ n3_; clear hb hbox hg))
  go_loopg [3] k (fun kq v3 w' => ∃ (x3_1 : Int), v3 = .int .i64 x3_1 ∧ Aside0 (decklelaw15_Few.l0 kq x3_1 a0_0 a0_1 a0_2 a0_3 a0_4 a0_5 l0_6 = some r) ∧ Aside0 (kq ≤ k) ∧ Aside0 (w'.heap[gb580]? = some (.cells #[.string a0_0, .string a0_1, .string a0_2, .string a0_3, .string a0_4, .string a0_5, (.slice A0_6 l0_6.length c0_6)] 42 (0, 0))) ∧ Aside0 (Below w.heap.size w w'))
  case atStart => exact ⟨(0), (by first | rfl | (simp; done) | (simp [*]; done)), H', ⟨Nat.le_refl _⟩, ⟨by (with_reducible repeat (first | refine blk_drewN ?_ _ | refine blk_drew ?_ | refine blk_alloc ?_ _)); exact BK580.out⟩, ⟨by repeat (first | (with_reducible first | exact HB.out | apply below_alloc | apply pw_below_drewN | apply below_drew1 | refine below_set ?_ GE580.out) | exact HB.out)⟩⟩
  case round =>
    clear H'
    try clear p2
    obtain ⟨x3_1, rfl, HA, HK1, BK580, HB⟩ := hrel
    cases gk with
    | zero => exact absurd HA.out (by simp [decklelaw15_Few.l0])
    | succ k1 =>
      have H := HA.out
      clear HA
      simp only [decklelaw15_Few.l0] at H
      have HC3 := Aside0.mk H
      clear H
      go_upto_region 2 with (fail)
      go_cut [12] (fun v12 wc => ∃ (kq : Nat) (x12_2 : Bool), v12 = .bool x12_2 ∧ Aside0 (decklelaw15_Few.j1 kq x3_1 x12_2 a0_0 a0_1 a0_2 a0_3 a0_4 a0_5 l0_6 = some r) ∧ Aside0 (kq ≤ k1) ∧ Aside0 (wc.heap[gb580]? = some (.cells #[.string a0_0, .string a0_1, .string a0_2, .string a0_3, .string a0_4, .string a0_5, (.slice A0_6 l0_6.length c0_6)] 42 (0, 0))) ∧ Aside0 (Below w.heap.size w wc))
      case first =>
        have H := HC3.out
        clear HC3
        by_cases c4 : x3_1 < (l0_6.length : Int)
        · rw [if_pos c4] at H
          have c4b0 : decide (x3_1 < (l0_6.length : Int)) = true := decide_eq_true c4
          clear c4
          (first | rw [c4b0] | (simp only [i64_w, i32_w]; rw [c4b0]) | skip)
          have H' := Aside0.mk H
          clear H
          have hcz5_0 : wr.cell? ⟨gb580, 0, none⟩ = some (.string a0_0) := (blk_cell BK580.out 0).trans rfl
          have hcz5_1 : wr.cell? ⟨gb580, 1, none⟩ = some (.string a0_1) := (blk_cell BK580.out 1).trans rfl
          have hcz5_2 : wr.cell? ⟨gb580, 2, none⟩ = some (.string a0_2) := (blk_cell BK580.out 2).trans rfl
          have hcz5_3 : wr.cell? ⟨gb580, 3, none⟩ = some (.string a0_3) := (blk_cell BK580.out 3).trans rfl
          have hcz5_4 : wr.cell? ⟨gb580, 4, none⟩ = some (.string a0_4) := (blk_cell BK580.out 4).trans rfl
          have hcz5_5 : wr.cell? ⟨gb580, 5, none⟩ = some (.string a0_5) := (blk_cell BK580.out 5).trans rfl
          have hcz5_6 : wr.cell? ⟨gb580, 6, none⟩ = some (.slice A0_6 l0_6.length c0_6) := (blk_cell BK580.out 6).trans rfl
          have hfz5_0 := blk_frozen BK580.out 0
          have hfz5_1 := blk_frozen BK580.out 1
          have hfz5_2 := blk_frozen BK580.out 2
          have hfz5_3 := blk_frozen BK580.out 3
          have hfz5_4 := blk_frozen BK580.out 4
          have hfz5_5 := blk_frozen BK580.out 5
          have hfz5_6 := blk_frozen BK580.out 6
          go_wp2
          go_meet
          case rel => exact ⟨_, (decide (x3_1 < 50)), (by first | rfl | (simp; done) | (simp [*]; done)), H', ⟨by have := HK1.out; first | omega | exact Nat.le_refl _⟩, ⟨by (with_reducible repeat (first | refine blk_drewN ?_ _ | refine blk_drew ?_ | refine blk_alloc ?_ _)); exact BK580.out⟩, ⟨by repeat (first | (with_reducible first | exact HB.out | apply below_alloc | apply pw_below_drewN | apply below_drew1 | refine below_set ?_ GE580.out) | exact HB.out)⟩⟩
        · rw [if_neg c4] at H
          have c4b0 : decide (x3_1 < (l0_6.length : Int)) = false := decide_eq_false c4
          clear c4
          (first | rw [c4b0] | (simp only [i64_w, i32_w]; rw [c4b0]) | skip)
          have H' := Aside0.mk H
          clear H
          have hcz6_0 : wr.cell? ⟨gb580, 0, none⟩ = some (.string a0_0) := (blk_cell BK580.out 0).trans rfl
          have hcz6_1 : wr.cell? ⟨gb580, 1, none⟩ = some (.string a0_1) := (blk_cell BK580.out 1).trans rfl
          have hcz6_2 : wr.cell? ⟨gb580, 2, none⟩ = some (.string a0_2) := (blk_cell BK580.out 2).trans rfl
          have hcz6_3 : wr.cell? ⟨gb580, 3, none⟩ = some (.string a0_3) := (blk_cell BK580.out 3).trans rfl
          have hcz6_4 : wr.cell? ⟨gb580, 4, none⟩ = some (.string a0_4) := (blk_cell BK580.out 4).trans rfl
          have hcz6_5 : wr.cell? ⟨gb580, 5, none⟩ = some (.string a0_5) := (blk_cell BK580.out 5).trans rfl
          have hcz6_6 : wr.cell? ⟨gb580, 6, none⟩ = some (.slice A0_6 l0_6.length c0_6) := (blk_cell BK580.out 6).trans rfl
          have hfz6_0 := blk_frozen BK580.out 0
          have hfz6_1 := blk_frozen BK580.out 1
          have hfz6_2 := blk_frozen BK580.out 2
          have hfz6_3 := blk_frozen BK580.out 3
          have hfz6_4 := blk_frozen BK580.out 4
          have hfz6_5 := blk_frozen BK580.out 5
          have hfz6_6 := blk_frozen BK580.out 6
          go_wp2
          go_meet
          case rel => exact ⟨_, (false), (by first | rfl | (simp; done) | (simp [*]; done)), H', ⟨by have := HK1.out; first | omega | exact Nat.le_refl _⟩, ⟨by (with_reducible repeat (first | refine blk_drewN ?_ _ | refine blk_drew ?_ | refine blk_alloc ?_ _)); exact BK580.out⟩, ⟨by repeat (first | (with_reducible first | exact HB.out | apply below_alloc | apply pw_below_drewN | apply below_drew1 | refine below_set ?_ GE580.out) | exact HB.out)⟩⟩
      case rest =>
        clear HC3
        try clear p2
        try clear c3
        try clear c4
        try clear c4b0
        try clear hcz5_0
        try clear hcz5_1
        try clear hcz5_2
        try clear hcz5_3
        try clear hcz5_4
        try clear hcz5_5
        try clear hcz5_6
        try clear hcz6_0
        try clear hcz6_1
        try clear hcz6_2
        try clear hcz6_3
        try clear hcz6_4
        try clear hcz6_5
        try clear hcz6_6
        try clear hfz5_0
        try clear hfz5_1
        try clear hfz5_2
        try clear hfz5_3
        try clear hfz5_4
        try clear hfz5_5
        try clear hfz5_6
        try clear hfz6_0
        try clear hfz6_1
        try clear hfz6_2
        try clear hfz6_3
        try clear hfz6_4
        try clear hfz6_5
        try clear hfz6_6
        try clear p2
        obtain ⟨kq, x12_2, rfl, HA, HJ2, BK580, HB⟩ := hcut
        cases kq with
        | zero => exact absurd HA.out (by simp [decklelaw15_Few.j1])
        | succ kj2 =>
          have H := HA.out
          clear HA
          simp only [decklelaw15_Few.j1] at H
          by_cases c7 : x12_2 = true
          · subst c7
            have H1 : (if 0 ≤ x3_1 then (if x3_1 < (l0_6.length : Int) then (if ((rdOf ByteArray.empty l0_6 x3_1).size : Int) > 100 then (some false) else (decklelaw15_Few.l0 kj2 (wrap64 (x3_1 + 1)) a0_0 a0_1 a0_2 a0_3 a0_4 a0_5 l0_6)) else (none)) else (none)) = some r := by rw [if_pos rfl] at H; exact H
            clear H
            have H := H1
            clear H1
            by_cases c8 : 0 ≤ x3_1
            · rw [if_pos c8] at H
              have c8b0 : decide (0 ≤ x3_1) = true := decide_eq_true c8
              clear c8
              by_cases c9 : x3_1 < (l0_6.length : Int)
              · rw [if_pos c9] at H
                have c9b0 : decide (x3_1 < (l0_6.length : Int)) = true := decide_eq_true c9
                clear c9
                by_cases c10 : ((rdOf ByteArray.empty l0_6 x3_1).size : Int) > 100
                · rw [if_pos c10] at H
                  have c10b0 : decide (100 < ((rdOf ByteArray.empty l0_6 x3_1).size : Int)) = true := decide_eq_true c10
                  have c10b1 : decide (100 < (rdOf ByteArray.empty l0_6 x3_1).size) = true := decide_eq_true (by omega)
                  clear c10
                  obtain rfl := Option.some.inj H
                  have hcz11_0 : wc.cell? ⟨gb580, 0, none⟩ = some (.string a0_0) := (blk_cell BK580.out 0).trans rfl
                  have hcz11_1 : wc.cell? ⟨gb580, 1, none⟩ = some (.string a0_1) := (blk_cell BK580.out 1).trans rfl
                  have hcz11_2 : wc.cell? ⟨gb580, 2, none⟩ = some (.string a0_2) := (blk_cell BK580.out 2).trans rfl
                  have hcz11_3 : wc.cell? ⟨gb580, 3, none⟩ = some (.string a0_3) := (blk_cell BK580.out 3).trans rfl
                  have hcz11_4 : wc.cell? ⟨gb580, 4, none⟩ = some (.string a0_4) := (blk_cell BK580.out 4).trans rfl
                  have hcz11_5 : wc.cell? ⟨gb580, 5, none⟩ = some (.string a0_5) := (blk_cell BK580.out 5).trans rfl
                  have hcz11_6 : wc.cell? ⟨gb580, 6, none⟩ = some (.slice A0_6 l0_6.length c0_6) := (blk_cell BK580.out 6).trans rfl
                  have hfz11_0 := blk_frozen BK580.out 0
                  have hfz11_1 := blk_frozen BK580.out 1
                  have hfz11_2 := blk_frozen BK580.out 2
                  have hfz11_3 := blk_frozen BK580.out 3
                  have hfz11_4 := blk_frozen BK580.out 4
                  have hfz11_5 := blk_frozen BK580.out 5
                  have hfz11_6 := blk_frozen BK580.out 6
                  have p581 : 0 ≤ (x3_1 : Int) := of_decide_eq_true (by first | (with_reducible assumption) | assumption)
                  have q581 : x3_1 < (l0_6.length : Int) := of_decide_eq_true (by first | (with_reducible assumption) | assumption)
                  obtain ⟨ad581, e581, hx581_0⟩ := Kd.at_string HR0_6.out x3_1 p581 q581
                  cases e581
                  replace hx581_0 := (HB.out.cell (World.block_lt_of_cell? w _ hx581_0)).trans hx581_0
                  replace p581 := eq_true p581
                  replace q581 := eq_true q581
                  go_wp2
                  go_ret
                  exact ⟨by first | rfl | (simp [errW_none, errW_some] <;> rfl) | (simp [*, errW_none, errW_some] <;> rfl), by repeat (first | (with_reducible first | exact HB.out | apply below_alloc | apply pw_below_drewN | apply below_drew1 | refine below_set ?_ GE580.out) | exact HB.out)⟩
                · rw [if_neg c10] at H
                  have c10b0 : decide (100 < ((rdOf ByteArray.empty l0_6 x3_1).size : Int)) = false := decide_eq_false c10
                  have c10b1 : decide (100 < (rdOf ByteArray.empty l0_6 x3_1).size) = false := decide_eq_false (by omega)
                  clear c10
                  have H' := Aside0.mk H
                  clear H
                  have hcz12_0 : wc.cell? ⟨gb580, 0, none⟩ = some (.string a0_0) := (blk_cell BK580.out 0).trans rfl
                  have hcz12_1 : wc.cell? ⟨gb580, 1, none⟩ = some (.string a0_1) := (blk_cell BK580.out 1).trans rfl
                  have hcz12_2 : wc.cell? ⟨gb580, 2, none⟩ = some (.string a0_2) := (blk_cell BK580.out 2).trans rfl
                  have hcz12_3 : wc.cell? ⟨gb580, 3, none⟩ = some (.string a0_3) := (blk_cell BK580.out 3).trans rfl
                  have hcz12_4 : wc.cell? ⟨gb580, 4, none⟩ = some (.string a0_4) := (blk_cell BK580.out 4).trans rfl
                  have hcz12_5 : wc.cell? ⟨gb580, 5, none⟩ = some (.string a0_5) := (blk_cell BK580.out 5).trans rfl
                  have hcz12_6 : wc.cell? ⟨gb580, 6, none⟩ = some (.slice A0_6 l0_6.length c0_6) := (blk_cell BK580.out 6).trans rfl
                  have hfz12_0 := blk_frozen BK580.out 0
                  have hfz12_1 := blk_frozen BK580.out 1
                  have hfz12_2 := blk_frozen BK580.out 2
                  have hfz12_3 := blk_frozen BK580.out 3
                  have hfz12_4 := blk_frozen BK580.out 4
                  have hfz12_5 := blk_frozen BK580.out 5
                  have hfz12_6 := blk_frozen BK580.out 6
                  have p581 : 0 ≤ (x3_1 : Int) := of_decide_eq_true (by first | (with_reducible assumption) | assumption)
                  have q581 : x3_1 < (l0_6.length : Int) := of_decide_eq_true (by first | (with_reducible assumption) | assumption)
                  obtain ⟨ad581, e581, hx581_0⟩ := Kd.at_string HR0_6.out x3_1 p581 q581
                  cases e581
                  replace hx581_0 := (HB.out.cell (World.block_lt_of_cell? w _ hx581_0)).trans hx581_0
                  replace p581 := eq_true p581
                  replace q581 := eq_true q581
                  go_wp2
                  go_roundg kj2
                  case measure => have := HK1.out; have := HJ2.out; omega
                  case rel => exact ⟨(wrap64 (x3_1 + 1)), (by first | rfl | (simp; done) | (simp [*]; done)), H', ⟨by have := HK1.out; have := HJ2.out; omega⟩, ⟨by (with_reducible repeat (first | refine blk_drewN ?_ _ | refine blk_drew ?_ | refine blk_alloc ?_ _)); exact BK580.out⟩, ⟨by repeat (first | (with_reducible first | exact HB.out | apply below_alloc | apply pw_below_drewN | apply below_drew1 | refine below_set ?_ GE580.out) | exact HB.out)⟩⟩
              · rw [if_neg c9] at H
                exact absurd H (by simp)
            · rw [if_neg c8] at H
              exact absurd H (by simp)
          · replace c7 := Bool.eq_false_iff.mpr c7
            subst c7
            have H1 : (if (l0_6.length : Int) ≤ 30 then (if (a0_0.size : Int) ≤ 100 then (if (a0_1.size : Int) ≤ 100 then (if (a0_2.size : Int) ≤ 100 then (if (a0_3.size : Int) ≤ 100 then (if (a0_4.size : Int) ≤ 100 then (some (decide ((a0_5.size : Int) ≤ 100))) else (some false)) else (some false)) else (some false)) else (some false)) else (some false)) else (some false)) = some r := by rw [if_neg (show ¬ (false = true) by decide)] at H; exact H
            clear H
            have H := H1
            clear H1
            by_cases c13 : (l0_6.length : Int) ≤ 30
            · rw [if_pos c13] at H
              have c13b0 : decide ((l0_6.length : Int) ≤ 30) = true := decide_eq_true c13
              have c13b1 : decide (l0_6.length ≤ 30) = true := decide_eq_true (by omega)
              clear c13
              by_cases c14 : (a0_0.size : Int) ≤ 100
              · rw [if_pos c14] at H
                have c14b0 : decide ((a0_0.size : Int) ≤ 100) = true := decide_eq_true c14
                have c14b1 : decide (a0_0.size ≤ 100) = true := decide_eq_true (by omega)
                clear c14
                by_cases c15 : (a0_1.size : Int) ≤ 100
                · rw [if_pos c15] at H
                  have c15b0 : decide ((a0_1.size : Int) ≤ 100) = true := decide_eq_true c15
                  have c15b1 : decide (a0_1.size ≤ 100) = true := decide_eq_true (by omega)
                  clear c15
                  by_cases c16 : (a0_2.size : Int) ≤ 100
                  · rw [if_pos c16] at H
                    have c16b0 : decide ((a0_2.size : Int) ≤ 100) = true := decide_eq_true c16
                    have c16b1 : decide (a0_2.size ≤ 100) = true := decide_eq_true (by omega)
                    clear c16
                    by_cases c17 : (a0_3.size : Int) ≤ 100
                    · rw [if_pos c17] at H
                      have c17b0 : decide ((a0_3.size : Int) ≤ 100) = true := decide_eq_true c17
                      have c17b1 : decide (a0_3.size ≤ 100) = true := decide_eq_true (by omega)
                      clear c17
                      by_cases c18 : (a0_4.size : Int) ≤ 100
                      · rw [if_pos c18] at H
                        have c18b0 : decide ((a0_4.size : Int) ≤ 100) = true := decide_eq_true c18
                        have c18b1 : decide (a0_4.size ≤ 100) = true := decide_eq_true (by omega)
                        clear c18
                        obtain rfl := Option.some.inj H
                        have hcz19_0 : wc.cell? ⟨gb580, 0, none⟩ = some (.string a0_0) := (blk_cell BK580.out 0).trans rfl
                        have hcz19_1 : wc.cell? ⟨gb580, 1, none⟩ = some (.string a0_1) := (blk_cell BK580.out 1).trans rfl
                        have hcz19_2 : wc.cell? ⟨gb580, 2, none⟩ = some (.string a0_2) := (blk_cell BK580.out 2).trans rfl
                        have hcz19_3 : wc.cell? ⟨gb580, 3, none⟩ = some (.string a0_3) := (blk_cell BK580.out 3).trans rfl
                        have hcz19_4 : wc.cell? ⟨gb580, 4, none⟩ = some (.string a0_4) := (blk_cell BK580.out 4).trans rfl
                        have hcz19_5 : wc.cell? ⟨gb580, 5, none⟩ = some (.string a0_5) := (blk_cell BK580.out 5).trans rfl
                        have hcz19_6 : wc.cell? ⟨gb580, 6, none⟩ = some (.slice A0_6 l0_6.length c0_6) := (blk_cell BK580.out 6).trans rfl
                        have hfz19_0 := blk_frozen BK580.out 0
                        have hfz19_1 := blk_frozen BK580.out 1
                        have hfz19_2 := blk_frozen BK580.out 2
                        have hfz19_3 := blk_frozen BK580.out 3
                        have hfz19_4 := blk_frozen BK580.out 4
                        have hfz19_5 := blk_frozen BK580.out 5
                        have hfz19_6 := blk_frozen BK580.out 6
                        go_wp2
                        go_ret
                        exact ⟨by first | rfl | (simp [errW_none, errW_some] <;> rfl) | (simp [*, errW_none, errW_some] <;> rfl), by repeat (first | (with_reducible first | exact HB.out | apply below_alloc | apply pw_below_drewN | apply below_drew1 | refine below_set ?_ GE580.out) | exact HB.out)⟩
                      · rw [if_neg c18] at H
                        have c18b0 : decide ((a0_4.size : Int) ≤ 100) = false := decide_eq_false c18
                        have c18b1 : decide (a0_4.size ≤ 100) = false := decide_eq_false (by omega)
                        clear c18
                        obtain rfl := Option.some.inj H
                        have hcz20_0 : wc.cell? ⟨gb580, 0, none⟩ = some (.string a0_0) := (blk_cell BK580.out 0).trans rfl
                        have hcz20_1 : wc.cell? ⟨gb580, 1, none⟩ = some (.string a0_1) := (blk_cell BK580.out 1).trans rfl
                        have hcz20_2 : wc.cell? ⟨gb580, 2, none⟩ = some (.string a0_2) := (blk_cell BK580.out 2).trans rfl
                        have hcz20_3 : wc.cell? ⟨gb580, 3, none⟩ = some (.string a0_3) := (blk_cell BK580.out 3).trans rfl
                        have hcz20_4 : wc.cell? ⟨gb580, 4, none⟩ = some (.string a0_4) := (blk_cell BK580.out 4).trans rfl
                        have hcz20_5 : wc.cell? ⟨gb580, 5, none⟩ = some (.string a0_5) := (blk_cell BK580.out 5).trans rfl
                        have hcz20_6 : wc.cell? ⟨gb580, 6, none⟩ = some (.slice A0_6 l0_6.length c0_6) := (blk_cell BK580.out 6).trans rfl
                        have hfz20_0 := blk_frozen BK580.out 0
                        have hfz20_1 := blk_frozen BK580.out 1
                        have hfz20_2 := blk_frozen BK580.out 2
                        have hfz20_3 := blk_frozen BK580.out 3
                        have hfz20_4 := blk_frozen BK580.out 4
                        have hfz20_5 := blk_frozen BK580.out 5
                        have hfz20_6 := blk_frozen BK580.out 6
                        go_wp2
                        go_ret
                        exact ⟨by first | rfl | (simp [errW_none, errW_some] <;> rfl) | (simp [*, errW_none, errW_some] <;> rfl), by repeat (first | (with_reducible first | exact HB.out | apply below_alloc | apply pw_below_drewN | apply below_drew1 | refine below_set ?_ GE580.out) | exact HB.out)⟩
                    · rw [if_neg c17] at H
                      have c17b0 : decide ((a0_3.size : Int) ≤ 100) = false := decide_eq_false c17
                      have c17b1 : decide (a0_3.size ≤ 100) = false := decide_eq_false (by omega)
                      clear c17
                      obtain rfl := Option.some.inj H
                      have hcz21_0 : wc.cell? ⟨gb580, 0, none⟩ = some (.string a0_0) := (blk_cell BK580.out 0).trans rfl
                      have hcz21_1 : wc.cell? ⟨gb580, 1, none⟩ = some (.string a0_1) := (blk_cell BK580.out 1).trans rfl
                      have hcz21_2 : wc.cell? ⟨gb580, 2, none⟩ = some (.string a0_2) := (blk_cell BK580.out 2).trans rfl
                      have hcz21_3 : wc.cell? ⟨gb580, 3, none⟩ = some (.string a0_3) := (blk_cell BK580.out 3).trans rfl
                      have hcz21_4 : wc.cell? ⟨gb580, 4, none⟩ = some (.string a0_4) := (blk_cell BK580.out 4).trans rfl
                      have hcz21_5 : wc.cell? ⟨gb580, 5, none⟩ = some (.string a0_5) := (blk_cell BK580.out 5).trans rfl
                      have hcz21_6 : wc.cell? ⟨gb580, 6, none⟩ = some (.slice A0_6 l0_6.length c0_6) := (blk_cell BK580.out 6).trans rfl
                      have hfz21_0 := blk_frozen BK580.out 0
                      have hfz21_1 := blk_frozen BK580.out 1
                      have hfz21_2 := blk_frozen BK580.out 2
                      have hfz21_3 := blk_frozen BK580.out 3
                      have hfz21_4 := blk_frozen BK580.out 4
                      have hfz21_5 := blk_frozen BK580.out 5
                      have hfz21_6 := blk_frozen BK580.out 6
                      go_wp2
                      go_ret
                      exact ⟨by first | rfl | (simp [errW_none, errW_some] <;> rfl) | (simp [*, errW_none, errW_some] <;> rfl), by repeat (first | (with_reducible first | exact HB.out | apply below_alloc | apply pw_below_drewN | apply below_drew1 | refine below_set ?_ GE580.out) | exact HB.out)⟩
                  · rw [if_neg c16] at H
                    have c16b0 : decide ((a0_2.size : Int) ≤ 100) = false := decide_eq_false c16
                    have c16b1 : decide (a0_2.size ≤ 100) = false := decide_eq_false (by omega)
                    clear c16
                    obtain rfl := Option.some.inj H
                    have hcz22_0 : wc.cell? ⟨gb580, 0, none⟩ = some (.string a0_0) := (blk_cell BK580.out 0).trans rfl
                    have hcz22_1 : wc.cell? ⟨gb580, 1, none⟩ = some (.string a0_1) := (blk_cell BK580.out 1).trans rfl
                    have hcz22_2 : wc.cell? ⟨gb580, 2, none⟩ = some (.string a0_2) := (blk_cell BK580.out 2).trans rfl
                    have hcz22_3 : wc.cell? ⟨gb580, 3, none⟩ = some (.string a0_3) := (blk_cell BK580.out 3).trans rfl
                    have hcz22_4 : wc.cell? ⟨gb580, 4, none⟩ = some (.string a0_4) := (blk_cell BK580.out 4).trans rfl
                    have hcz22_5 : wc.cell? ⟨gb580, 5, none⟩ = some (.string a0_5) := (blk_cell BK580.out 5).trans rfl
                    have hcz22_6 : wc.cell? ⟨gb580, 6, none⟩ = some (.slice A0_6 l0_6.length c0_6) := (blk_cell BK580.out 6).trans rfl
                    have hfz22_0 := blk_frozen BK580.out 0
                    have hfz22_1 := blk_frozen BK580.out 1
                    have hfz22_2 := blk_frozen BK580.out 2
                    have hfz22_3 := blk_frozen BK580.out 3
                    have hfz22_4 := blk_frozen BK580.out 4
                    have hfz22_5 := blk_frozen BK580.out 5
                    have hfz22_6 := blk_frozen BK580.out 6
                    go_wp2
                    go_ret
                    exact ⟨by first | rfl | (simp [errW_none, errW_some] <;> rfl) | (simp [*, errW_none, errW_some] <;> rfl), by repeat (first | (with_reducible first | exact HB.out | apply below_alloc | apply pw_below_drewN | apply below_drew1 | refine below_set ?_ GE580.out) | exact HB.out)⟩
                · rw [if_neg c15] at H
                  have c15b0 : decide ((a0_1.size : Int) ≤ 100) = false := decide_eq_false c15
                  have c15b1 : decide (a0_1.size ≤ 100) = false := decide_eq_false (by omega)
                  clear c15
                  obtain rfl := Option.some.inj H
                  have hcz23_0 : wc.cell? ⟨gb580, 0, none⟩ = some (.string a0_0) := (blk_cell BK580.out 0).trans rfl
                  have hcz23_1 : wc.cell? ⟨gb580, 1, none⟩ = some (.string a0_1) := (blk_cell BK580.out 1).trans rfl
                  have hcz23_2 : wc.cell? ⟨gb580, 2, none⟩ = some (.string a0_2) := (blk_cell BK580.out 2).trans rfl
                  have hcz23_3 : wc.cell? ⟨gb580, 3, none⟩ = some (.string a0_3) := (blk_cell BK580.out 3).trans rfl
                  have hcz23_4 : wc.cell? ⟨gb580, 4, none⟩ = some (.string a0_4) := (blk_cell BK580.out 4).trans rfl
                  have hcz23_5 : wc.cell? ⟨gb580, 5, none⟩ = some (.string a0_5) := (blk_cell BK580.out 5).trans rfl
                  have hcz23_6 : wc.cell? ⟨gb580, 6, none⟩ = some (.slice A0_6 l0_6.length c0_6) := (blk_cell BK580.out 6).trans rfl
                  have hfz23_0 := blk_frozen BK580.out 0
                  have hfz23_1 := blk_frozen BK580.out 1
                  have hfz23_2 := blk_frozen BK580.out 2
                  have hfz23_3 := blk_frozen BK580.out 3
                  have hfz23_4 := blk_frozen BK580.out 4
                  have hfz23_5 := blk_frozen BK580.out 5
                  have hfz23_6 := blk_frozen BK580.out 6
                  go_wp2
                  go_ret
                  exact ⟨by first | rfl | (simp [errW_none, errW_some] <;> rfl) | (simp [*, errW_none, errW_some] <;> rfl), by repeat (first | (with_reducible first | exact HB.out | apply below_alloc | apply pw_below_drewN | apply below_drew1 | refine below_set ?_ GE580.out) | exact HB.out)⟩
              · rw [if_neg c14] at H
                have c14b0 : decide ((a0_0.size : Int) ≤ 100) = false := decide_eq_false c14
                have c14b1 : decide (a0_0.size ≤ 100) = false := decide_eq_false (by omega)
                clear c14
                obtain rfl := Option.some.inj H
                have hcz24_0 : wc.cell? ⟨gb580, 0, none⟩ = some (.string a0_0) := (blk_cell BK580.out 0).trans rfl
                have hcz24_1 : wc.cell? ⟨gb580, 1, none⟩ = some (.string a0_1) := (blk_cell BK580.out 1).trans rfl
                have hcz24_2 : wc.cell? ⟨gb580, 2, none⟩ = some (.string a0_2) := (blk_cell BK580.out 2).trans rfl
                have hcz24_3 : wc.cell? ⟨gb580, 3, none⟩ = some (.string a0_3) := (blk_cell BK580.out 3).trans rfl
                have hcz24_4 : wc.cell? ⟨gb580, 4, none⟩ = some (.string a0_4) := (blk_cell BK580.out 4).trans rfl
                have hcz24_5 : wc.cell? ⟨gb580, 5, none⟩ = some (.string a0_5) := (blk_cell BK580.out 5).trans rfl
                have hcz24_6 : wc.cell? ⟨gb580, 6, none⟩ = some (.slice A0_6 l0_6.length c0_6) := (blk_cell BK580.out 6).trans rfl
                have hfz24_0 := blk_frozen BK580.out 0
                have hfz24_1 := blk_frozen BK580.out 1
                have hfz24_2 := blk_frozen BK580.out 2
                have hfz24_3 := blk_frozen BK580.out 3
                have hfz24_4 := blk_frozen BK580.out 4
                have hfz24_5 := blk_frozen BK580.out 5
                have hfz24_6 := blk_frozen BK580.out 6
                go_wp2
                go_ret
                exact ⟨by first | rfl | (simp [errW_none, errW_some] <;> rfl) | (simp [*, errW_none, errW_some] <;> rfl), by repeat (first | (with_reducible first | exact HB.out | apply below_alloc | apply pw_below_drewN | apply below_drew1 | refine below_set ?_ GE580.out) | exact HB.out)⟩
            · rw [if_neg c13] at H
              have c13b0 : decide ((l0_6.length : Int) ≤ 30) = false := decide_eq_false c13
              have c13b1 : decide (l0_6.length ≤ 30) = false := decide_eq_false (by omega)
              clear c13
              obtain rfl := Option.some.inj H
              have hcz25_0 : wc.cell? ⟨gb580, 0, none⟩ = some (.string a0_0) := (blk_cell BK580.out 0).trans rfl
              have hcz25_1 : wc.cell? ⟨gb580, 1, none⟩ = some (.string a0_1) := (blk_cell BK580.out 1).trans rfl
              have hcz25_2 : wc.cell? ⟨gb580, 2, none⟩ = some (.string a0_2) := (blk_cell BK580.out 2).trans rfl
              have hcz25_3 : wc.cell? ⟨gb580, 3, none⟩ = some (.string a0_3) := (blk_cell BK580.out 3).trans rfl
              have hcz25_4 : wc.cell? ⟨gb580, 4, none⟩ = some (.string a0_4) := (blk_cell BK580.out 4).trans rfl
              have hcz25_5 : wc.cell? ⟨gb580, 5, none⟩ = some (.string a0_5) := (blk_cell BK580.out 5).trans rfl
              have hcz25_6 : wc.cell? ⟨gb580, 6, none⟩ = some (.slice A0_6 l0_6.length c0_6) := (blk_cell BK580.out 6).trans rfl
              have hfz25_0 := blk_frozen BK580.out 0
              have hfz25_1 := blk_frozen BK580.out 1
              have hfz25_2 := blk_frozen BK580.out 2
              have hfz25_3 := blk_frozen BK580.out 3
              have hfz25_4 := blk_frozen BK580.out 4
              have hfz25_5 := blk_frozen BK580.out 5
              have hfz25_6 := blk_frozen BK580.out 6
              go_wp2
              go_ret
              exact ⟨by first | rfl | (simp [errW_none, errW_some] <;> rfl) | (simp [*, errW_none, errW_some] <;> rfl), by repeat (first | (with_reducible first | exact HB.out | apply below_alloc | apply pw_below_drewN | apply below_drew1 | refine below_set ?_ GE580.out) | exact HB.out)⟩

end Go.Proofs.YtmddkjmcbddhiaaDoor.P
