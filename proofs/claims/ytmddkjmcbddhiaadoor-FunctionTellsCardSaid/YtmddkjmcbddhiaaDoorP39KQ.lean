/-
  P39
-/
import Derived.Test.YtmddkjmcbddhiaaDoorP0KQ
import Derived.Test.YtmddkjmcbddhiaaDoorP31KQ
import Derived.Test.YtmddkjmcbddhiaaDoorP33KQ
import Derived.Test.YtmddkjmcbddhiaaDoorRw8KQ
import Derived.Test.YtmddkjmcbddhiaaDoorP38KQ
-- written by wip/tools/print2.py (a program of this session over the kit's print); not trusted: Lean checks it
namespace Go.Proofs.YtmddkjmcbddhiaaDoor.P
open Go.RowKit Go.Proofs.YtmddkjmcbddhiaaDoorW.PrintWords Go.Proofs.YtmddkjmcbddhiaaDoorW.PrintLast Go.Proofs.YtmddkjmcbddhiaaDoorW.PrintMore
attribute [local go_sem] max2_int min2_int max_two min_two max_three min_three max_four min_four   -- for this text's walks alone
set_option linter.unusedVariables false
set_option linter.unusedSimpArgs false

/-! ### deckleref16_Right: function 27 -/
mutual
def deckleref16_Right.j0 : Nat → List ByteArray → Bool → Option (Bool)
  | 0, _, _ => none
  | k + 1, x0, x17 => if x17 = true then (some false) else (deckleref16_Right.l0 k x0 0)
def deckleref16_Right.l0 : Nat → List ByteArray → Int → Option (Bool)
  | 0, _, _ => none
  | k + 1, x0, x3 => if x3 < (x0.length : Int) then (if 0 ≤ x3 then ((deckleref16_Line.f k (rdOf ByteArray.empty x0 x3)).bind fun t434 => (if t434 = true then (deckleref16_Right.l0 k x0 (wrap64 (x3 + 1))) else (some false))) else (none)) else (if 0 < (x0.length : Int) then ((deckleref15_Parse.f k (rdOf ByteArray.empty x0 0)).bind fun bt436 => (if bt436.2.2.2.2.2.2.2 = true then ((some (([bt436.1, bt436.2.1, bt436.2.2.1, bt436.2.2.2.1, bt436.2.2.2.2.1, bt436.2.2.2.2.2.1] : List ByteArray) : List ByteArray)).bind fun y447 => (if y447.length + bt436.2.2.2.2.2.2.1.length < 8796093022208 then ((deckleref16_Labels.f k x0).bind fun t453 => (deckleref16_Right.l1 k (y447 ++ bt436.2.2.2.2.2.2.1) t453 0)) else (none))) else (some false))) else (none))
def deckleref16_Right.l1 : Nat → List ByteArray → List ByteArray → Int → Option (Bool)
  | 0, _, _, _ => none
  | k + 1, x6, x7, x8 => if x8 < (x7.length : Int) then (if 0 ≤ x8 then ((deckleref08_Right.f k (rdOf ByteArray.empty x7 x8)).bind fun t457 => (if t457 = true then (deckleref16_Right.l1 k x6 x7 (wrap64 (x8 + 1))) else (some false))) else (none)) else (if x6.length + x7.length < 8796093022208 then ((deckleref08_Unlike.f k (x6 ++ x7)).bind fun t461 => (some t461)) else (none))
end
def deckleref16_Right.f (k : Nat) (l0 : List ByteArray) : Option (Bool) := if (l0.length : Int) < 1 then (deckleref16_Right.j0 k l0 true) else (deckleref16_Right.j0 k l0 (decide ((l0.length : Int) > 1000)))
set_option maxHeartbeats 8000000 in
set_option maxRecDepth 100000 in
theorem deckleref16_Right.calls (k : Nat) (A0 : Option Addr) (c0 : Nat) (l0 : List ByteArray) (r : Bool) (w : World) (hr0 : Kd.C Kd.string w A0 l0.length l0) (hc0 : l0.length ≤ c0) (h : deckleref16_Right.f k l0 = some r) :
    Calls Tryd.prog 27 #[.slice A0 l0.length c0] w fun e w' => e = .returned (.bool r) ∧ Below w.heap.size w w' := by
  have hu42 := Tryd.underlying42
  have HR0 := Aside0.mk hr0
  have HC0 := Aside0.mk hc0
  clear hr0 hc0
  have HB := Aside0.mk (Below.refl w.heap.size w)
  have H : (if (l0.length : Int) < 1 then (deckleref16_Right.j0 k l0 true) else (deckleref16_Right.j0 k l0 (decide ((l0.length : Int) > 1000)))) = some r := h
  clear h
  have HC2 := Aside0.mk H
  clear H
  go_enter Tryd.func27, Tryd.ntmps27
  go_upto_region 1 with (fail)
  go_cut [17] (fun v17 wc => ∃ (kq : Nat) (x17_1 : Bool), v17 = .bool x17_1 ∧ Aside0 (deckleref16_Right.j0 kq l0 x17_1 = some r) ∧ Aside0 (kq ≤ k) ∧ Aside0 (Below w.heap.size w wc))
  case first =>
    have H := HC2.out
    clear HC2
    by_cases c3 : (l0.length : Int) < 1
    · rw [if_pos c3] at H
      have c3b0 : decide ((l0.length : Int) < 1) = true := decide_eq_true c3
      have c3b1 : decide (l0.length < 1) = true := decide_eq_true (by omega)
      clear c3
      (first | rw [c3b0] | (simp only [i64_w, i32_w]; rw [c3b0]) | skip)
      have H' := Aside0.mk H
      clear H
      go_wp2
      go_meet
      case rel => exact ⟨_, (true), (by first | rfl | (simp; done) | (simp [*]; done)), H', ⟨by first | omega | exact Nat.le_refl _⟩, ⟨by repeat (first | (with_reducible first | exact HB.out | apply below_alloc | apply pw_below_drewN | apply below_drew1) | exact HB.out)⟩⟩
    · rw [if_neg c3] at H
      have c3b0 : decide ((l0.length : Int) < 1) = false := decide_eq_false c3
      have c3b1 : decide (l0.length < 1) = false := decide_eq_false (by omega)
      clear c3
      (first | rw [c3b0] | (simp only [i64_w, i32_w]; rw [c3b0]) | skip)
      have H' := Aside0.mk H
      clear H
      go_wp2
      go_meet
      case rel => exact ⟨_, (decide ((l0.length : Int) > 1000)), (by first | rfl | (simp; done) | (simp [*]; done)), H', ⟨by first | omega | exact Nat.le_refl _⟩, ⟨by repeat (first | (with_reducible first | exact HB.out | apply below_alloc | apply pw_below_drewN | apply below_drew1) | exact HB.out)⟩⟩
  case rest =>
    clear HC2
    try clear c2
    try clear p2
    try clear c3
    try clear c3b0
    try clear c3b1
    obtain ⟨kq, x17_1, rfl, HA, HJ1, HB⟩ := hcut
    cases kq with
    | zero => exact absurd HA.out (by simp [deckleref16_Right.j0])
    | succ kj1 =>
      have H := HA.out
      clear HA
      simp only [deckleref16_Right.j0] at H
      by_cases c4 : x17_1 = true
      · subst c4
        have H1 : (some false) = some r := by rw [if_pos rfl] at H; exact H
        clear H
        have H := H1
        clear H1
        obtain rfl := Option.some.inj H
        go_wp2
        go_ret
        exact ⟨by first | rfl | (simp [errW_none, errW_some] <;> rfl) | (simp [*, errW_none, errW_some] <;> rfl), by repeat (first | (with_reducible first | exact HB.out | apply below_alloc | apply pw_below_drewN | apply below_drew1) | exact HB.out)⟩
      · replace c4 := Bool.eq_false_iff.mpr c4
        subst c4
        have H1 : (deckleref16_Right.l0 kj1 l0 0) = some r := by rw [if_neg (show ¬ (false = true) by decide)] at H; exact H
        clear H
        have H := H1
        clear H1
        have H' := Aside0.mk H
        clear H
        go_wp2
        go_loopg [3] kj1 (fun kq v3 w' => ∃ (x3_2 : Int), v3 = .int .i64 x3_2 ∧ Aside0 (deckleref16_Right.l0 kq l0 x3_2 = some r) ∧ Aside0 (kq ≤ kj1) ∧ Aside0 (Below w.heap.size w w'))
        case atStart => exact ⟨(0), (by first | rfl | (simp; done) | (simp [*]; done)), H', ⟨Nat.le_refl _⟩, ⟨by repeat (first | (with_reducible first | exact HB.out | apply below_alloc | apply pw_below_drewN | apply below_drew1) | exact HB.out)⟩⟩
        case round =>
          clear H'
          try clear c2
          try clear p2
          try clear c3
          try clear c3b0
          try clear c3b1
          try clear c4
          try clear p2
          obtain ⟨x3_2, rfl, HA, HK2, HB⟩ := hrel
          cases gk with
          | zero => exact absurd HA.out (by simp [deckleref16_Right.l0])
          | succ k2 =>
            have H := HA.out
            clear HA
            simp only [deckleref16_Right.l0] at H
            by_cases c5 : x3_2 < (l0.length : Int)
            · rw [if_pos c5] at H
              have c5b0 : decide (x3_2 < (l0.length : Int)) = true := decide_eq_true c5
              clear c5
              by_cases c6 : 0 ≤ x3_2
              · rw [if_pos c6] at H
                have c6b0 : decide (0 ≤ x3_2) = true := decide_eq_true c6
                clear c6
                replace H := Option.bind_eq_some_iff.mp H
                obtain ⟨t434, A70, H⟩ := H
                replace H : (if t434 = true then (deckleref16_Right.l0 k2 l0 (wrap64 (x3_2 + 1))) else (some false)) = some r := H
                have A7 := Aside0.mk A70
                clear A70
                by_cases c8 : t434 = true
                · subst c8
                  have H1 : (deckleref16_Right.l0 k2 l0 (wrap64 (x3_2 + 1))) = some r := by rw [if_pos rfl] at H; exact H
                  clear H
                  have H := H1
                  clear H1
                  have H' := Aside0.mk H
                  clear H
                  have p433 : 0 ≤ (x3_2 : Int) := of_decide_eq_true (by first | (with_reducible assumption) | assumption)
                  have q433 : x3_2 < (l0.length : Int) := of_decide_eq_true (by first | (with_reducible assumption) | assumption)
                  obtain ⟨ad433, e433, hx433_0⟩ := Kd.at_string HR0.out x3_2 p433 q433
                  cases e433
                  replace hx433_0 := (HB.out.cell (World.block_lt_of_cell? w _ hx433_0)).trans hx433_0
                  replace p433 := eq_true p433
                  replace q433 := eq_true q433
                  go_wp2_with (first | ((with_reducible refine gate_callee (f := 22) rfl ?_); refine goesL_ (some 28) rfl rfl Tryd.func22 (by kernel_rfl) rfl #[.string (rdOf ByteArray.empty l0 x3_2)] rfl (by (try simp only [List.map_toArray, List.map_cons, List.map_nil]); first | done | rfl | (simp only [List.length_drop, List.length_take]; rfl)) ?_; (with_reducible refine (deckleref16_Line.calls k2 (rdOf ByteArray.empty l0 x3_2) true _ A7.out).mono ?_); rintro e w9 ⟨rfl, hb⟩; refine ⟨_, rfl, ?_⟩; have n0_ := Aside0.mk (below_step (by repeat (first | (with_reducible first | exact HB.out | apply below_alloc | apply pw_below_drewN | apply below_drew1) | exact HB.out)) hb); clear HB; have HB := n0_; clear n0_; (try clear hb); (try clear hb2); (try clear hk); (try clear hi)))
                  go_roundg k2
                  case measure => have := HJ1.out; have := HK2.out; omega
                  case rel => exact ⟨(wrap64 (x3_2 + 1)), (by first | rfl | (simp; done) | (simp [*]; done)), H', ⟨by have := HJ1.out; have := HK2.out; omega⟩, ⟨by repeat (first | (with_reducible first | exact HB.out | apply below_alloc | apply pw_below_drewN | apply below_drew1) | exact HB.out)⟩⟩
                · replace c8 := Bool.eq_false_iff.mpr c8
                  subst c8
                  have H1 : (some false) = some r := by rw [if_neg (show ¬ (false = true) by decide)] at H; exact H
                  clear H
                  have H := H1
                  clear H1
                  obtain rfl := Option.some.inj H
                  have p433 : 0 ≤ (x3_2 : Int) := of_decide_eq_true (by first | (with_reducible assumption) | assumption)
                  have q433 : x3_2 < (l0.length : Int) := of_decide_eq_true (by first | (with_reducible assumption) | assumption)
                  obtain ⟨ad433, e433, hx433_0⟩ := Kd.at_string HR0.out x3_2 p433 q433
                  cases e433
                  replace hx433_0 := (HB.out.cell (World.block_lt_of_cell? w _ hx433_0)).trans hx433_0
                  replace p433 := eq_true p433
                  replace q433 := eq_true q433
                  go_wp2_with (first | ((with_reducible refine gate_callee (f := 22) rfl ?_); refine goesL_ (some 28) rfl rfl Tryd.func22 (by kernel_rfl) rfl #[.string (rdOf ByteArray.empty l0 x3_2)] rfl (by (try simp only [List.map_toArray, List.map_cons, List.map_nil]); first | done | rfl | (simp only [List.length_drop, List.length_take]; rfl)) ?_; (with_reducible refine (deckleref16_Line.calls k2 (rdOf ByteArray.empty l0 x3_2) false _ A7.out).mono ?_); rintro e w10 ⟨rfl, hb⟩; refine ⟨_, rfl, ?_⟩; have n0_ := Aside0.mk (below_step (by repeat (first | (with_reducible first | exact HB.out | apply below_alloc | apply pw_below_drewN | apply below_drew1) | exact HB.out)) hb); clear HB; have HB := n0_; clear n0_; (try clear hb); (try clear hb2); (try clear hk); (try clear hi)))
                  go_ret
                  exact ⟨by first | rfl | (simp [errW_none, errW_some] <;> rfl) | (simp [*, errW_none, errW_some] <;> rfl), by repeat (first | (with_reducible first | exact HB.out | apply below_alloc | apply pw_below_drewN | apply below_drew1) | exact HB.out)⟩
              · rw [if_neg c6] at H
                exact absurd H (by simp)
            · rw [if_neg c5] at H
              have c5b0 : decide (x3_2 < (l0.length : Int)) = false := decide_eq_false c5
              clear c5
              by_cases c11 : 0 < (l0.length : Int)
              · rw [if_pos c11] at H
                have c11b0 : decide (0 < (l0.length : Int)) = true := decide_eq_true c11
                have c11b1 : decide (0 < l0.length) = true := decide_eq_true (by omega)
                clear c11
                replace H := Option.bind_eq_some_iff.mp H
                obtain ⟨⟨t436, t437, t438, t439, t440, t441, t442, t445⟩, A120, H⟩ := H
                replace H : (if t445 = true then ((some (([t436, t437, t438, t439, t440, t441] : List ByteArray) : List ByteArray)).bind fun y447 => (if y447.length + t442.length < 8796093022208 then ((deckleref16_Labels.f k2 l0).bind fun t453 => (deckleref16_Right.l1 k2 (y447 ++ t442) t453 0)) else (none))) else (some false)) = some r := H
                have A12 := Aside0.mk A120
                clear A120
                by_cases c13 : t445 = true
                · subst c13
                  have H1 : ((some (([t436, t437, t438, t439, t440, t441] : List ByteArray) : List ByteArray)).bind fun y447 => (if y447.length + t442.length < 8796093022208 then ((deckleref16_Labels.f k2 l0).bind fun t453 => (deckleref16_Right.l1 k2 (y447 ++ t442) t453 0)) else (none))) = some r := by rw [if_pos rfl] at H; exact H
                  clear H
                  have H := H1
                  clear H1
                  obtain ⟨y447, hy447⟩ : ∃ y_ : List ByteArray, y_ = (([t436, t437, t438, t439, t440, t441] : List ByteArray)) := ⟨_, rfl⟩
                  replace H : (if y447.length + t442.length < 8796093022208 then ((deckleref16_Labels.f k2 l0).bind fun t453 => (deckleref16_Right.l1 k2 (y447 ++ t442) t453 0)) else (none)) = some r := by first | (rw [hy447]; with_reducible exact H) | (have H2_ := (Option.bind_some _ _).symm.trans H; rw [hy447]; with_reducible exact H2_) | (have H2_ := (Option.bind_some _ _).symm.trans H; with_reducible exact H2_) | with_reducible exact H | (rw [hy447]; exact H) | exact H
                  have Ny447 := Aside0.mk hy447
                  clear hy447
                  by_cases c14 : y447.length + t442.length < 8796093022208
                  · rw [if_pos c14] at H
                    have LMc14 := Aside0.mk c14
                    clear c14
                    obtain ⟨y450, hy450⟩ : ∃ y_ : List ByteArray, y_ = (y447 ++ t442) := ⟨_, rfl⟩
                    replace H : ((deckleref16_Labels.f k2 l0).bind fun t453 => (deckleref16_Right.l1 k2 y450 t453 0)) = some r := by first | (rw [hy450]; with_reducible exact H) | (have H2_ := (Option.bind_some _ _).symm.trans H; rw [hy450]; with_reducible exact H2_) | (have H2_ := (Option.bind_some _ _).symm.trans H; with_reducible exact H2_) | with_reducible exact H | (rw [hy450]; exact H) | exact H
                    have Ny450 := Aside0.mk hy450
                    clear hy450
                    replace H := Option.bind_eq_some_iff.mp H
                    obtain ⟨t453, A150, H⟩ := H
                    replace H : (deckleref16_Right.l1 k2 y450 t453 0) = some r := H
                    have A15 := Aside0.mk A150
                    clear A150
                    have H' := Aside0.mk H
                    clear H
                    have p435 : 0 ≤ (0 : Int) := (by omega)
                    have q435 : 0 < (l0.length : Int) := of_decide_eq_true (by first | (with_reducible assumption) | assumption)
                    obtain ⟨ad435, e435, hx435_0⟩ := Kd.at_string HR0.out 0 p435 q435
                    cases e435
                    have qi435 : (0 < l0.length) = True := eq_true (by omega)
                    (try rw [show ((0 : Int)).toNat = 0 from rfl] at hx435_0)
                    (try rw [Addr.add_zero'] at hx435_0)
                    replace hx435_0 := (HB.out.cell (World.block_lt_of_cell? w _ hx435_0)).trans hx435_0
                    replace p435 := eq_true p435
                    replace q435 := eq_true q435
                    go_wp2_with (first | ((with_reducible refine gate_callee (f := 59) rfl ?_); refine goesL_ (some 34) rfl rfl Tryd.func59 (by kernel_rfl) rfl #[.string (rdOf ByteArray.empty l0 0)] rfl (by (try simp only [List.map_toArray, List.map_cons, List.map_nil]); first | done | rfl | (simp only [List.length_drop, List.length_take]; rfl)) ?_; (with_reducible refine (deckleref15_Parse.calls k2 (rdOf ByteArray.empty l0 0) t436 t437 t438 t439 t440 t441 t442 true _ A12.out).mono ?_); rintro e w16 ⟨v443, rfl, ho0, hb⟩; refine ⟨_, rfl, ?_⟩; have n0_ := Aside0.mk (Kd.V_lower (Kd.V_mono (ok' := fun k_ => True) ho0 (fun k_ hk_ => trivial)) (below_size (by repeat (first | (with_reducible first | exact HB.out | apply below_alloc | apply pw_below_drewN | apply below_drew1) | exact HB.out)))); have n1_ := Aside0.mk (below_step (by repeat (first | (with_reducible first | exact HB.out | apply below_alloc | apply pw_below_drewN | apply below_drew1) | exact HB.out)) hb); clear HB; have HO444 := n0_; have HB := n1_; clear n0_ n1_; (try clear hb); (try clear hb2); (try clear hk); (try clear hi); (try clear ho0)) | ((with_reducible refine gate_dst (N := 4) rfl ?_); (try (refine gate_guard (by rfl) ?_; dsimp only)); refine box_event ?hg (N := 4) ?hd (cs := #[.string (⟨#[]⟩ : ByteArray), .string (⟨#[]⟩ : ByteArray), .string (⟨#[]⟩ : ByteArray), .string (⟨#[]⟩ : ByteArray), .string (⟨#[]⟩ : ByteArray), .string (⟨#[]⟩ : ByteArray), .slice none 0 0]) (t := 42) ?hr ?_; (case hd => rfl); (case hg => rfl); (case hr => first | (go_simp; done) | (go_simp; rfl)); intro gb446 hg w17 hbox hb; have n0_ := Aside0.mk (Kd.V_below (Kd.V_elderB (by (with_reducible repeat (first | apply Kd.V_alloc | apply Kd.V_drewN | apply Kd.V_drew)); exact HO444.out) gb446 (Nat.le_of_eq hg.symm)) hb); have n1_ := Aside0.mk (below_step (by repeat (first | (with_reducible first | exact HB.out | apply below_alloc | apply pw_below_drewN | apply below_drew1) | exact HB.out)) hb); have n2_ := Aside0.mk (hbox); have n3_ := Aside0.mk ((by rw [hg]; exact (below_size (by repeat (first | (with_reducible first | exact HB.out | apply below_alloc | apply pw_below_drewN | apply below_drew1) | exact HB.out))) : w.heap.size ≤ gb446)); have n4_ := Aside0.mk ((by rw [hg]; exact (below_size (by repeat (first | (with_reducible first | exact HB.out | apply below_alloc | apply pw_below_drewN | apply below_drew1) | exact HB.out))) : w.heap.size ≤ gb446)); clear HO444; clear HB; have HO444 := n0_; have HB := n1_; have BK446 := n2_; have GW446 := n3_; have GE446 := n4_; clear n0_ n1_ n2_ n3_ n4_; clear hb hbox hg; have hcz18_0 : w17.cell? ⟨gb446, 0, none⟩ = some (.string (⟨#[]⟩ : ByteArray)) := (blk_cell BK446.out 0).trans rfl; have hcz18_1 : w17.cell? ⟨gb446, 1, none⟩ = some (.string (⟨#[]⟩ : ByteArray)) := (blk_cell BK446.out 1).trans rfl; have hcz18_2 : w17.cell? ⟨gb446, 2, none⟩ = some (.string (⟨#[]⟩ : ByteArray)) := (blk_cell BK446.out 2).trans rfl; have hcz18_3 : w17.cell? ⟨gb446, 3, none⟩ = some (.string (⟨#[]⟩ : ByteArray)) := (blk_cell BK446.out 3).trans rfl; have hcz18_4 : w17.cell? ⟨gb446, 4, none⟩ = some (.string (⟨#[]⟩ : ByteArray)) := (blk_cell BK446.out 4).trans rfl; have hcz18_5 : w17.cell? ⟨gb446, 5, none⟩ = some (.string (⟨#[]⟩ : ByteArray)) := (blk_cell BK446.out 5).trans rfl; have hcz18_6 : w17.cell? ⟨gb446, 6, none⟩ = some (.slice none 0 0) := (blk_cell BK446.out 6).trans rfl; have hfz18_0 := blk_frozen BK446.out 0; have hfz18_1 := blk_frozen BK446.out 1; have hfz18_2 := blk_frozen BK446.out 2; have hfz18_3 := blk_frozen BK446.out 3; have hfz18_4 := blk_frozen BK446.out 4; have hfz18_5 := blk_frozen BK446.out 5; have hfz18_6 := blk_frozen BK446.out 6; obtain ⟨Ao19, co19, eo19⟩ := Kd.V_slice HO444.out; subst eo19) | ((with_reducible refine gate_dst (N := 51) rfl ?_); (try (refine gate_guard (by rfl) ?_; dsimp only)); refine Kd.R_lit Kd.string _ 9 ?hg (N := 51) ?hd (xs := ([t436, t437, t438, t439, t440, t441] : List ByteArray)) (inner := [.string t436, .string t437, .string t438, .string t439, .string t440, .string t441]) (ok := fun _ => True) (okp := fun _ => True) ?hr ?hp (fun _ hk => hk) trivial (Below.refl _ _) (Nat.le_refl _) (by simp) ?_; (case hd => rfl); (case hg => rfl); (case hr => first | (go_simp; done) | (go_simp; rfl)); (case hp => exact (Reps.one (show Kd.M Kd.string _ _ _ t436 [.string t436] from rfl) (Reps.one (show Kd.M Kd.string _ _ _ t437 [.string t437] from rfl) (Reps.one (show Kd.M Kd.string _ _ _ t438 [.string t438] from rfl) (Reps.one (show Kd.M Kd.string _ _ _ t439 [.string t439] from rfl) (Reps.one (show Kd.M Kd.string _ _ _ t440 [.string t440] from rfl) (Reps.one (show Kd.M Kd.string _ _ _ t441 [.string t441] from rfl) (Reps.none _ _)))))))); intro v448 w20 ho21 hb hg_ hnew_; clear hg_ hnew_; (first | rw [← Ny447.out] at ho21 | (simp only [Int.reduceToNat] at ho21; rw [← Ny447.out] at ho21)); have n0_ := Aside0.mk (Kd.V_elder' (by (with_reducible repeat (first | apply Kd.V_alloc | apply Kd.V_drewN | apply Kd.V_drew)); exact (Kd.V_mono (Kd.V_far (p := ⟨gb446, 6, none⟩) (Kd.V_far (p := ⟨gb446, 5, none⟩) (Kd.V_far (p := ⟨gb446, 4, none⟩) (Kd.V_far (p := ⟨gb446, 3, none⟩) (Kd.V_far (p := ⟨gb446, 2, none⟩) (Kd.V_far (p := ⟨gb446, 1, none⟩) (Kd.V_far (p := ⟨gb446, 0, none⟩) (Kd.V_mono HO444.out (fun k_ hk => (⟨hk, hk.2⟩ : _ ∧ k_ ≠ gb446))) (fun _ hk => hk.2) (.string t436)) (fun _ hk => hk.2) (.string t437)) (fun _ hk => hk.2) (.string t438)) (fun _ hk => hk.2) (.string t439)) (fun _ hk => hk.2) (.string t440)) (fun _ hk => hk.2) (.string t441)) (fun _ hk => hk.2) (.slice Ao19 t442.length co19)) (fun _ h_ => h_.1))) (Kd.R_base ho21) hb); have n1_ := Aside0.mk (Kd.R_lower ho21 (below_size (by repeat (first | (with_reducible first | exact HB.out | apply below_alloc | apply pw_below_drewN | apply below_drew1 | refine below_set ?_ GE446.out) | exact HB.out)))); have n2_ := Aside0.mk (blk_below (g := gb446) (o := .cells #[.string t436, .string t437, .string t438, .string t439, .string t440, .string t441, .slice Ao19 t442.length co19] 42 (0, 0)) (by (with_reducible repeat (first | refine blk_drewN ?_ _ | refine blk_drew ?_ | refine blk_alloc ?_ _)); refine blk_put (cs := #[.string t436, .string t437, .string t438, .string t439, .string t440, .string t441, .slice none 0 0]) ?_ 6 _ rfl; (with_reducible repeat (first | refine blk_drewN ?_ _ | refine blk_drew ?_ | refine blk_alloc ?_ _)); refine blk_put (cs := #[.string t436, .string t437, .string t438, .string t439, .string t440, .string (⟨#[]⟩ : ByteArray), .slice none 0 0]) ?_ 5 _ rfl; (with_reducible repeat (first | refine blk_drewN ?_ _ | refine blk_drew ?_ | refine blk_alloc ?_ _)); refine blk_put (cs := #[.string t436, .string t437, .string t438, .string t439, .string (⟨#[]⟩ : ByteArray), .string (⟨#[]⟩ : ByteArray), .slice none 0 0]) ?_ 4 _ rfl; (with_reducible repeat (first | refine blk_drewN ?_ _ | refine blk_drew ?_ | refine blk_alloc ?_ _)); refine blk_put (cs := #[.string t436, .string t437, .string t438, .string (⟨#[]⟩ : ByteArray), .string (⟨#[]⟩ : ByteArray), .string (⟨#[]⟩ : ByteArray), .slice none 0 0]) ?_ 3 _ rfl; (with_reducible repeat (first | refine blk_drewN ?_ _ | refine blk_drew ?_ | refine blk_alloc ?_ _)); refine blk_put (cs := #[.string t436, .string t437, .string (⟨#[]⟩ : ByteArray), .string (⟨#[]⟩ : ByteArray), .string (⟨#[]⟩ : ByteArray), .string (⟨#[]⟩ : ByteArray), .slice none 0 0]) ?_ 2 _ rfl; (with_reducible repeat (first | refine blk_drewN ?_ _ | refine blk_drew ?_ | refine blk_alloc ?_ _)); refine blk_put (cs := #[.string t436, .string (⟨#[]⟩ : ByteArray), .string (⟨#[]⟩ : ByteArray), .string (⟨#[]⟩ : ByteArray), .string (⟨#[]⟩ : ByteArray), .string (⟨#[]⟩ : ByteArray), .slice none 0 0]) ?_ 1 _ rfl; (with_reducible repeat (first | refine blk_drewN ?_ _ | refine blk_drew ?_ | refine blk_alloc ?_ _)); refine blk_put (cs := #[.string (⟨#[]⟩ : ByteArray), .string (⟨#[]⟩ : ByteArray), .string (⟨#[]⟩ : ByteArray), .string (⟨#[]⟩ : ByteArray), .string (⟨#[]⟩ : ByteArray), .string (⟨#[]⟩ : ByteArray), .slice none 0 0]) ?_ 0 _ rfl; (with_reducible repeat (first | refine blk_drewN ?_ _ | refine blk_drew ?_ | refine blk_alloc ?_ _)); exact BK446.out) hb); have n3_ := Aside0.mk (below_step (by repeat (first | (with_reducible first | exact HB.out | apply below_alloc | apply pw_below_drewN | apply below_drew1 | refine below_set ?_ GE446.out) | exact HB.out)) hb); clear HO444; clear BK446; clear HB; have HO444 := n0_; have HO449 := n1_; have BK446 := n2_; have HB := n3_; clear n0_ n1_ n2_ n3_; clear hb ho21; have hcz22_0 : w20.cell? ⟨gb446, 0, none⟩ = some (.string t436) := (blk_cell BK446.out 0).trans rfl; have hcz22_1 : w20.cell? ⟨gb446, 1, none⟩ = some (.string t437) := (blk_cell BK446.out 1).trans rfl; have hcz22_2 : w20.cell? ⟨gb446, 2, none⟩ = some (.string t438) := (blk_cell BK446.out 2).trans rfl; have hcz22_3 : w20.cell? ⟨gb446, 3, none⟩ = some (.string t439) := (blk_cell BK446.out 3).trans rfl; have hcz22_4 : w20.cell? ⟨gb446, 4, none⟩ = some (.string t440) := (blk_cell BK446.out 4).trans rfl; have hcz22_5 : w20.cell? ⟨gb446, 5, none⟩ = some (.string t441) := (blk_cell BK446.out 5).trans rfl; have hcz22_6 : w20.cell? ⟨gb446, 6, none⟩ = some (.slice Ao19 t442.length co19) := (blk_cell BK446.out 6).trans rfl; have hfz22_0 := blk_frozen BK446.out 0; have hfz22_1 := blk_frozen BK446.out 1; have hfz22_2 := blk_frozen BK446.out 2; have hfz22_3 := blk_frozen BK446.out 3; have hfz22_4 := blk_frozen BK446.out 4; have hfz22_5 := blk_frozen BK446.out 5; have hfz22_6 := blk_frozen BK446.out 6) | ((with_reducible refine gate_builtin (b := .append) (xs := #[.tmp 51, .tmp 53]) rfl ?_); (try (refine gate_guard (by rfl) ?_; dsimp only)); at_builtin; refine Kd.R_append_rows Kd.string (w0 := w) w.heap.size rfl (.tmp 51) (.tmp 53) 33 9 (.string ⟨#[]⟩) 16 rfl Tryd.underlying33 info9 rfl (by decide) (by omega) v448 y447 t442 _ _ _ (fun _ => True) (fun _ => False) rfl rfl ?aO ?aR (fun _ _ h => h) (fun _ h => h.elim) ?aF ?aB ?aS ?aL ?_; (case aR => repeat (first | exact (Kd.V_reads' HO444.out).2.2 | (with_reducible refine Kd.C_alloc ?_ _) | (with_reducible refine Kd.C_drewN ?_ _) | (with_reducible refine Kd.C_drew ?_))); (case aB => exact (by repeat (first | (with_reducible first | exact HB.out | apply below_alloc | apply pw_below_drewN | apply below_drew1 | refine below_set ?_ GE446.out) | exact HB.out))); (case aF => exact (fun _ _ => trivial)); (case aO => exact (by (with_reducible repeat (first | apply Kd.R_alloc | apply Kd.R_drewN | apply Kd.R_drew)); exact HO449.out)); (case aS => exact (below_size (by repeat (first | (with_reducible first | exact HB.out | apply below_alloc | apply pw_below_drewN | apply below_drew1 | refine below_set ?_ GE446.out) | exact HB.out)))); (case aL => have := LMc14.out; omega); intro v451 w23 ho hb hg hat; rw [← Ny450.out] at ho; have n0_ := Aside0.mk (Kd.V_afterv (ok := (fun k_ => k_ ≠ gb446)) (by (with_reducible repeat (first | apply Kd.V_alloc | apply Kd.V_drewN | apply Kd.V_drew)); exact Kd.V_mono HO444.out (fun _ hk => ⟨hk.1.2, hk.2⟩)) hg hat); have n1_ := Aside0.mk (blk_grown (g := gb446) (o := .cells #[.string t436, .string t437, .string t438, .string t439, .string t440, .string t441, .slice Ao19 t442.length co19] 42 (0, 0)) (by (with_reducible repeat (first | refine blk_drewN ?_ _ | refine blk_drew ?_ | refine blk_alloc ?_ _)); exact BK446.out) hg (Kd.R_ne HO449.out BK446.out (by decide))); have n2_ := Aside0.mk (hb); have n3_ := Aside0.mk (ho); clear HO444; clear BK446; clear HB; clear HO449; have HO444 := n0_; have BK446 := n1_; have HB := n2_; have HO452 := n3_; clear n0_ n1_ n2_ n3_; clear ho hb hg hat) | ((with_reducible refine gate_callee (f := 25) rfl ?_); refine goesL_ (some 56) rfl rfl Tryd.func25 (by kernel_rfl) rfl #[.slice (some ad435) l0.length c0] rfl (by (try simp only [List.map_toArray, List.map_cons, List.map_nil]); first | done | rfl | (simp only [List.length_drop, List.length_take]; rfl)) ?_; (with_reducible refine (deckleref16_Labels.calls k2 _ _ l0 t453 _ ?side1 ?side2 A15.out).mono ?_); (case side1 => repeat (first | exact (Kd.C_below HR0.out HB.out) | (with_reducible refine Kd.C_alloc ?_ _) | (with_reducible refine Kd.C_drewN ?_ _) | (with_reducible refine Kd.C_drew ?_))); (case side2 => exact HC0.out); rintro e w24 ⟨v454, rfl, ho0, hb⟩; refine ⟨_, rfl, ?_⟩; have n0_ := Aside0.mk (Kd.V_elder' (by (with_reducible repeat (first | apply Kd.V_alloc | apply Kd.V_drewN | apply Kd.V_drew)); exact HO444.out) (Kd.R_base ho0) hb); have n1_ := Aside0.mk (Kd.R_elder' (by (with_reducible repeat (first | apply Kd.R_alloc | apply Kd.R_drewN | apply Kd.R_drew)); exact HO452.out) (Kd.R_base ho0) hb); have n2_ := Aside0.mk (Kd.R_lower (Kd.R_new' ho0 (Kd.R_lt (by (with_reducible repeat (first | apply Kd.R_alloc | apply Kd.R_drewN | apply Kd.R_drew)); exact HO452.out))) (below_size (by repeat (first | (with_reducible first | exact HB.out | apply below_alloc | apply pw_below_drewN | apply below_drew1 | refine below_set ?_ GE446.out) | exact HB.out)))); have n3_ := Aside0.mk (blk_below (g := gb446) (o := .cells #[.string t436, .string t437, .string t438, .string t439, .string t440, .string t441, .slice Ao19 t442.length co19] 42 (0, 0)) (by (with_reducible repeat (first | refine blk_drewN ?_ _ | refine blk_drew ?_ | refine blk_alloc ?_ _)); exact BK446.out) hb); have n4_ := Aside0.mk (below_step (by repeat (first | (with_reducible first | exact HB.out | apply below_alloc | apply pw_below_drewN | apply below_drew1 | refine below_set ?_ GE446.out) | exact HB.out)) hb); clear HO444; clear HO452; clear BK446; clear HB; have HO444 := n0_; have HO452 := n1_; have HO455 := n2_; have BK446 := n3_; have HB := n4_; clear n0_ n1_ n2_ n3_ n4_; (try clear hb); (try clear hb2); (try clear hk); (try clear hi); (try clear ho0)))
                    go_loopg [8] k2 (fun kq v8 w' => ∃ (x8_3 : Int), v8 = .int .i64 x8_3 ∧ Aside0 (deckleref16_Right.l1 kq y450 t453 x8_3 = some r) ∧ Aside0 (kq ≤ k2) ∧ Aside0 (Kd.R Kd.string 9 w' w.heap.size (fun k_ => some k_ ≠ (v454 : Value).ownBlock) v451 y450) ∧ Aside0 (Kd.R Kd.string 9 w' w.heap.size (fun k_ => some k_ ≠ (v451 : Value).ownBlock) v454 t453) ∧ Aside0 (Kd.V Kd.string 9 w' w.heap.size (fun k_ => some k_ ≠ (v451 : Value).ownBlock ∧ some k_ ≠ (v454 : Value).ownBlock ∧ k_ ≠ gb446) (.slice Ao19 t442.length co19) t442) ∧ Aside0 (w'.heap[gb446]? = some (.cells #[.string t436, .string t437, .string t438, .string t439, .string t440, .string t441, (.slice Ao19 t442.length co19)] 42 (0, 0))) ∧ Aside0 (Below w.heap.size w w'))
                    case atStart => exact ⟨(0), (by first | rfl | (simp; done) | (simp [*]; done)), H', ⟨Nat.le_refl _⟩, ⟨by (with_reducible repeat (first | apply Kd.R_alloc | apply Kd.R_drewN | apply Kd.R_drew)); exact Kd.R_mono HO452.out (fun _ hk => hk.2)⟩, ⟨by (with_reducible repeat (first | apply Kd.R_alloc | apply Kd.R_drewN | apply Kd.R_drew)); exact Kd.R_mono HO455.out (fun _ hk => hk.2)⟩, ⟨by (with_reducible repeat (first | apply Kd.V_alloc | apply Kd.V_drewN | apply Kd.V_drew)); exact Kd.V_mono HO444.out (fun _ hk => ⟨hk.1.2, ⟨hk.2, hk.1.1⟩⟩)⟩, ⟨by (with_reducible repeat (first | refine blk_drewN ?_ _ | refine blk_drew ?_ | refine blk_alloc ?_ _)); exact BK446.out⟩, ⟨by repeat (first | (with_reducible first | exact HB.out | apply below_alloc | apply pw_below_drewN | apply below_drew1 | refine below_set ?_ GE446.out) | exact HB.out)⟩⟩
                    case round =>
                      clear H'
                      try clear c1
                      try clear c2
                      try clear p2
                      try clear c3
                      try clear c3b0
                      try clear c3b1
                      try clear c4
                      try clear p4
                      try clear q4
                      try clear hx4
                      try clear qi4
                      try clear c5
                      try clear c5b0
                      try clear c6
                      try clear c6b0
                      try clear p6
                      try clear c8
                      try clear c11
                      try clear c11b0
                      try clear c11b1
                      try clear c13
                      try clear c14
                      try clear c22
                      try clear hcz18_0
                      try clear hcz18_1
                      try clear hcz18_2
                      try clear hcz18_3
                      try clear hcz18_4
                      try clear hcz18_5
                      try clear hcz18_6
                      try clear hcz22_0
                      try clear hcz22_1
                      try clear hcz22_2
                      try clear hcz22_3
                      try clear hcz22_4
                      try clear hcz22_5
                      try clear hcz22_6
                      try clear hfz18_0
                      try clear hfz18_1
                      try clear hfz18_2
                      try clear hfz18_3
                      try clear hfz18_4
                      try clear hfz18_5
                      try clear hfz18_6
                      try clear hfz22_0
                      try clear hfz22_1
                      try clear hfz22_2
                      try clear hfz22_3
                      try clear hfz22_4
                      try clear hfz22_5
                      try clear hfz22_6
                      try clear hx433_0
                      try clear hx435_0
                      try clear p2
                      try clear p433
                      try clear p435
                      try clear q433
                      try clear q435
                      obtain ⟨x8_3, rfl, HA, HK3, HO_6, HO_7, HO_447006, BK446, HB⟩ := hrel
                      cases gk with
                      | zero => exact absurd HA.out (by simp [deckleref16_Right.l1])
                      | succ k3 =>
                        have H := HA.out
                        clear HA
                        simp only [deckleref16_Right.l1] at H
                        by_cases c25 : x8_3 < (t453.length : Int)
                        · rw [if_pos c25] at H
                          have c25b0 : decide (x8_3 < (t453.length : Int)) = true := decide_eq_true c25
                          clear c25
                          by_cases c26 : 0 ≤ x8_3
                          · rw [if_pos c26] at H
                            have c26b0 : decide (0 ≤ x8_3) = true := decide_eq_true c26
                            clear c26
                            replace H := Option.bind_eq_some_iff.mp H
                            obtain ⟨t457, A270, H⟩ := H
                            replace H : (if t457 = true then (deckleref16_Right.l1 k3 y450 t453 (wrap64 (x8_3 + 1))) else (some false)) = some r := H
                            have A27 := Aside0.mk A270
                            clear A270
                            by_cases c28 : t457 = true
                            · subst c28
                              have H1 : (deckleref16_Right.l1 k3 y450 t453 (wrap64 (x8_3 + 1))) = some r := by rw [if_pos rfl] at H; exact H
                              clear H
                              have H := H1
                              clear H1
                              have H' := Aside0.mk H
                              clear H
                              obtain ⟨Ao29, co29, eo29⟩ := Kd.R_slice HO_7.out
                              subst eo29
                              have p456 : 0 ≤ (x8_3 : Int) := of_decide_eq_true (by first | (with_reducible assumption) | assumption)
                              have q456 : x8_3 < (t453.length : Int) := of_decide_eq_true (by first | (with_reducible assumption) | assumption)
                              obtain ⟨ad456, e456, hx456_0⟩ := Kd.at_string (Kd.R_reads' HO_7.out).2.2 x8_3 p456 q456
                              cases e456
                              replace p456 := eq_true p456
                              replace q456 := eq_true q456
                              go_wp2_with (first | ((with_reducible refine gate_callee (f := 60) rfl ?_); refine goesL_ (some 67) rfl rfl Tryd.func60 (by kernel_rfl) rfl #[.string (rdOf ByteArray.empty t453 x8_3)] rfl (by (try simp only [List.map_toArray, List.map_cons, List.map_nil]); first | done | rfl | (simp only [List.length_drop, List.length_take]; rfl)) ?_; (with_reducible refine (deckleref08_Right.calls k3 (rdOf ByteArray.empty t453 x8_3) true _ A27.out).mono ?_); rintro e w30 ⟨rfl, hb⟩; refine ⟨_, rfl, ?_⟩; have n0_ := Aside0.mk (Kd.R_below (by (with_reducible repeat (first | apply Kd.R_alloc | apply Kd.R_drewN | apply Kd.R_drew)); exact HO_6.out) hb); have n1_ := Aside0.mk (Kd.R_below (by (with_reducible repeat (first | apply Kd.R_alloc | apply Kd.R_drewN | apply Kd.R_drew)); exact HO_7.out) hb); have n2_ := Aside0.mk (Kd.V_below (by (with_reducible repeat (first | apply Kd.V_alloc | apply Kd.V_drewN | apply Kd.V_drew)); exact HO_447006.out) hb); have n3_ := Aside0.mk (blk_below (g := gb446) (o := .cells #[.string t436, .string t437, .string t438, .string t439, .string t440, .string t441, .slice Ao19 t442.length co19] 42 (0, 0)) (by (with_reducible repeat (first | refine blk_drewN ?_ _ | refine blk_drew ?_ | refine blk_alloc ?_ _)); exact BK446.out) hb); have n4_ := Aside0.mk (below_step (by repeat (first | (with_reducible first | exact HB.out | apply below_alloc | apply pw_below_drewN | apply below_drew1 | refine below_set ?_ GE446.out) | exact HB.out)) hb); clear HO_6; clear HO_7; clear HO_447006; clear BK446; clear HB; have HO_6 := n0_; have HO_7 := n1_; have HO_447006 := n2_; have BK446 := n3_; have HB := n4_; clear n0_ n1_ n2_ n3_ n4_; (try clear hb); (try clear hb2); (try clear hk); (try clear hi)))
                              go_roundg k3
                              case measure => have := HJ1.out; have := HK2.out; have := HK3.out; omega
                              case rel => exact ⟨(wrap64 (x8_3 + 1)), (by first | rfl | (simp; done) | (simp [*]; done)), H', ⟨by have := HJ1.out; have := HK2.out; have := HK3.out; omega⟩, ⟨by (with_reducible repeat (first | apply Kd.R_alloc | apply Kd.R_drewN | apply Kd.R_drew)); exact HO_6.out⟩, ⟨by (with_reducible repeat (first | apply Kd.R_alloc | apply Kd.R_drewN | apply Kd.R_drew)); exact HO_7.out⟩, ⟨by (with_reducible repeat (first | apply Kd.V_alloc | apply Kd.V_drewN | apply Kd.V_drew)); exact HO_447006.out⟩, ⟨by (with_reducible repeat (first | refine blk_drewN ?_ _ | refine blk_drew ?_ | refine blk_alloc ?_ _)); exact BK446.out⟩, ⟨by repeat (first | (with_reducible first | exact HB.out | apply below_alloc | apply pw_below_drewN | apply below_drew1 | refine below_set ?_ GE446.out) | exact HB.out)⟩⟩
                            · replace c28 := Bool.eq_false_iff.mpr c28
                              subst c28
                              have H1 : (some false) = some r := by rw [if_neg (show ¬ (false = true) by decide)] at H; exact H
                              clear H
                              have H := H1
                              clear H1
                              obtain rfl := Option.some.inj H
                              obtain ⟨Ao31, co31, eo31⟩ := Kd.R_slice HO_7.out
                              subst eo31
                              have p456 : 0 ≤ (x8_3 : Int) := of_decide_eq_true (by first | (with_reducible assumption) | assumption)
                              have q456 : x8_3 < (t453.length : Int) := of_decide_eq_true (by first | (with_reducible assumption) | assumption)
                              obtain ⟨ad456, e456, hx456_0⟩ := Kd.at_string (Kd.R_reads' HO_7.out).2.2 x8_3 p456 q456
                              cases e456
                              replace p456 := eq_true p456
                              replace q456 := eq_true q456
                              go_wp2_with (first | ((with_reducible refine gate_callee (f := 60) rfl ?_); refine goesL_ (some 67) rfl rfl Tryd.func60 (by kernel_rfl) rfl #[.string (rdOf ByteArray.empty t453 x8_3)] rfl (by (try simp only [List.map_toArray, List.map_cons, List.map_nil]); first | done | rfl | (simp only [List.length_drop, List.length_take]; rfl)) ?_; (with_reducible refine (deckleref08_Right.calls k3 (rdOf ByteArray.empty t453 x8_3) false _ A27.out).mono ?_); rintro e w32 ⟨rfl, hb⟩; refine ⟨_, rfl, ?_⟩; have n0_ := Aside0.mk (Kd.R_below (by (with_reducible repeat (first | apply Kd.R_alloc | apply Kd.R_drewN | apply Kd.R_drew)); exact HO_6.out) hb); have n1_ := Aside0.mk (Kd.R_below (by (with_reducible repeat (first | apply Kd.R_alloc | apply Kd.R_drewN | apply Kd.R_drew)); exact HO_7.out) hb); have n2_ := Aside0.mk (Kd.V_below (by (with_reducible repeat (first | apply Kd.V_alloc | apply Kd.V_drewN | apply Kd.V_drew)); exact HO_447006.out) hb); have n3_ := Aside0.mk (blk_below (g := gb446) (o := .cells #[.string t436, .string t437, .string t438, .string t439, .string t440, .string t441, .slice Ao19 t442.length co19] 42 (0, 0)) (by (with_reducible repeat (first | refine blk_drewN ?_ _ | refine blk_drew ?_ | refine blk_alloc ?_ _)); exact BK446.out) hb); have n4_ := Aside0.mk (below_step (by repeat (first | (with_reducible first | exact HB.out | apply below_alloc | apply pw_below_drewN | apply below_drew1 | refine below_set ?_ GE446.out) | exact HB.out)) hb); clear HO_6; clear HO_7; clear HO_447006; clear BK446; clear HB; have HO_6 := n0_; have HO_7 := n1_; have HO_447006 := n2_; have BK446 := n3_; have HB := n4_; clear n0_ n1_ n2_ n3_ n4_; (try clear hb); (try clear hb2); (try clear hk); (try clear hi)))
                              go_ret
                              exact ⟨by first | rfl | (simp [errW_none, errW_some] <;> rfl) | (simp [*, errW_none, errW_some] <;> rfl), by repeat (first | (with_reducible first | exact HB.out | apply below_alloc | apply pw_below_drewN | apply below_drew1 | refine below_set ?_ GE446.out) | exact HB.out)⟩
                          · rw [if_neg c26] at H
                            exact absurd H (by simp)
                        · rw [if_neg c25] at H
                          have c25b0 : decide (x8_3 < (t453.length : Int)) = false := decide_eq_false c25
                          clear c25
                          by_cases c33 : y450.length + t453.length < 8796093022208
                          · rw [if_pos c33] at H
                            have LMc33 := Aside0.mk c33
                            clear c33
                            obtain ⟨y458, hy458⟩ : ∃ y_ : List ByteArray, y_ = (y450 ++ t453) := ⟨_, rfl⟩
                            replace H : ((deckleref08_Unlike.f k3 y458).bind fun t461 => (some t461)) = some r := by first | (rw [hy458]; with_reducible exact H) | (have H2_ := (Option.bind_some _ _).symm.trans H; rw [hy458]; with_reducible exact H2_) | (have H2_ := (Option.bind_some _ _).symm.trans H; with_reducible exact H2_) | with_reducible exact H | (rw [hy458]; exact H) | exact H
                            have Ny458 := Aside0.mk hy458
                            clear hy458
                            replace H := Option.bind_eq_some_iff.mp H
                            obtain ⟨t461, A340, H⟩ := H
                            replace H : (some t461) = some r := H
                            have A34 := Aside0.mk A340
                            clear A340
                            obtain rfl := Option.some.inj H
                            obtain ⟨Ao35, co35, eo35⟩ := Kd.R_slice HO_7.out
                            subst eo35
                            go_wp2_with (first | ((with_reducible refine gate_builtin (b := .append) (xs := #[.tmp 70, .tmp 71]) rfl ?_); (try (refine gate_guard (by rfl) ?_; dsimp only)); at_builtin; refine Kd.R_append_rows Kd.string (w0 := w) w.heap.size rfl (.tmp 70) (.tmp 71) 33 9 (.string ⟨#[]⟩) 16 rfl Tryd.underlying33 info9 rfl (by decide) (by omega) v451 y450 t453 _ _ _ (fun k_ => some k_ ≠ (.slice Ao35 t453.length co35 : Value).ownBlock) (fun _ => False) rfl rfl ?aO ?aR (fun _ _ h => h) (fun _ h => h.elim) ?aF ?aB ?aS ?aL ?_; (case aR => repeat (first | exact (Kd.R_reads' HO_7.out).2.2 | (with_reducible refine Kd.C_alloc ?_ _) | (with_reducible refine Kd.C_drewN ?_ _) | (with_reducible refine Kd.C_drew ?_))); (case aB => exact (by repeat (first | (with_reducible first | exact HB.out | apply below_alloc | apply pw_below_drewN | apply below_drew1 | refine below_set ?_ GE446.out) | exact HB.out))); (case aF => exact (fun k_ hk => Kd.fresh' (Kd.R_lt (by (with_reducible repeat (first | apply Kd.R_alloc | apply Kd.R_drewN | apply Kd.R_drew)); exact HO_7.out)) k_ hk)); (case aO => exact (by (with_reducible repeat (first | apply Kd.R_alloc | apply Kd.R_drewN | apply Kd.R_drew)); exact HO_6.out)); (case aS => exact (below_size (by repeat (first | (with_reducible first | exact HB.out | apply below_alloc | apply pw_below_drewN | apply below_drew1 | refine below_set ?_ GE446.out) | exact HB.out)))); (case aL => have := LMc33.out; omega); intro v459 w36 ho hb hg hat; rw [← Ny458.out] at ho; have n0_ := Aside0.mk (Kd.R_after (ok := (fun _ => True)) (by (with_reducible repeat (first | apply Kd.R_alloc | apply Kd.R_drewN | apply Kd.R_drew)); exact Kd.R_mono HO_7.out (fun _ hk => ⟨trivial, hk⟩)) hg hat); have n1_ := Aside0.mk (Kd.V_afterv (ok := (fun k_ => some k_ ≠ (.slice Ao35 t453.length co35 : Value).ownBlock ∧ k_ ≠ gb446)) (by (with_reducible repeat (first | apply Kd.V_alloc | apply Kd.V_drewN | apply Kd.V_drew)); exact Kd.V_mono HO_447006.out (fun _ hk => ⟨⟨hk.2.1, hk.2.2⟩, hk.1⟩)) hg hat); have n2_ := Aside0.mk (blk_grown (g := gb446) (o := .cells #[.string t436, .string t437, .string t438, .string t439, .string t440, .string t441, .slice Ao19 t442.length co19] 42 (0, 0)) (by (with_reducible repeat (first | refine blk_drewN ?_ _ | refine blk_drew ?_ | refine blk_alloc ?_ _)); exact BK446.out) hg (Kd.R_ne HO_6.out BK446.out (by decide))); have n3_ := Aside0.mk (hb); have n4_ := Aside0.mk (ho); clear HO_7; clear HO_447006; clear BK446; clear HB; clear HO_6; have HO_7 := n0_; have HO_447006 := n1_; have BK446 := n2_; have HB := n3_; have HO460 := n4_; clear n0_ n1_ n2_ n3_ n4_; clear ho hb hg hat; obtain ⟨Ao37, co37, eo37⟩ := Kd.R_slice HO460.out; subst eo37) | ((with_reducible refine gate_callee (f := 61) rfl ?_); refine goesL_ (some 73) rfl rfl Tryd.func61 (by kernel_rfl) rfl #[.slice Ao37 y458.length co37] rfl (by (try simp only [List.map_toArray, List.map_cons, List.map_nil]); first | done | rfl | (simp only [List.length_drop, List.length_take]; rfl)) ?_; (with_reducible refine (deckleref08_Unlike.calls k3 _ _ y458 t461 _ ?side1 ?side2 A34.out).mono ?_); (case side1 => repeat (first | exact (Kd.R_reads' HO460.out).2.2 | (with_reducible refine Kd.C_alloc ?_ _) | (with_reducible refine Kd.C_drewN ?_ _) | (with_reducible refine Kd.C_drew ?_))); (case side2 => exact (Kd.R_reads' HO460.out).2.1); rintro e w' ⟨rfl, ⟨nd, rfl⟩⟩; refine ⟨_, rfl, ?_⟩))
                            go_ret
                            exact ⟨by first | rfl | (simp [errW_none, errW_some] <;> rfl) | (simp [*, errW_none, errW_some] <;> rfl), by repeat (first | (with_reducible first | exact HB.out | apply below_alloc | apply pw_below_drewN | apply below_drew1 | refine below_set ?_ GE446.out) | exact HB.out)⟩
                          · rw [if_neg c33] at H
                            exact absurd H (by simp)
                  · rw [if_neg c14] at H
                    exact absurd H (by simp)
                · replace c13 := Bool.eq_false_iff.mpr c13
                  subst c13
                  have H1 : (some false) = some r := by rw [if_neg (show ¬ (false = true) by decide)] at H; exact H
                  clear H
                  have H := H1
                  clear H1
                  obtain rfl := Option.some.inj H
                  have p435 : 0 ≤ (0 : Int) := (by omega)
                  have q435 : 0 < (l0.length : Int) := of_decide_eq_true (by first | (with_reducible assumption) | assumption)
                  obtain ⟨ad435, e435, hx435_0⟩ := Kd.at_string HR0.out 0 p435 q435
                  cases e435
                  have qi435 : (0 < l0.length) = True := eq_true (by omega)
                  (try rw [show ((0 : Int)).toNat = 0 from rfl] at hx435_0)
                  (try rw [Addr.add_zero'] at hx435_0)
                  replace hx435_0 := (HB.out.cell (World.block_lt_of_cell? w _ hx435_0)).trans hx435_0
                  replace p435 := eq_true p435
                  replace q435 := eq_true q435
                  go_wp2_with (first | ((with_reducible refine gate_callee (f := 59) rfl ?_); refine goesL_ (some 34) rfl rfl Tryd.func59 (by kernel_rfl) rfl #[.string (rdOf ByteArray.empty l0 0)] rfl (by (try simp only [List.map_toArray, List.map_cons, List.map_nil]); first | done | rfl | (simp only [List.length_drop, List.length_take]; rfl)) ?_; (with_reducible refine (deckleref15_Parse.calls k2 (rdOf ByteArray.empty l0 0) t436 t437 t438 t439 t440 t441 t442 false _ A12.out).mono ?_); rintro e w38 ⟨v443, rfl, ho0, hb⟩; refine ⟨_, rfl, ?_⟩; have n0_ := Aside0.mk (Kd.V_lower (Kd.V_mono (ok' := fun k_ => True) ho0 (fun k_ hk_ => trivial)) (below_size (by repeat (first | (with_reducible first | exact HB.out | apply below_alloc | apply pw_below_drewN | apply below_drew1) | exact HB.out)))); have n1_ := Aside0.mk (below_step (by repeat (first | (with_reducible first | exact HB.out | apply below_alloc | apply pw_below_drewN | apply below_drew1) | exact HB.out)) hb); clear HB; have HO444 := n0_; have HB := n1_; clear n0_ n1_; (try clear hb); (try clear hb2); (try clear hk); (try clear hi); (try clear ho0)) | ((with_reducible refine gate_dst (N := 4) rfl ?_); (try (refine gate_guard (by rfl) ?_; dsimp only)); refine box_event ?hg (N := 4) ?hd (cs := #[.string (⟨#[]⟩ : ByteArray), .string (⟨#[]⟩ : ByteArray), .string (⟨#[]⟩ : ByteArray), .string (⟨#[]⟩ : ByteArray), .string (⟨#[]⟩ : ByteArray), .string (⟨#[]⟩ : ByteArray), .slice none 0 0]) (t := 42) ?hr ?_; (case hd => rfl); (case hg => rfl); (case hr => first | (go_simp; done) | (go_simp; rfl)); intro gb446 hg w39 hbox hb; have n0_ := Aside0.mk (Kd.V_below (Kd.V_elderB (by (with_reducible repeat (first | apply Kd.V_alloc | apply Kd.V_drewN | apply Kd.V_drew)); exact HO444.out) gb446 (Nat.le_of_eq hg.symm)) hb); have n1_ := Aside0.mk (below_step (by repeat (first | (with_reducible first | exact HB.out | apply below_alloc | apply pw_below_drewN | apply below_drew1) | exact HB.out)) hb); have n2_ := Aside0.mk (hbox); have n3_ := Aside0.mk ((by rw [hg]; exact (below_size (by repeat (first | (with_reducible first | exact HB.out | apply below_alloc | apply pw_below_drewN | apply below_drew1) | exact HB.out))) : w.heap.size ≤ gb446)); have n4_ := Aside0.mk ((by rw [hg]; exact (below_size (by repeat (first | (with_reducible first | exact HB.out | apply below_alloc | apply pw_below_drewN | apply below_drew1) | exact HB.out))) : w.heap.size ≤ gb446)); clear HO444; clear HB; have HO444 := n0_; have HB := n1_; have BK446 := n2_; have GW446 := n3_; have GE446 := n4_; clear n0_ n1_ n2_ n3_ n4_; clear hb hbox hg; have hcz40_0 : w39.cell? ⟨gb446, 0, none⟩ = some (.string (⟨#[]⟩ : ByteArray)) := (blk_cell BK446.out 0).trans rfl; have hcz40_1 : w39.cell? ⟨gb446, 1, none⟩ = some (.string (⟨#[]⟩ : ByteArray)) := (blk_cell BK446.out 1).trans rfl; have hcz40_2 : w39.cell? ⟨gb446, 2, none⟩ = some (.string (⟨#[]⟩ : ByteArray)) := (blk_cell BK446.out 2).trans rfl; have hcz40_3 : w39.cell? ⟨gb446, 3, none⟩ = some (.string (⟨#[]⟩ : ByteArray)) := (blk_cell BK446.out 3).trans rfl; have hcz40_4 : w39.cell? ⟨gb446, 4, none⟩ = some (.string (⟨#[]⟩ : ByteArray)) := (blk_cell BK446.out 4).trans rfl; have hcz40_5 : w39.cell? ⟨gb446, 5, none⟩ = some (.string (⟨#[]⟩ : ByteArray)) := (blk_cell BK446.out 5).trans rfl; have hcz40_6 : w39.cell? ⟨gb446, 6, none⟩ = some (.slice none 0 0) := (blk_cell BK446.out 6).trans rfl; have hfz40_0 := blk_frozen BK446.out 0; have hfz40_1 := blk_frozen BK446.out 1; have hfz40_2 := blk_frozen BK446.out 2; have hfz40_3 := blk_frozen BK446.out 3; have hfz40_4 := blk_frozen BK446.out 4; have hfz40_5 := blk_frozen BK446.out 5; have hfz40_6 := blk_frozen BK446.out 6; obtain ⟨Ao41, co41, eo41⟩ := Kd.V_slice HO444.out; subst eo41))
                  go_ret
                  exact ⟨by first | rfl | (simp [errW_none, errW_some] <;> rfl) | (simp [*, errW_none, errW_some] <;> rfl), by repeat (first | (with_reducible first | exact HB.out | apply below_alloc | apply pw_below_drewN | apply below_drew1 | refine below_set ?_ GE446.out) | exact HB.out)⟩
              · rw [if_neg c11] at H
                exact absurd H (by simp)

/-! ### deckleref16_Name: function 29 -/
def deckleref16_Name.f (k : Nat) (l0 : List ByteArray) : Option (ByteArray) := (deckleref16_Right.f k l0).bind fun t462 => (if t462 = true then (if 0 < (l0.length : Int) then ((deckleref15_Parse.f k (rdOf ByteArray.empty l0 0)).bind fun bt464 => (some bt464.2.2.1)) else (none)) else (some (⟨#[]⟩ : ByteArray)))
set_option maxHeartbeats 8000000 in
set_option maxRecDepth 100000 in
theorem deckleref16_Name.calls (k : Nat) (A0 : Option Addr) (c0 : Nat) (l0 : List ByteArray) (r : ByteArray) (w : World) (hr0 : Kd.C Kd.string w A0 l0.length l0) (hc0 : l0.length ≤ c0) (h : deckleref16_Name.f k l0 = some r) :
    Calls Tryd.prog 29 #[.slice A0 l0.length c0] w fun e w' => e = .returned (.string r) ∧ Below w.heap.size w w' := by
  have hu42 := Tryd.underlying42
  have HR0 := Aside0.mk hr0
  have HC0 := Aside0.mk hc0
  clear hr0 hc0
  have HB := Aside0.mk (Below.refl w.heap.size w)
  have H : ((deckleref16_Right.f k l0).bind fun t462 => (if t462 = true then (if 0 < (l0.length : Int) then ((deckleref15_Parse.f k (rdOf ByteArray.empty l0 0)).bind fun bt464 => (some bt464.2.2.1)) else (none)) else (some (⟨#[]⟩ : ByteArray)))) = some r := h
  clear h
  replace H := Option.bind_eq_some_iff.mp H
  obtain ⟨t462, A20, H⟩ := H
  replace H : (if t462 = true then (if 0 < (l0.length : Int) then ((deckleref15_Parse.f k (rdOf ByteArray.empty l0 0)).bind fun bt464 => (some bt464.2.2.1)) else (none)) else (some (⟨#[]⟩ : ByteArray))) = some r := H
  have A2 := Aside0.mk A20
  clear A20
  by_cases c3 : t462 = true
  · subst c3
    have H1 : (if 0 < (l0.length : Int) then ((deckleref15_Parse.f k (rdOf ByteArray.empty l0 0)).bind fun bt464 => (some bt464.2.2.1)) else (none)) = some r := by rw [if_pos rfl] at H; exact H
    clear H
    have H := H1
    clear H1
    by_cases c4 : 0 < (l0.length : Int)
    · rw [if_pos c4] at H
      have c4b0 : decide (0 < (l0.length : Int)) = true := decide_eq_true c4
      have c4b1 : decide (0 < l0.length) = true := decide_eq_true (by omega)
      clear c4
      replace H := Option.bind_eq_some_iff.mp H
      obtain ⟨⟨t464, t465, t466, t467, t468, t469, t470, t473⟩, A50, H⟩ := H
      replace H : (some t466) = some r := H
      have A5 := Aside0.mk A50
      clear A50
      obtain rfl := Option.some.inj H
      go_enter Tryd.func29, Tryd.ntmps29
      go_wp2_with (first | ((with_reducible refine gate_callee (f := 27) rfl ?_); refine goesL_ (some 6) rfl rfl Tryd.func27 (by kernel_rfl) rfl #[.slice A0 l0.length c0] rfl (by (try simp only [List.map_toArray, List.map_cons, List.map_nil]); first | done | rfl | (simp only [List.length_drop, List.length_take]; rfl)) ?_; (with_reducible refine (deckleref16_Right.calls k _ _ l0 true _ ?side1 ?side2 A2.out).mono ?_); (case side1 => repeat (first | exact HR0.out | (with_reducible refine Kd.C_alloc ?_ _) | (with_reducible refine Kd.C_drewN ?_ _) | (with_reducible refine Kd.C_drew ?_))); (case side2 => exact HC0.out); rintro e w6 ⟨rfl, hb⟩; refine ⟨_, rfl, ?_⟩; have n0_ := Aside0.mk (below_step (by repeat (first | (with_reducible first | exact HB.out | apply below_alloc | apply pw_below_drewN | apply below_drew1) | exact HB.out)) hb); clear HB; have HB := n0_; clear n0_; (try clear hb); (try clear hb2); (try clear hk); (try clear hi); have p463 : 0 ≤ (0 : Int) := (by omega); have q463 : 0 < (l0.length : Int) := of_decide_eq_true (by first | (with_reducible assumption) | assumption); obtain ⟨ad463, e463, hx463_0⟩ := Kd.at_string HR0.out 0 p463 q463; cases e463; have qi463 : (0 < l0.length) = True := eq_true (by omega); (try rw [show ((0 : Int)).toNat = 0 from rfl] at hx463_0); (try rw [Addr.add_zero'] at hx463_0); replace hx463_0 := (HB.out.cell (World.block_lt_of_cell? w _ hx463_0)).trans hx463_0; replace p463 := eq_true p463; replace q463 := eq_true q463) | ((with_reducible refine gate_callee (f := 59) rfl ?_); refine goesL_ (some 12) rfl rfl Tryd.func59 (by kernel_rfl) rfl #[.string (rdOf ByteArray.empty l0 0)] rfl (by (try simp only [List.map_toArray, List.map_cons, List.map_nil]); first | done | rfl | (simp only [List.length_drop, List.length_take]; rfl)) ?_; (with_reducible refine (deckleref15_Parse.calls k (rdOf ByteArray.empty l0 0) t464 t465 t466 t467 t468 t469 t470 t473 _ A5.out).mono ?_); rintro e w7 ⟨v471, rfl, ho0, hb⟩; refine ⟨_, rfl, ?_⟩; have n0_ := Aside0.mk (Kd.V_lower (Kd.V_mono (ok' := fun k_ => True) ho0 (fun k_ hk_ => trivial)) (below_size (by repeat (first | (with_reducible first | exact HB.out | apply below_alloc | apply pw_below_drewN | apply below_drew1) | exact HB.out)))); have n1_ := Aside0.mk (below_step (by repeat (first | (with_reducible first | exact HB.out | apply below_alloc | apply pw_below_drewN | apply below_drew1) | exact HB.out)) hb); clear HB; have HO472 := n0_; have HB := n1_; clear n0_ n1_; (try clear hb); (try clear hb2); (try clear hk); (try clear hi); (try clear ho0)) | ((with_reducible refine gate_dst (N := 3) rfl ?_); refine box_event ?hg (N := 3) ?hd (cs := #[.string (⟨#[]⟩ : ByteArray), .string (⟨#[]⟩ : ByteArray), .string (⟨#[]⟩ : ByteArray), .string (⟨#[]⟩ : ByteArray), .string (⟨#[]⟩ : ByteArray), .string (⟨#[]⟩ : ByteArray), .slice none 0 0]) (t := 42) ?hr ?_; (case hd => rfl); (case hg => rfl); (case hr => first | (go_simp; done) | (go_simp; rfl)); intro gb474 hg w8 hbox hb; have n0_ := Aside0.mk (Kd.V_below (Kd.V_elderB (by (with_reducible repeat (first | apply Kd.V_alloc | apply Kd.V_drewN | apply Kd.V_drew)); exact HO472.out) gb474 (Nat.le_of_eq hg.symm)) hb); have n1_ := Aside0.mk (below_step (by repeat (first | (with_reducible first | exact HB.out | apply below_alloc | apply pw_below_drewN | apply below_drew1) | exact HB.out)) hb); have n2_ := Aside0.mk (hbox); have n3_ := Aside0.mk ((by rw [hg]; exact (below_size (by repeat (first | (with_reducible first | exact HB.out | apply below_alloc | apply pw_below_drewN | apply below_drew1) | exact HB.out))) : w.heap.size ≤ gb474)); have n4_ := Aside0.mk ((by rw [hg]; exact (below_size (by repeat (first | (with_reducible first | exact HB.out | apply below_alloc | apply pw_below_drewN | apply below_drew1) | exact HB.out))) : w.heap.size ≤ gb474)); clear HO472; clear HB; have HO472 := n0_; have HB := n1_; have BK474 := n2_; have GW474 := n3_; have GE474 := n4_; clear n0_ n1_ n2_ n3_ n4_; clear hb hbox hg; have hcz9_0 : w8.cell? ⟨gb474, 0, none⟩ = some (.string (⟨#[]⟩ : ByteArray)) := (blk_cell BK474.out 0).trans rfl; have hcz9_1 : w8.cell? ⟨gb474, 1, none⟩ = some (.string (⟨#[]⟩ : ByteArray)) := (blk_cell BK474.out 1).trans rfl; have hcz9_2 : w8.cell? ⟨gb474, 2, none⟩ = some (.string (⟨#[]⟩ : ByteArray)) := (blk_cell BK474.out 2).trans rfl; have hcz9_3 : w8.cell? ⟨gb474, 3, none⟩ = some (.string (⟨#[]⟩ : ByteArray)) := (blk_cell BK474.out 3).trans rfl; have hcz9_4 : w8.cell? ⟨gb474, 4, none⟩ = some (.string (⟨#[]⟩ : ByteArray)) := (blk_cell BK474.out 4).trans rfl; have hcz9_5 : w8.cell? ⟨gb474, 5, none⟩ = some (.string (⟨#[]⟩ : ByteArray)) := (blk_cell BK474.out 5).trans rfl; have hcz9_6 : w8.cell? ⟨gb474, 6, none⟩ = some (.slice none 0 0) := (blk_cell BK474.out 6).trans rfl; have hfz9_0 := blk_frozen BK474.out 0; have hfz9_1 := blk_frozen BK474.out 1; have hfz9_2 := blk_frozen BK474.out 2; have hfz9_3 := blk_frozen BK474.out 3; have hfz9_4 := blk_frozen BK474.out 4; have hfz9_5 := blk_frozen BK474.out 5; have hfz9_6 := blk_frozen BK474.out 6; obtain ⟨Ao10, co10, eo10⟩ := Kd.V_slice HO472.out; subst eo10))
      go_ret
      exact ⟨by first | rfl | (simp [errW_none, errW_some] <;> rfl) | (simp [*, errW_none, errW_some] <;> rfl), by repeat (first | (with_reducible first | exact HB.out | apply below_alloc | apply pw_below_drewN | apply below_drew1 | refine below_set ?_ GE474.out) | exact HB.out)⟩
    · rw [if_neg c4] at H
      exact absurd H (by simp)
  · replace c3 := Bool.eq_false_iff.mpr c3
    subst c3
    have H1 : (some (⟨#[]⟩ : ByteArray)) = some r := by rw [if_neg (show ¬ (false = true) by decide)] at H; exact H
    clear H
    have H := H1
    clear H1
    obtain rfl := Option.some.inj H
    go_enter Tryd.func29, Tryd.ntmps29
    go_wp2_with (first | ((with_reducible refine gate_callee (f := 27) rfl ?_); refine goesL_ (some 6) rfl rfl Tryd.func27 (by kernel_rfl) rfl #[.slice A0 l0.length c0] rfl (by (try simp only [List.map_toArray, List.map_cons, List.map_nil]); first | done | rfl | (simp only [List.length_drop, List.length_take]; rfl)) ?_; (with_reducible refine (deckleref16_Right.calls k _ _ l0 false _ ?side1 ?side2 A2.out).mono ?_); (case side1 => repeat (first | exact HR0.out | (with_reducible refine Kd.C_alloc ?_ _) | (with_reducible refine Kd.C_drewN ?_ _) | (with_reducible refine Kd.C_drew ?_))); (case side2 => exact HC0.out); rintro e w11 ⟨rfl, hb⟩; refine ⟨_, rfl, ?_⟩; have n0_ := Aside0.mk (below_step (by repeat (first | (with_reducible first | exact HB.out | apply below_alloc | apply pw_below_drewN | apply below_drew1) | exact HB.out)) hb); clear HB; have HB := n0_; clear n0_; (try clear hb); (try clear hb2); (try clear hk); (try clear hi)))
    go_ret
    exact ⟨by first | rfl | (simp [errW_none, errW_some] <;> rfl) | (simp [*, errW_none, errW_some] <;> rfl), by repeat (first | (with_reducible first | exact HB.out | apply below_alloc | apply pw_below_drewN | apply below_drew1) | exact HB.out)⟩

end Go.Proofs.YtmddkjmcbddhiaaDoor.P
