/-
  P37
-/
import Derived.Test.YtmddkjmcbddhiaaDoorP0KQ
import Derived.Test.YtmddkjmcbddhiaaDoorP36KQ
-- written by wip/tools/print2.py (a program of this session over the kit's print); not trusted: Lean checks it
namespace Go.Proofs.YtmddkjmcbddhiaaDoor.P
open Go.RowKit Go.Proofs.YtmddkjmcbddhiaaDoorW.PrintWords Go.Proofs.YtmddkjmcbddhiaaDoorW.PrintLast Go.Proofs.YtmddkjmcbddhiaaDoorW.PrintMore
attribute [local go_sem] max2_int min2_int max_two min_two max_three min_three max_four min_four   -- for this text's walks alone
set_option linter.unusedVariables false
set_option linter.unusedSimpArgs false

/-! ### deckleref15_Text: function 85 -/
mutual
def deckleref15_Text.j0 : Nat → ByteArray → ByteArray → ByteArray → ByteArray → ByteArray → ByteArray → ByteArray → List ByteArray → Option (ByteArray)
  | 0, _, _, _, _, _, _, _, _ => none
  | k + 1, x3, x419000, x419001, x419002, x419003, x419004, x419005, x419006 => if x419001.toList = ([] : List UInt8) then (deckleref15_Text.j1 k x3 x419000 x419001 x419002 x419003 x419004 x419005 x419006) else (if x3.size + x419001.size ≤ 9223372036854775807 then (if (x3 ++ x419001).size + 1 ≤ 9223372036854775807 then (deckleref15_Text.j1 k ((x3 ++ x419001) ++ (⟨#[32]⟩ : ByteArray)) x419000 x419001 x419002 x419003 x419004 x419005 x419006) else (none)) else (none))
def deckleref15_Text.j1 : Nat → ByteArray → ByteArray → ByteArray → ByteArray → ByteArray → ByteArray → ByteArray → List ByteArray → Option (ByteArray)
  | 0, _, _, _, _, _, _, _, _ => none
  | k + 1, x3, x419000, x419001, x419002, x419003, x419004, x419005, x419006 => if x419004.toList = ([] : List UInt8) then (if x3.size + x419002.size ≤ 9223372036854775807 then (deckleref15_Text.j2 k (x3 ++ x419002) x419000 x419001 x419002 x419003 x419004 x419005 x419006) else (none)) else (if x419005.toList = ([] : List UInt8) then (if x3.size + 1 ≤ 9223372036854775807 then (if (x3 ++ (⟨#[40]⟩ : ByteArray)).size + x419004.size ≤ 9223372036854775807 then (if ((x3 ++ (⟨#[40]⟩ : ByteArray)) ++ x419004).size + 1 ≤ 9223372036854775807 then (if (((x3 ++ (⟨#[40]⟩ : ByteArray)) ++ x419004) ++ (⟨#[32]⟩ : ByteArray)).size + x419002.size ≤ 9223372036854775807 then (if ((((x3 ++ (⟨#[40]⟩ : ByteArray)) ++ x419004) ++ (⟨#[32]⟩ : ByteArray)) ++ x419002).size + 1 ≤ 9223372036854775807 then (deckleref15_Text.j2 k (((((x3 ++ (⟨#[40]⟩ : ByteArray)) ++ x419004) ++ (⟨#[32]⟩ : ByteArray)) ++ x419002) ++ (⟨#[41]⟩ : ByteArray)) x419000 x419001 x419002 x419003 x419004 x419005 x419006) else (none)) else (none)) else (none)) else (none)) else (none)) else (if x3.size + 1 ≤ 9223372036854775807 then (if (x3 ++ (⟨#[40]⟩ : ByteArray)).size + x419004.size ≤ 9223372036854775807 then (if ((x3 ++ (⟨#[40]⟩ : ByteArray)) ++ x419004).size + 1 ≤ 9223372036854775807 then (if (((x3 ++ (⟨#[40]⟩ : ByteArray)) ++ x419004) ++ (⟨#[32]⟩ : ByteArray)).size + x419002.size ≤ 9223372036854775807 then (if ((((x3 ++ (⟨#[40]⟩ : ByteArray)) ++ x419004) ++ (⟨#[32]⟩ : ByteArray)) ++ x419002).size + 1 ≤ 9223372036854775807 then (if (((((x3 ++ (⟨#[40]⟩ : ByteArray)) ++ x419004) ++ (⟨#[32]⟩ : ByteArray)) ++ x419002) ++ (⟨#[32]⟩ : ByteArray)).size + x419005.size ≤ 9223372036854775807 then (if ((((((x3 ++ (⟨#[40]⟩ : ByteArray)) ++ x419004) ++ (⟨#[32]⟩ : ByteArray)) ++ x419002) ++ (⟨#[32]⟩ : ByteArray)) ++ x419005).size + 1 ≤ 9223372036854775807 then (deckleref15_Text.j2 k (((((((x3 ++ (⟨#[40]⟩ : ByteArray)) ++ x419004) ++ (⟨#[32]⟩ : ByteArray)) ++ x419002) ++ (⟨#[32]⟩ : ByteArray)) ++ x419005) ++ (⟨#[41]⟩ : ByteArray)) x419000 x419001 x419002 x419003 x419004 x419005 x419006) else (none)) else (none)) else (none)) else (none)) else (none)) else (none)) else (none)))
def deckleref15_Text.j2 : Nat → ByteArray → ByteArray → ByteArray → ByteArray → ByteArray → ByteArray → ByteArray → List ByteArray → Option (ByteArray)
  | 0, _, _, _, _, _, _, _, _ => none
  | k + 1, x3, x419000, x419001, x419002, x419003, x419004, x419005, x419006 => if x419003.toList = ([] : List UInt8) then (deckleref15_Text.j3 k x3 x419000 x419001 x419002 x419003 x419004 x419005 x419006) else (if x3.size + 1 ≤ 9223372036854775807 then (if (x3 ++ (⟨#[32]⟩ : ByteArray)).size + x419003.size ≤ 9223372036854775807 then (deckleref15_Text.j3 k ((x3 ++ (⟨#[32]⟩ : ByteArray)) ++ x419003) x419000 x419001 x419002 x419003 x419004 x419005 x419006) else (none)) else (none))
def deckleref15_Text.j3 : Nat → ByteArray → ByteArray → ByteArray → ByteArray → ByteArray → ByteArray → ByteArray → List ByteArray → Option (ByteArray)
  | 0, _, _, _, _, _, _, _, _ => none
  | k + 1, x3, x419000, x419001, x419002, x419003, x419004, x419005, x419006 => deckleref15_Text.l0 k x3 0 x419000 x419001 x419002 x419003 x419004 x419005 x419006
def deckleref15_Text.l0 : Nat → ByteArray → Int → ByteArray → ByteArray → ByteArray → ByteArray → ByteArray → ByteArray → List ByteArray → Option (ByteArray)
  | 0, _, _, _, _, _, _, _, _, _ => none
  | k + 1, x3, x4, x419000, x419001, x419002, x419003, x419004, x419005, x419006 => if x4 < (x419006.length : Int) then (if x3.size + 1 ≤ 9223372036854775807 then (if 0 ≤ x4 then (if (x3 ++ (⟨#[59]⟩ : ByteArray)).size + (rdOf ByteArray.empty x419006 x4).size ≤ 9223372036854775807 then (deckleref15_Text.l0 k ((x3 ++ (⟨#[59]⟩ : ByteArray)) ++ (rdOf ByteArray.empty x419006 x4)) (wrap64 (x4 + 1)) x419000 x419001 x419002 x419003 x419004 x419005 x419006) else (none)) else (none)) else (none)) else (some x3)
end
def deckleref15_Text.f (k : Nat) (a0_0 : ByteArray) (a0_1 : ByteArray) (a0_2 : ByteArray) (a0_3 : ByteArray) (a0_4 : ByteArray) (a0_5 : ByteArray) (l0_6 : List ByteArray) : Option (ByteArray) := (deckleref15_Right.f k a0_0 a0_1 a0_2 a0_3 a0_4 a0_5 l0_6).bind fun t419 => (if t419 = true then (if a0_0.toList = ([] : List UInt8) then (deckleref15_Text.j0 k (⟨#[]⟩ : ByteArray) a0_0 a0_1 a0_2 a0_3 a0_4 a0_5 l0_6) else (if a0_0.size + 3 ≤ 9223372036854775807 then (deckleref15_Text.j0 k (a0_0 ++ (⟨#[226, 134, 144]⟩ : ByteArray)) a0_0 a0_1 a0_2 a0_3 a0_4 a0_5 l0_6) else (none))) else (some (⟨#[]⟩ : ByteArray)))
set_option maxHeartbeats 8000000 in
set_option maxRecDepth 100000 in
theorem deckleref15_Text.calls (k : Nat) (a0_0 : ByteArray) (a0_1 : ByteArray) (a0_2 : ByteArray) (a0_3 : ByteArray) (a0_4 : ByteArray) (a0_5 : ByteArray) (A0_6 : Option Addr) (c0_6 : Nat) (l0_6 : List ByteArray) (r : ByteArray) (w : World) (hr0_6 : Kd.C Kd.string w A0_6 l0_6.length l0_6) (hc0_6 : l0_6.length ≤ c0_6) (h : deckleref15_Text.f k a0_0 a0_1 a0_2 a0_3 a0_4 a0_5 l0_6 = some r) :
    Calls Tryd.prog 85 #[.agg #[.string a0_0, .string a0_1, .string a0_2, .string a0_3, .string a0_4, .string a0_5, .slice A0_6 l0_6.length c0_6]] w fun e w' => e = .returned (.string r) ∧ Below w.heap.size w w' := by
  have hu42 := Tryd.underlying42
  have HR0_6 := Aside0.mk hr0_6
  have HC0_6 := Aside0.mk hc0_6
  clear hr0_6 hc0_6
  have HB := Aside0.mk (Below.refl w.heap.size w)
  have H : ((deckleref15_Right.f k a0_0 a0_1 a0_2 a0_3 a0_4 a0_5 l0_6).bind fun t419 => (if t419 = true then (if a0_0.toList = ([] : List UInt8) then (deckleref15_Text.j0 k (⟨#[]⟩ : ByteArray) a0_0 a0_1 a0_2 a0_3 a0_4 a0_5 l0_6) else (if a0_0.size + 3 ≤ 9223372036854775807 then (deckleref15_Text.j0 k (a0_0 ++ (⟨#[226, 134, 144]⟩ : ByteArray)) a0_0 a0_1 a0_2 a0_3 a0_4 a0_5 l0_6) else (none))) else (some (⟨#[]⟩ : ByteArray)))) = some r := h
  clear h
  replace H := Option.bind_eq_some_iff.mp H
  obtain ⟨t419, A20, H⟩ := H
  replace H : (if t419 = true then (if a0_0.toList = ([] : List UInt8) then (deckleref15_Text.j0 k (⟨#[]⟩ : ByteArray) a0_0 a0_1 a0_2 a0_3 a0_4 a0_5 l0_6) else (if a0_0.size + 3 ≤ 9223372036854775807 then (deckleref15_Text.j0 k (a0_0 ++ (⟨#[226, 134, 144]⟩ : ByteArray)) a0_0 a0_1 a0_2 a0_3 a0_4 a0_5 l0_6) else (none))) else (some (⟨#[]⟩ : ByteArray))) = some r := H
  have A2 := Aside0.mk A20
  clear A20
  by_cases c3 : t419 = true
  · subst c3
    have H1 : (if a0_0.toList = ([] : List UInt8) then (deckleref15_Text.j0 k (⟨#[]⟩ : ByteArray) a0_0 a0_1 a0_2 a0_3 a0_4 a0_5 l0_6) else (if a0_0.size + 3 ≤ 9223372036854775807 then (deckleref15_Text.j0 k (a0_0 ++ (⟨#[226, 134, 144]⟩ : ByteArray)) a0_0 a0_1 a0_2 a0_3 a0_4 a0_5 l0_6) else (none))) = some r := by rw [if_pos rfl] at H; exact H
    clear H
    have H := H1
    clear H1
    have HC4 := Aside0.mk H
    clear H
    go_enter Tryd.func85, Tryd.ntmps85
    go_upto_if 10 with (first | ((with_reducible refine gate_dst (N := 1) rfl ?_); refine box_event ?hg (N := 1) ?hd (cs := #[.string a0_0, .string a0_1, .string a0_2, .string a0_3, .string a0_4, .string a0_5, .slice A0_6 l0_6.length c0_6]) (t := 42) ?hr ?_; (case hd => rfl); (case hg => rfl); (case hr => first | (go_simp; done) | (go_simp; rfl)); intro gb418 hg w5 hbox hb; have n0_ := Aside0.mk (below_step (by repeat (first | (with_reducible first | exact HB.out | apply below_alloc | apply pw_below_drewN | apply below_drew1) | exact HB.out)) hb); have n1_ := Aside0.mk (hbox); have n2_ := Aside0.mk ((by rw [hg]; exact (below_size (by repeat (first | (with_reducible first | exact HB.out | apply below_alloc | apply pw_below_drewN | apply below_drew1) | exact HB.out))) : w.heap.size ≤ gb418)); have n3_ := Aside0.mk ((by rw [hg]; exact (below_size (by repeat (first | (with_reducible first | exact HB.out | apply below_alloc | apply pw_below_drewN | apply below_drew1) | exact HB.out))) : w.heap.size ≤ gb418)); clear HB; have HB := n0_; have BK418 := n1_; have GW418 := n2_; have GE418 := n3_; clear n0_ n1_ n2_ n3_; clear hb hbox hg; have hcz6_0 : w5.cell? ⟨gb418, 0, none⟩ = some (.string a0_0) := (blk_cell BK418.out 0).trans rfl; have hcz6_1 : w5.cell? ⟨gb418, 1, none⟩ = some (.string a0_1) := (blk_cell BK418.out 1).trans rfl; have hcz6_2 : w5.cell? ⟨gb418, 2, none⟩ = some (.string a0_2) := (blk_cell BK418.out 2).trans rfl; have hcz6_3 : w5.cell? ⟨gb418, 3, none⟩ = some (.string a0_3) := (blk_cell BK418.out 3).trans rfl; have hcz6_4 : w5.cell? ⟨gb418, 4, none⟩ = some (.string a0_4) := (blk_cell BK418.out 4).trans rfl; have hcz6_5 : w5.cell? ⟨gb418, 5, none⟩ = some (.string a0_5) := (blk_cell BK418.out 5).trans rfl; have hcz6_6 : w5.cell? ⟨gb418, 6, none⟩ = some (.slice A0_6 l0_6.length c0_6) := (blk_cell BK418.out 6).trans rfl; have hfz6_0 := blk_frozen BK418.out 0; have hfz6_1 := blk_frozen BK418.out 1; have hfz6_2 := blk_frozen BK418.out 2; have hfz6_3 := blk_frozen BK418.out 3; have hfz6_4 := blk_frozen BK418.out 4; have hfz6_5 := blk_frozen BK418.out 5; have hfz6_6 := blk_frozen BK418.out 6) | ((with_reducible refine gate_callee (f := 96) rfl ?_); refine goesL_ (some 6) rfl rfl Tryd.func96 (by kernel_rfl) rfl #[.agg #[.string a0_0, .string a0_1, .string a0_2, .string a0_3, .string a0_4, .string a0_5, .slice A0_6 l0_6.length c0_6]] rfl (by (try simp only [List.map_toArray, List.map_cons, List.map_nil]); first | done | rfl | (simp only [List.length_drop, List.length_take]; rfl)) ?_; (with_reducible refine (deckleref15_Right.calls k a0_0 a0_1 a0_2 a0_3 a0_4 a0_5 _ _ l0_6 true _ ?side1 ?side2 A2.out).mono ?_); (case side1 => repeat (first | exact (Kd.C_below HR0_6.out HB.out) | (with_reducible refine Kd.C_alloc ?_ _) | (with_reducible refine Kd.C_drewN ?_ _) | (with_reducible refine Kd.C_drew ?_))); (case side2 => exact HC0_6.out); rintro e w7 ⟨rfl, hb⟩; refine ⟨_, rfl, ?_⟩; have n0_ := Aside0.mk (blk_below (g := gb418) (o := .cells #[.string a0_0, .string a0_1, .string a0_2, .string a0_3, .string a0_4, .string a0_5, .slice A0_6 l0_6.length c0_6] 42 (0, 0)) (by (with_reducible repeat (first | refine blk_drewN ?_ _ | refine blk_drew ?_ | refine blk_alloc ?_ _)); exact BK418.out) hb); have n1_ := Aside0.mk (below_step (by repeat (first | (with_reducible first | exact HB.out | apply below_alloc | apply pw_below_drewN | apply below_drew1 | refine below_set ?_ GE418.out) | exact HB.out)) hb); clear BK418; clear HB; have BK418 := n0_; have HB := n1_; clear n0_ n1_; (try clear hb); (try clear hb2); (try clear hk); (try clear hi); have hcz8_0 : w7.cell? ⟨gb418, 0, none⟩ = some (.string a0_0) := (blk_cell BK418.out 0).trans rfl; have hcz8_1 : w7.cell? ⟨gb418, 1, none⟩ = some (.string a0_1) := (blk_cell BK418.out 1).trans rfl; have hcz8_2 : w7.cell? ⟨gb418, 2, none⟩ = some (.string a0_2) := (blk_cell BK418.out 2).trans rfl; have hcz8_3 : w7.cell? ⟨gb418, 3, none⟩ = some (.string a0_3) := (blk_cell BK418.out 3).trans rfl; have hcz8_4 : w7.cell? ⟨gb418, 4, none⟩ = some (.string a0_4) := (blk_cell BK418.out 4).trans rfl; have hcz8_5 : w7.cell? ⟨gb418, 5, none⟩ = some (.string a0_5) := (blk_cell BK418.out 5).trans rfl; have hcz8_6 : w7.cell? ⟨gb418, 6, none⟩ = some (.slice A0_6 l0_6.length c0_6) := (blk_cell BK418.out 6).trans rfl; have hfz8_0 := blk_frozen BK418.out 0; have hfz8_1 := blk_frozen BK418.out 1; have hfz8_2 := blk_frozen BK418.out 2; have hfz8_3 := blk_frozen BK418.out 3; have hfz8_4 := blk_frozen BK418.out 4; have hfz8_5 := blk_frozen BK418.out 5; have hfz8_6 := blk_frozen BK418.out 6))
    (try simp only [Act.put, List.setIfInBounds_toArray, List.set_cons_zero, List.set_cons_succ])
    go_cut [3] (fun v3 wc => ∃ (kq : Nat) (x3_3 : ByteArray), v3 = .string x3_3 ∧ Aside0 (deckleref15_Text.j0 kq x3_3 a0_0 a0_1 a0_2 a0_3 a0_4 a0_5 l0_6 = some r) ∧ Aside0 (kq ≤ k) ∧ Aside0 (wc.heap[gb418]? = some (.cells #[.string a0_0, .string a0_1, .string a0_2, .string a0_3, .string a0_4, .string a0_5, (.slice A0_6 l0_6.length c0_6)] 42 (0, 0))) ∧ Aside0 (Below w.heap.size w wc))
    case first =>
      have H := HC4.out
      clear HC4
      by_cases c9 : a0_0.toList = ([] : List UInt8)
      · rw [if_pos c9] at H
        have c9b0 : (a0_0.toList == ([] : List UInt8)) = true := beq_iff_eq.mpr c9
        have c9b1 : (a0_0.toList != ([] : List UInt8)) = false := bne_eq_false_iff_eq.mpr c9
        have c9b7 : a0_0.toList.isEmpty = true := List.isEmpty_iff.2 c9
        have c9b8 : (!a0_0.toList.isEmpty) = false := by rw [c9b7]; rfl
        clear c9
        (first | rw [c9b0] | (simp only [i64_w, i32_w]; rw [c9b0]) | skip)
        (try simp only [c9b8])
        have H' := Aside0.mk H
        clear H
        go_wp2
        go_meet
        case rel => exact ⟨_, ((⟨#[]⟩ : ByteArray)), (by first | rfl | (simp; done) | (simp [*]; done)), H', ⟨by first | omega | exact Nat.le_refl _⟩, ⟨by (with_reducible repeat (first | refine blk_drewN ?_ _ | refine blk_drew ?_ | refine blk_alloc ?_ _)); exact BK418.out⟩, ⟨by repeat (first | (with_reducible first | exact HB.out | apply below_alloc | apply pw_below_drewN | apply below_drew1 | refine below_set ?_ GE418.out) | exact HB.out)⟩⟩
      · rw [if_neg c9] at H
        have c9b0 : (a0_0.toList == ([] : List UInt8)) = false := beq_eq_false_iff_ne.mpr c9
        have c9b1 : (a0_0.toList != ([] : List UInt8)) = true := bne_iff_ne.mpr c9
        have c9b7 : a0_0.toList.isEmpty = false := List.isEmpty_eq_false_iff.2 c9
        have c9b8 : (!a0_0.toList.isEmpty) = true := by rw [c9b7]; rfl
        (first | rw [c9b0] | (simp only [i64_w, i32_w]; rw [c9b0]) | skip)
        (try simp only [c9b8])
        by_cases c10 : a0_0.size + 3 ≤ 9223372036854775807
        · rw [if_pos c10] at H
          have c10b0 := eq_true c10
          (try (have c10b9 := c10; simp only [ByteArray.size_append, show (⟨#[40]⟩ : ByteArray).size = 1 from rfl, show (⟨#[41]⟩ : ByteArray).size = 1 from rfl, show (⟨#[32]⟩ : ByteArray).size = 1 from rfl, show (⟨#[59]⟩ : ByteArray).size = 1 from rfl, show (⟨#[226, 134, 144]⟩ : ByteArray).size = 3 from rfl] at c10b9; have c10b6 := eq_false (Nat.not_lt.2 c10b9); replace c10b9 := eq_true c10b9))
          have c10b1 : decide (a0_0.size + 3 ≤ 9223372036854775807) = true := decide_eq_true c10
          try have c10b2 : (9223372036854775807 < a0_0.size + 3) = False := eq_false (Nat.not_lt.2 c10)
          have H' := Aside0.mk H
          clear H
          have hcz11_0 : w7.cell? ⟨gb418, 0, none⟩ = some (.string a0_0) := (blk_cell BK418.out 0).trans rfl
          have hcz11_1 : w7.cell? ⟨gb418, 1, none⟩ = some (.string a0_1) := (blk_cell BK418.out 1).trans rfl
          have hcz11_2 : w7.cell? ⟨gb418, 2, none⟩ = some (.string a0_2) := (blk_cell BK418.out 2).trans rfl
          have hcz11_3 : w7.cell? ⟨gb418, 3, none⟩ = some (.string a0_3) := (blk_cell BK418.out 3).trans rfl
          have hcz11_4 : w7.cell? ⟨gb418, 4, none⟩ = some (.string a0_4) := (blk_cell BK418.out 4).trans rfl
          have hcz11_5 : w7.cell? ⟨gb418, 5, none⟩ = some (.string a0_5) := (blk_cell BK418.out 5).trans rfl
          have hcz11_6 : w7.cell? ⟨gb418, 6, none⟩ = some (.slice A0_6 l0_6.length c0_6) := (blk_cell BK418.out 6).trans rfl
          have hfz11_0 := blk_frozen BK418.out 0
          have hfz11_1 := blk_frozen BK418.out 1
          have hfz11_2 := blk_frozen BK418.out 2
          have hfz11_3 := blk_frozen BK418.out 3
          have hfz11_4 := blk_frozen BK418.out 4
          have hfz11_5 := blk_frozen BK418.out 5
          have hfz11_6 := blk_frozen BK418.out 6
          go_wp2
          go_meet
          case rel => exact ⟨_, (a0_0 ++ (⟨#[226, 134, 144]⟩ : ByteArray)), (by first | rfl | (simp; done) | (simp [*]; done)), H', ⟨by first | omega | exact Nat.le_refl _⟩, ⟨by (with_reducible repeat (first | refine blk_drewN ?_ _ | refine blk_drew ?_ | refine blk_alloc ?_ _)); exact BK418.out⟩, ⟨by repeat (first | (with_reducible first | exact HB.out | apply below_alloc | apply pw_below_drewN | apply below_drew1 | refine below_set ?_ GE418.out) | exact HB.out)⟩⟩
        · rw [if_neg c10] at H
          exact absurd H (by simp)
    case rest =>
      clear HC4
      try clear c1
      try clear p2
      try clear c3
      try clear c8
      try clear c9
      try clear c9b0
      try clear c9b1
      try clear c10
      try clear c10b0
      try clear c10b1
      try clear c10b2
      try clear hcz11_0
      try clear hcz11_1
      try clear hcz11_2
      try clear hcz11_3
      try clear hcz11_4
      try clear hcz11_5
      try clear hcz11_6
      try clear hcz6_0
      try clear hcz6_1
      try clear hcz6_2
      try clear hcz6_3
      try clear hcz6_4
      try clear hcz6_5
      try clear hcz6_6
      try clear hcz8_0
      try clear hcz8_1
      try clear hcz8_2
      try clear hcz8_3
      try clear hcz8_4
      try clear hcz8_5
      try clear hcz8_6
      try clear hfz11_0
      try clear hfz11_1
      try clear hfz11_2
      try clear hfz11_3
      try clear hfz11_4
      try clear hfz11_5
      try clear hfz11_6
      try clear hfz6_0
      try clear hfz6_1
      try clear hfz6_2
      try clear hfz6_3
      try clear hfz6_4
      try clear hfz6_5
      try clear hfz6_6
      try clear hfz8_0
      try clear hfz8_1
      try clear hfz8_2
      try clear hfz8_3
      try clear hfz8_4
      try clear hfz8_5
      try clear hfz8_6
      obtain ⟨kq, x3_3, rfl, HA, HJ3, BK418, HB⟩ := hcut
      cases kq with
      | zero => exact absurd HA.out (by simp [deckleref15_Text.j0])
      | succ kj3 =>
        have H := HA.out
        clear HA
        simp only [deckleref15_Text.j0] at H
        have HC12 := Aside0.mk H
        clear H
        have hcz13_0 : wc.cell? ⟨gb418, 0, none⟩ = some (.string a0_0) := (blk_cell BK418.out 0).trans rfl
        have hcz13_1 : wc.cell? ⟨gb418, 1, none⟩ = some (.string a0_1) := (blk_cell BK418.out 1).trans rfl
        have hcz13_2 : wc.cell? ⟨gb418, 2, none⟩ = some (.string a0_2) := (blk_cell BK418.out 2).trans rfl
        have hcz13_3 : wc.cell? ⟨gb418, 3, none⟩ = some (.string a0_3) := (blk_cell BK418.out 3).trans rfl
        have hcz13_4 : wc.cell? ⟨gb418, 4, none⟩ = some (.string a0_4) := (blk_cell BK418.out 4).trans rfl
        have hcz13_5 : wc.cell? ⟨gb418, 5, none⟩ = some (.string a0_5) := (blk_cell BK418.out 5).trans rfl
        have hcz13_6 : wc.cell? ⟨gb418, 6, none⟩ = some (.slice A0_6 l0_6.length c0_6) := (blk_cell BK418.out 6).trans rfl
        have hfz13_0 := blk_frozen BK418.out 0
        have hfz13_1 := blk_frozen BK418.out 1
        have hfz13_2 := blk_frozen BK418.out 2
        have hfz13_3 := blk_frozen BK418.out 3
        have hfz13_4 := blk_frozen BK418.out 4
        have hfz13_5 := blk_frozen BK418.out 5
        have hfz13_6 := blk_frozen BK418.out 6
        go_upto_if 16 with (fail)
        go_cut [3] (fun v3 wc => ∃ (kq : Nat) (x3_11 : ByteArray), v3 = .string x3_11 ∧ Aside0 (deckleref15_Text.j1 kq x3_11 a0_0 a0_1 a0_2 a0_3 a0_4 a0_5 l0_6 = some r) ∧ Aside0 (kq ≤ kj3) ∧ Aside0 (wc.heap[gb418]? = some (.cells #[.string a0_0, .string a0_1, .string a0_2, .string a0_3, .string a0_4, .string a0_5, (.slice A0_6 l0_6.length c0_6)] 42 (0, 0))) ∧ Aside0 (Below w.heap.size w wc))
        case first =>
          have H := HC12.out
          clear HC12
          by_cases c14 : a0_1.toList = ([] : List UInt8)
          · rw [if_pos c14] at H
            have c14b0 : (a0_1.toList == ([] : List UInt8)) = true := beq_iff_eq.mpr c14
            have c14b1 : (a0_1.toList != ([] : List UInt8)) = false := bne_eq_false_iff_eq.mpr c14
            have c14b7 : a0_1.toList.isEmpty = true := List.isEmpty_iff.2 c14
            have c14b8 : (!a0_1.toList.isEmpty) = false := by rw [c14b7]; rfl
            clear c14
            (first | rw [c14b0] | (simp only [i64_w, i32_w]; rw [c14b0]) | skip)
            (try simp only [c14b8])
            have H' := Aside0.mk H
            clear H
            go_wp2
            go_meet
            case rel => exact ⟨_, (x3_3), (by first | rfl | (simp; done) | (simp [*]; done)), H', ⟨by have := HJ3.out; first | omega | exact Nat.le_refl _⟩, ⟨by (with_reducible repeat (first | refine blk_drewN ?_ _ | refine blk_drew ?_ | refine blk_alloc ?_ _)); exact BK418.out⟩, ⟨by repeat (first | (with_reducible first | exact HB.out | apply below_alloc | apply pw_below_drewN | apply below_drew1 | refine below_set ?_ GE418.out) | exact HB.out)⟩⟩
          · rw [if_neg c14] at H
            have c14b0 : (a0_1.toList == ([] : List UInt8)) = false := beq_eq_false_iff_ne.mpr c14
            have c14b1 : (a0_1.toList != ([] : List UInt8)) = true := bne_iff_ne.mpr c14
            have c14b7 : a0_1.toList.isEmpty = false := List.isEmpty_eq_false_iff.2 c14
            have c14b8 : (!a0_1.toList.isEmpty) = true := by rw [c14b7]; rfl
            (first | rw [c14b0] | (simp only [i64_w, i32_w]; rw [c14b0]) | skip)
            (try simp only [c14b8])
            by_cases c15 : x3_3.size + a0_1.size ≤ 9223372036854775807
            · rw [if_pos c15] at H
              have c15b0 := eq_true c15
              (try (have c15b9 := c15; simp only [ByteArray.size_append, show (⟨#[40]⟩ : ByteArray).size = 1 from rfl, show (⟨#[41]⟩ : ByteArray).size = 1 from rfl, show (⟨#[32]⟩ : ByteArray).size = 1 from rfl, show (⟨#[59]⟩ : ByteArray).size = 1 from rfl, show (⟨#[226, 134, 144]⟩ : ByteArray).size = 3 from rfl] at c15b9; have c15b6 := eq_false (Nat.not_lt.2 c15b9); replace c15b9 := eq_true c15b9))
              have c15b1 : decide (x3_3.size + a0_1.size ≤ 9223372036854775807) = true := decide_eq_true c15
              try have c15b2 : (9223372036854775807 < x3_3.size + a0_1.size) = False := eq_false (Nat.not_lt.2 c15)
              by_cases c16 : (x3_3 ++ a0_1).size + 1 ≤ 9223372036854775807
              · rw [if_pos c16] at H
                have c16b0 := eq_true c16
                (try (have c16b9 := c16; simp only [ByteArray.size_append, show (⟨#[40]⟩ : ByteArray).size = 1 from rfl, show (⟨#[41]⟩ : ByteArray).size = 1 from rfl, show (⟨#[32]⟩ : ByteArray).size = 1 from rfl, show (⟨#[59]⟩ : ByteArray).size = 1 from rfl, show (⟨#[226, 134, 144]⟩ : ByteArray).size = 3 from rfl] at c16b9; have c16b6 := eq_false (Nat.not_lt.2 c16b9); replace c16b9 := eq_true c16b9))
                have c16b1 : decide ((x3_3 ++ a0_1).size + 1 ≤ 9223372036854775807) = true := decide_eq_true c16
                try have c16b2 : (9223372036854775807 < (x3_3 ++ a0_1).size + 1) = False := eq_false (Nat.not_lt.2 c16)
                have H' := Aside0.mk H
                clear H
                have hcz17_0 : wc.cell? ⟨gb418, 0, none⟩ = some (.string a0_0) := (blk_cell BK418.out 0).trans rfl
                have hcz17_1 : wc.cell? ⟨gb418, 1, none⟩ = some (.string a0_1) := (blk_cell BK418.out 1).trans rfl
                have hcz17_2 : wc.cell? ⟨gb418, 2, none⟩ = some (.string a0_2) := (blk_cell BK418.out 2).trans rfl
                have hcz17_3 : wc.cell? ⟨gb418, 3, none⟩ = some (.string a0_3) := (blk_cell BK418.out 3).trans rfl
                have hcz17_4 : wc.cell? ⟨gb418, 4, none⟩ = some (.string a0_4) := (blk_cell BK418.out 4).trans rfl
                have hcz17_5 : wc.cell? ⟨gb418, 5, none⟩ = some (.string a0_5) := (blk_cell BK418.out 5).trans rfl
                have hcz17_6 : wc.cell? ⟨gb418, 6, none⟩ = some (.slice A0_6 l0_6.length c0_6) := (blk_cell BK418.out 6).trans rfl
                have hfz17_0 := blk_frozen BK418.out 0
                have hfz17_1 := blk_frozen BK418.out 1
                have hfz17_2 := blk_frozen BK418.out 2
                have hfz17_3 := blk_frozen BK418.out 3
                have hfz17_4 := blk_frozen BK418.out 4
                have hfz17_5 := blk_frozen BK418.out 5
                have hfz17_6 := blk_frozen BK418.out 6
                go_wp2
                go_meet
                case rel => exact ⟨_, ((x3_3 ++ a0_1) ++ (⟨#[32]⟩ : ByteArray)), (by first | rfl | (simp; done) | (simp [*]; done)), H', ⟨by have := HJ3.out; first | omega | exact Nat.le_refl _⟩, ⟨by (with_reducible repeat (first | refine blk_drewN ?_ _ | refine blk_drew ?_ | refine blk_alloc ?_ _)); exact BK418.out⟩, ⟨by repeat (first | (with_reducible first | exact HB.out | apply below_alloc | apply pw_below_drewN | apply below_drew1 | refine below_set ?_ GE418.out) | exact HB.out)⟩⟩
              · rw [if_neg c16] at H
                exact absurd H (by simp)
            · rw [if_neg c15] at H
              exact absurd H (by simp)
        case rest =>
          clear HC12
          try clear c1
          try clear p2
          try clear c3
          try clear c8
          try clear c9
          try clear c9b0
          try clear c9b1
          try clear c10
          try clear c10b0
          try clear c10b1
          try clear c10b2
          try clear c14
          try clear c14b0
          try clear c14b1
          try clear c15
          try clear c15b0
          try clear c15b1
          try clear c15b2
          try clear c16
          try clear c16b0
          try clear c16b1
          try clear c16b2
          try clear hcz11_0
          try clear hcz11_1
          try clear hcz11_2
          try clear hcz11_3
          try clear hcz11_4
          try clear hcz11_5
          try clear hcz11_6
          try clear hcz13_0
          try clear hcz13_1
          try clear hcz13_2
          try clear hcz13_3
          try clear hcz13_4
          try clear hcz13_5
          try clear hcz13_6
          try clear hcz17_0
          try clear hcz17_1
          try clear hcz17_2
          try clear hcz17_3
          try clear hcz17_4
          try clear hcz17_5
          try clear hcz17_6
          try clear hcz6_0
          try clear hcz6_1
          try clear hcz6_2
          try clear hcz6_3
          try clear hcz6_4
          try clear hcz6_5
          try clear hcz6_6
          try clear hcz8_0
          try clear hcz8_1
          try clear hcz8_2
          try clear hcz8_3
          try clear hcz8_4
          try clear hcz8_5
          try clear hcz8_6
          try clear hfz11_0
          try clear hfz11_1
          try clear hfz11_2
          try clear hfz11_3
          try clear hfz11_4
          try clear hfz11_5
          try clear hfz11_6
          try clear hfz13_0
          try clear hfz13_1
          try clear hfz13_2
          try clear hfz13_3
          try clear hfz13_4
          try clear hfz13_5
          try clear hfz13_6
          try clear hfz17_0
          try clear hfz17_1
          try clear hfz17_2
          try clear hfz17_3
          try clear hfz17_4
          try clear hfz17_5
          try clear hfz17_6
          try clear hfz6_0
          try clear hfz6_1
          try clear hfz6_2
          try clear hfz6_3
          try clear hfz6_4
          try clear hfz6_5
          try clear hfz6_6
          try clear hfz8_0
          try clear hfz8_1
          try clear hfz8_2
          try clear hfz8_3
          try clear hfz8_4
          try clear hfz8_5
          try clear hfz8_6
          try clear p2
          obtain ⟨kq, x3_11, rfl, HA, HJ11, BK418, HB⟩ := hcut
          cases kq with
          | zero => exact absurd HA.out (by simp [deckleref15_Text.j1])
          | succ kj11 =>
            have H := HA.out
            clear HA
            simp only [deckleref15_Text.j1] at H
            have HC18 := Aside0.mk H
            clear H
            go_upto_block 0 with (fail)
            go_cut [3] (fun v3 wc => ∃ (kq : Nat) (x3_17 : ByteArray), v3 = .string x3_17 ∧ Aside0 (deckleref15_Text.j2 kq x3_17 a0_0 a0_1 a0_2 a0_3 a0_4 a0_5 l0_6 = some r) ∧ Aside0 (kq ≤ kj11) ∧ Aside0 (wc.heap[gb418]? = some (.cells #[.string a0_0, .string a0_1, .string a0_2, .string a0_3, .string a0_4, .string a0_5, (.slice A0_6 l0_6.length c0_6)] 42 (0, 0))) ∧ Aside0 (Below w.heap.size w wc))
            case first =>
              have H := HC18.out
              clear HC18
              by_cases c19 : a0_4.toList = ([] : List UInt8)
              · rw [if_pos c19] at H
                have c19b0 : (a0_4.toList == ([] : List UInt8)) = true := beq_iff_eq.mpr c19
                have c19b1 : (a0_4.toList != ([] : List UInt8)) = false := bne_eq_false_iff_eq.mpr c19
                have c19b7 : a0_4.toList.isEmpty = true := List.isEmpty_iff.2 c19
                have c19b8 : (!a0_4.toList.isEmpty) = false := by rw [c19b7]; rfl
                clear c19
                (first | rw [c19b0] | (simp only [i64_w, i32_w]; rw [c19b0]) | skip)
                (try simp only [c19b8])
                by_cases c20 : x3_11.size + a0_2.size ≤ 9223372036854775807
                · rw [if_pos c20] at H
                  have c20b0 := eq_true c20
                  (try (have c20b9 := c20; simp only [ByteArray.size_append, show (⟨#[40]⟩ : ByteArray).size = 1 from rfl, show (⟨#[41]⟩ : ByteArray).size = 1 from rfl, show (⟨#[32]⟩ : ByteArray).size = 1 from rfl, show (⟨#[59]⟩ : ByteArray).size = 1 from rfl, show (⟨#[226, 134, 144]⟩ : ByteArray).size = 3 from rfl] at c20b9; have c20b6 := eq_false (Nat.not_lt.2 c20b9); replace c20b9 := eq_true c20b9))
                  have c20b1 : decide (x3_11.size + a0_2.size ≤ 9223372036854775807) = true := decide_eq_true c20
                  try have c20b2 : (9223372036854775807 < x3_11.size + a0_2.size) = False := eq_false (Nat.not_lt.2 c20)
                  have H' := Aside0.mk H
                  clear H
                  have hcz21_0 : wc.cell? ⟨gb418, 0, none⟩ = some (.string a0_0) := (blk_cell BK418.out 0).trans rfl
                  have hcz21_1 : wc.cell? ⟨gb418, 1, none⟩ = some (.string a0_1) := (blk_cell BK418.out 1).trans rfl
                  have hcz21_2 : wc.cell? ⟨gb418, 2, none⟩ = some (.string a0_2) := (blk_cell BK418.out 2).trans rfl
                  have hcz21_3 : wc.cell? ⟨gb418, 3, none⟩ = some (.string a0_3) := (blk_cell BK418.out 3).trans rfl
                  have hcz21_4 : wc.cell? ⟨gb418, 4, none⟩ = some (.string a0_4) := (blk_cell BK418.out 4).trans rfl
                  have hcz21_5 : wc.cell? ⟨gb418, 5, none⟩ = some (.string a0_5) := (blk_cell BK418.out 5).trans rfl
                  have hcz21_6 : wc.cell? ⟨gb418, 6, none⟩ = some (.slice A0_6 l0_6.length c0_6) := (blk_cell BK418.out 6).trans rfl
                  have hfz21_0 := blk_frozen BK418.out 0
                  have hfz21_1 := blk_frozen BK418.out 1
                  have hfz21_2 := blk_frozen BK418.out 2
                  have hfz21_3 := blk_frozen BK418.out 3
                  have hfz21_4 := blk_frozen BK418.out 4
                  have hfz21_5 := blk_frozen BK418.out 5
                  have hfz21_6 := blk_frozen BK418.out 6
                  go_wp2
                  go_meet
                  case rel => exact ⟨_, (x3_11 ++ a0_2), (by first | rfl | (simp; done) | (simp [*]; done)), H', ⟨by have := HJ3.out; have := HJ11.out; first | omega | exact Nat.le_refl _⟩, ⟨by (with_reducible repeat (first | refine blk_drewN ?_ _ | refine blk_drew ?_ | refine blk_alloc ?_ _)); exact BK418.out⟩, ⟨by repeat (first | (with_reducible first | exact HB.out | apply below_alloc | apply pw_below_drewN | apply below_drew1 | refine below_set ?_ GE418.out) | exact HB.out)⟩⟩
                · rw [if_neg c20] at H
                  exact absurd H (by simp)
              · rw [if_neg c19] at H
                have c19b0 : (a0_4.toList == ([] : List UInt8)) = false := beq_eq_false_iff_ne.mpr c19
                have c19b1 : (a0_4.toList != ([] : List UInt8)) = true := bne_iff_ne.mpr c19
                have c19b7 : a0_4.toList.isEmpty = false := List.isEmpty_eq_false_iff.2 c19
                have c19b8 : (!a0_4.toList.isEmpty) = true := by rw [c19b7]; rfl
                (first | rw [c19b0] | (simp only [i64_w, i32_w]; rw [c19b0]) | skip)
                (try simp only [c19b8])
                by_cases c22 : a0_5.toList = ([] : List UInt8)
                · rw [if_pos c22] at H
                  have c22b0 : (a0_5.toList == ([] : List UInt8)) = true := beq_iff_eq.mpr c22
                  have c22b1 : (a0_5.toList != ([] : List UInt8)) = false := bne_eq_false_iff_eq.mpr c22
                  have c22b7 : a0_5.toList.isEmpty = true := List.isEmpty_iff.2 c22
                  have c22b8 : (!a0_5.toList.isEmpty) = false := by rw [c22b7]; rfl
                  clear c22
                  by_cases c23 : x3_11.size + 1 ≤ 9223372036854775807
                  · rw [if_pos c23] at H
                    have c23b0 := eq_true c23
                    (try (have c23b9 := c23; simp only [ByteArray.size_append, show (⟨#[40]⟩ : ByteArray).size = 1 from rfl, show (⟨#[41]⟩ : ByteArray).size = 1 from rfl, show (⟨#[32]⟩ : ByteArray).size = 1 from rfl, show (⟨#[59]⟩ : ByteArray).size = 1 from rfl, show (⟨#[226, 134, 144]⟩ : ByteArray).size = 3 from rfl] at c23b9; have c23b6 := eq_false (Nat.not_lt.2 c23b9); replace c23b9 := eq_true c23b9))
                    have c23b1 : decide (x3_11.size + 1 ≤ 9223372036854775807) = true := decide_eq_true c23
                    try have c23b2 : (9223372036854775807 < x3_11.size + 1) = False := eq_false (Nat.not_lt.2 c23)
                    by_cases c24 : (x3_11 ++ (⟨#[40]⟩ : ByteArray)).size + a0_4.size ≤ 9223372036854775807
                    · rw [if_pos c24] at H
                      have c24b0 := eq_true c24
                      (try (have c24b9 := c24; simp only [ByteArray.size_append, show (⟨#[40]⟩ : ByteArray).size = 1 from rfl, show (⟨#[41]⟩ : ByteArray).size = 1 from rfl, show (⟨#[32]⟩ : ByteArray).size = 1 from rfl, show (⟨#[59]⟩ : ByteArray).size = 1 from rfl, show (⟨#[226, 134, 144]⟩ : ByteArray).size = 3 from rfl] at c24b9; have c24b6 := eq_false (Nat.not_lt.2 c24b9); replace c24b9 := eq_true c24b9))
                      have c24b1 : decide ((x3_11 ++ (⟨#[40]⟩ : ByteArray)).size + a0_4.size ≤ 9223372036854775807) = true := decide_eq_true c24
                      try have c24b2 : (9223372036854775807 < (x3_11 ++ (⟨#[40]⟩ : ByteArray)).size + a0_4.size) = False := eq_false (Nat.not_lt.2 c24)
                      by_cases c25 : ((x3_11 ++ (⟨#[40]⟩ : ByteArray)) ++ a0_4).size + 1 ≤ 9223372036854775807
                      · rw [if_pos c25] at H
                        have c25b0 := eq_true c25
                        (try (have c25b9 := c25; simp only [ByteArray.size_append, show (⟨#[40]⟩ : ByteArray).size = 1 from rfl, show (⟨#[41]⟩ : ByteArray).size = 1 from rfl, show (⟨#[32]⟩ : ByteArray).size = 1 from rfl, show (⟨#[59]⟩ : ByteArray).size = 1 from rfl, show (⟨#[226, 134, 144]⟩ : ByteArray).size = 3 from rfl] at c25b9; have c25b6 := eq_false (Nat.not_lt.2 c25b9); replace c25b9 := eq_true c25b9))
                        have c25b1 : decide (((x3_11 ++ (⟨#[40]⟩ : ByteArray)) ++ a0_4).size + 1 ≤ 9223372036854775807) = true := decide_eq_true c25
                        try have c25b2 : (9223372036854775807 < ((x3_11 ++ (⟨#[40]⟩ : ByteArray)) ++ a0_4).size + 1) = False := eq_false (Nat.not_lt.2 c25)
                        by_cases c26 : (((x3_11 ++ (⟨#[40]⟩ : ByteArray)) ++ a0_4) ++ (⟨#[32]⟩ : ByteArray)).size + a0_2.size ≤ 9223372036854775807
                        · rw [if_pos c26] at H
                          have c26b0 := eq_true c26
                          (try (have c26b9 := c26; simp only [ByteArray.size_append, show (⟨#[40]⟩ : ByteArray).size = 1 from rfl, show (⟨#[41]⟩ : ByteArray).size = 1 from rfl, show (⟨#[32]⟩ : ByteArray).size = 1 from rfl, show (⟨#[59]⟩ : ByteArray).size = 1 from rfl, show (⟨#[226, 134, 144]⟩ : ByteArray).size = 3 from rfl] at c26b9; have c26b6 := eq_false (Nat.not_lt.2 c26b9); replace c26b9 := eq_true c26b9))
                          have c26b1 : decide ((((x3_11 ++ (⟨#[40]⟩ : ByteArray)) ++ a0_4) ++ (⟨#[32]⟩ : ByteArray)).size + a0_2.size ≤ 9223372036854775807) = true := decide_eq_true c26
                          try have c26b2 : (9223372036854775807 < (((x3_11 ++ (⟨#[40]⟩ : ByteArray)) ++ a0_4) ++ (⟨#[32]⟩ : ByteArray)).size + a0_2.size) = False := eq_false (Nat.not_lt.2 c26)
                          by_cases c27 : ((((x3_11 ++ (⟨#[40]⟩ : ByteArray)) ++ a0_4) ++ (⟨#[32]⟩ : ByteArray)) ++ a0_2).size + 1 ≤ 9223372036854775807
                          · rw [if_pos c27] at H
                            have c27b0 := eq_true c27
                            (try (have c27b9 := c27; simp only [ByteArray.size_append, show (⟨#[40]⟩ : ByteArray).size = 1 from rfl, show (⟨#[41]⟩ : ByteArray).size = 1 from rfl, show (⟨#[32]⟩ : ByteArray).size = 1 from rfl, show (⟨#[59]⟩ : ByteArray).size = 1 from rfl, show (⟨#[226, 134, 144]⟩ : ByteArray).size = 3 from rfl] at c27b9; have c27b6 := eq_false (Nat.not_lt.2 c27b9); replace c27b9 := eq_true c27b9))
                            have c27b1 : decide (((((x3_11 ++ (⟨#[40]⟩ : ByteArray)) ++ a0_4) ++ (⟨#[32]⟩ : ByteArray)) ++ a0_2).size + 1 ≤ 9223372036854775807) = true := decide_eq_true c27
                            try have c27b2 : (9223372036854775807 < ((((x3_11 ++ (⟨#[40]⟩ : ByteArray)) ++ a0_4) ++ (⟨#[32]⟩ : ByteArray)) ++ a0_2).size + 1) = False := eq_false (Nat.not_lt.2 c27)
                            have H' := Aside0.mk H
                            clear H
                            have hcz28_0 : wc.cell? ⟨gb418, 0, none⟩ = some (.string a0_0) := (blk_cell BK418.out 0).trans rfl
                            have hcz28_1 : wc.cell? ⟨gb418, 1, none⟩ = some (.string a0_1) := (blk_cell BK418.out 1).trans rfl
                            have hcz28_2 : wc.cell? ⟨gb418, 2, none⟩ = some (.string a0_2) := (blk_cell BK418.out 2).trans rfl
                            have hcz28_3 : wc.cell? ⟨gb418, 3, none⟩ = some (.string a0_3) := (blk_cell BK418.out 3).trans rfl
                            have hcz28_4 : wc.cell? ⟨gb418, 4, none⟩ = some (.string a0_4) := (blk_cell BK418.out 4).trans rfl
                            have hcz28_5 : wc.cell? ⟨gb418, 5, none⟩ = some (.string a0_5) := (blk_cell BK418.out 5).trans rfl
                            have hcz28_6 : wc.cell? ⟨gb418, 6, none⟩ = some (.slice A0_6 l0_6.length c0_6) := (blk_cell BK418.out 6).trans rfl
                            have hfz28_0 := blk_frozen BK418.out 0
                            have hfz28_1 := blk_frozen BK418.out 1
                            have hfz28_2 := blk_frozen BK418.out 2
                            have hfz28_3 := blk_frozen BK418.out 3
                            have hfz28_4 := blk_frozen BK418.out 4
                            have hfz28_5 := blk_frozen BK418.out 5
                            have hfz28_6 := blk_frozen BK418.out 6
                            go_wp2
                            go_meet
                            case rel => exact ⟨_, (((((x3_11 ++ (⟨#[40]⟩ : ByteArray)) ++ a0_4) ++ (⟨#[32]⟩ : ByteArray)) ++ a0_2) ++ (⟨#[41]⟩ : ByteArray)), (by first | rfl | (simp; done) | (simp [*]; done)), H', ⟨by have := HJ3.out; have := HJ11.out; first | omega | exact Nat.le_refl _⟩, ⟨by (with_reducible repeat (first | refine blk_drewN ?_ _ | refine blk_drew ?_ | refine blk_alloc ?_ _)); exact BK418.out⟩, ⟨by repeat (first | (with_reducible first | exact HB.out | apply below_alloc | apply pw_below_drewN | apply below_drew1 | refine below_set ?_ GE418.out) | exact HB.out)⟩⟩
                          · rw [if_neg c27] at H
                            exact absurd H (by simp)
                        · rw [if_neg c26] at H
                          exact absurd H (by simp)
                      · rw [if_neg c25] at H
                        exact absurd H (by simp)
                    · rw [if_neg c24] at H
                      exact absurd H (by simp)
                  · rw [if_neg c23] at H
                    exact absurd H (by simp)
                · rw [if_neg c22] at H
                  have c22b0 : (a0_5.toList == ([] : List UInt8)) = false := beq_eq_false_iff_ne.mpr c22
                  have c22b1 : (a0_5.toList != ([] : List UInt8)) = true := bne_iff_ne.mpr c22
                  have c22b7 : a0_5.toList.isEmpty = false := List.isEmpty_eq_false_iff.2 c22
                  have c22b8 : (!a0_5.toList.isEmpty) = true := by rw [c22b7]; rfl
                  by_cases c29 : x3_11.size + 1 ≤ 9223372036854775807
                  · rw [if_pos c29] at H
                    have c29b0 := eq_true c29
                    (try (have c29b9 := c29; simp only [ByteArray.size_append, show (⟨#[40]⟩ : ByteArray).size = 1 from rfl, show (⟨#[41]⟩ : ByteArray).size = 1 from rfl, show (⟨#[32]⟩ : ByteArray).size = 1 from rfl, show (⟨#[59]⟩ : ByteArray).size = 1 from rfl, show (⟨#[226, 134, 144]⟩ : ByteArray).size = 3 from rfl] at c29b9; have c29b6 := eq_false (Nat.not_lt.2 c29b9); replace c29b9 := eq_true c29b9))
                    have c29b1 : decide (x3_11.size + 1 ≤ 9223372036854775807) = true := decide_eq_true c29
                    try have c29b2 : (9223372036854775807 < x3_11.size + 1) = False := eq_false (Nat.not_lt.2 c29)
                    by_cases c30 : (x3_11 ++ (⟨#[40]⟩ : ByteArray)).size + a0_4.size ≤ 9223372036854775807
                    · rw [if_pos c30] at H
                      have c30b0 := eq_true c30
                      (try (have c30b9 := c30; simp only [ByteArray.size_append, show (⟨#[40]⟩ : ByteArray).size = 1 from rfl, show (⟨#[41]⟩ : ByteArray).size = 1 from rfl, show (⟨#[32]⟩ : ByteArray).size = 1 from rfl, show (⟨#[59]⟩ : ByteArray).size = 1 from rfl, show (⟨#[226, 134, 144]⟩ : ByteArray).size = 3 from rfl] at c30b9; have c30b6 := eq_false (Nat.not_lt.2 c30b9); replace c30b9 := eq_true c30b9))
                      have c30b1 : decide ((x3_11 ++ (⟨#[40]⟩ : ByteArray)).size + a0_4.size ≤ 9223372036854775807) = true := decide_eq_true c30
                      try have c30b2 : (9223372036854775807 < (x3_11 ++ (⟨#[40]⟩ : ByteArray)).size + a0_4.size) = False := eq_false (Nat.not_lt.2 c30)
                      by_cases c31 : ((x3_11 ++ (⟨#[40]⟩ : ByteArray)) ++ a0_4).size + 1 ≤ 9223372036854775807
                      · rw [if_pos c31] at H
                        have c31b0 := eq_true c31
                        (try (have c31b9 := c31; simp only [ByteArray.size_append, show (⟨#[40]⟩ : ByteArray).size = 1 from rfl, show (⟨#[41]⟩ : ByteArray).size = 1 from rfl, show (⟨#[32]⟩ : ByteArray).size = 1 from rfl, show (⟨#[59]⟩ : ByteArray).size = 1 from rfl, show (⟨#[226, 134, 144]⟩ : ByteArray).size = 3 from rfl] at c31b9; have c31b6 := eq_false (Nat.not_lt.2 c31b9); replace c31b9 := eq_true c31b9))
                        have c31b1 : decide (((x3_11 ++ (⟨#[40]⟩ : ByteArray)) ++ a0_4).size + 1 ≤ 9223372036854775807) = true := decide_eq_true c31
                        try have c31b2 : (9223372036854775807 < ((x3_11 ++ (⟨#[40]⟩ : ByteArray)) ++ a0_4).size + 1) = False := eq_false (Nat.not_lt.2 c31)
                        by_cases c32 : (((x3_11 ++ (⟨#[40]⟩ : ByteArray)) ++ a0_4) ++ (⟨#[32]⟩ : ByteArray)).size + a0_2.size ≤ 9223372036854775807
                        · rw [if_pos c32] at H
                          have c32b0 := eq_true c32
                          (try (have c32b9 := c32; simp only [ByteArray.size_append, show (⟨#[40]⟩ : ByteArray).size = 1 from rfl, show (⟨#[41]⟩ : ByteArray).size = 1 from rfl, show (⟨#[32]⟩ : ByteArray).size = 1 from rfl, show (⟨#[59]⟩ : ByteArray).size = 1 from rfl, show (⟨#[226, 134, 144]⟩ : ByteArray).size = 3 from rfl] at c32b9; have c32b6 := eq_false (Nat.not_lt.2 c32b9); replace c32b9 := eq_true c32b9))
                          have c32b1 : decide ((((x3_11 ++ (⟨#[40]⟩ : ByteArray)) ++ a0_4) ++ (⟨#[32]⟩ : ByteArray)).size + a0_2.size ≤ 9223372036854775807) = true := decide_eq_true c32
                          try have c32b2 : (9223372036854775807 < (((x3_11 ++ (⟨#[40]⟩ : ByteArray)) ++ a0_4) ++ (⟨#[32]⟩ : ByteArray)).size + a0_2.size) = False := eq_false (Nat.not_lt.2 c32)
                          by_cases c33 : ((((x3_11 ++ (⟨#[40]⟩ : ByteArray)) ++ a0_4) ++ (⟨#[32]⟩ : ByteArray)) ++ a0_2).size + 1 ≤ 9223372036854775807
                          · rw [if_pos c33] at H
                            have c33b0 := eq_true c33
                            (try (have c33b9 := c33; simp only [ByteArray.size_append, show (⟨#[40]⟩ : ByteArray).size = 1 from rfl, show (⟨#[41]⟩ : ByteArray).size = 1 from rfl, show (⟨#[32]⟩ : ByteArray).size = 1 from rfl, show (⟨#[59]⟩ : ByteArray).size = 1 from rfl, show (⟨#[226, 134, 144]⟩ : ByteArray).size = 3 from rfl] at c33b9; have c33b6 := eq_false (Nat.not_lt.2 c33b9); replace c33b9 := eq_true c33b9))
                            have c33b1 : decide (((((x3_11 ++ (⟨#[40]⟩ : ByteArray)) ++ a0_4) ++ (⟨#[32]⟩ : ByteArray)) ++ a0_2).size + 1 ≤ 9223372036854775807) = true := decide_eq_true c33
                            try have c33b2 : (9223372036854775807 < ((((x3_11 ++ (⟨#[40]⟩ : ByteArray)) ++ a0_4) ++ (⟨#[32]⟩ : ByteArray)) ++ a0_2).size + 1) = False := eq_false (Nat.not_lt.2 c33)
                            by_cases c34 : (((((x3_11 ++ (⟨#[40]⟩ : ByteArray)) ++ a0_4) ++ (⟨#[32]⟩ : ByteArray)) ++ a0_2) ++ (⟨#[32]⟩ : ByteArray)).size + a0_5.size ≤ 9223372036854775807
                            · rw [if_pos c34] at H
                              have c34b0 := eq_true c34
                              (try (have c34b9 := c34; simp only [ByteArray.size_append, show (⟨#[40]⟩ : ByteArray).size = 1 from rfl, show (⟨#[41]⟩ : ByteArray).size = 1 from rfl, show (⟨#[32]⟩ : ByteArray).size = 1 from rfl, show (⟨#[59]⟩ : ByteArray).size = 1 from rfl, show (⟨#[226, 134, 144]⟩ : ByteArray).size = 3 from rfl] at c34b9; have c34b6 := eq_false (Nat.not_lt.2 c34b9); replace c34b9 := eq_true c34b9))
                              have c34b1 : decide ((((((x3_11 ++ (⟨#[40]⟩ : ByteArray)) ++ a0_4) ++ (⟨#[32]⟩ : ByteArray)) ++ a0_2) ++ (⟨#[32]⟩ : ByteArray)).size + a0_5.size ≤ 9223372036854775807) = true := decide_eq_true c34
                              try have c34b2 : (9223372036854775807 < (((((x3_11 ++ (⟨#[40]⟩ : ByteArray)) ++ a0_4) ++ (⟨#[32]⟩ : ByteArray)) ++ a0_2) ++ (⟨#[32]⟩ : ByteArray)).size + a0_5.size) = False := eq_false (Nat.not_lt.2 c34)
                              by_cases c35 : ((((((x3_11 ++ (⟨#[40]⟩ : ByteArray)) ++ a0_4) ++ (⟨#[32]⟩ : ByteArray)) ++ a0_2) ++ (⟨#[32]⟩ : ByteArray)) ++ a0_5).size + 1 ≤ 9223372036854775807
                              · rw [if_pos c35] at H
                                have c35b0 := eq_true c35
                                (try (have c35b9 := c35; simp only [ByteArray.size_append, show (⟨#[40]⟩ : ByteArray).size = 1 from rfl, show (⟨#[41]⟩ : ByteArray).size = 1 from rfl, show (⟨#[32]⟩ : ByteArray).size = 1 from rfl, show (⟨#[59]⟩ : ByteArray).size = 1 from rfl, show (⟨#[226, 134, 144]⟩ : ByteArray).size = 3 from rfl] at c35b9; have c35b6 := eq_false (Nat.not_lt.2 c35b9); replace c35b9 := eq_true c35b9))
                                have c35b1 : decide (((((((x3_11 ++ (⟨#[40]⟩ : ByteArray)) ++ a0_4) ++ (⟨#[32]⟩ : ByteArray)) ++ a0_2) ++ (⟨#[32]⟩ : ByteArray)) ++ a0_5).size + 1 ≤ 9223372036854775807) = true := decide_eq_true c35
                                try have c35b2 : (9223372036854775807 < ((((((x3_11 ++ (⟨#[40]⟩ : ByteArray)) ++ a0_4) ++ (⟨#[32]⟩ : ByteArray)) ++ a0_2) ++ (⟨#[32]⟩ : ByteArray)) ++ a0_5).size + 1) = False := eq_false (Nat.not_lt.2 c35)
                                have H' := Aside0.mk H
                                clear H
                                have hcz36_0 : wc.cell? ⟨gb418, 0, none⟩ = some (.string a0_0) := (blk_cell BK418.out 0).trans rfl
                                have hcz36_1 : wc.cell? ⟨gb418, 1, none⟩ = some (.string a0_1) := (blk_cell BK418.out 1).trans rfl
                                have hcz36_2 : wc.cell? ⟨gb418, 2, none⟩ = some (.string a0_2) := (blk_cell BK418.out 2).trans rfl
                                have hcz36_3 : wc.cell? ⟨gb418, 3, none⟩ = some (.string a0_3) := (blk_cell BK418.out 3).trans rfl
                                have hcz36_4 : wc.cell? ⟨gb418, 4, none⟩ = some (.string a0_4) := (blk_cell BK418.out 4).trans rfl
                                have hcz36_5 : wc.cell? ⟨gb418, 5, none⟩ = some (.string a0_5) := (blk_cell BK418.out 5).trans rfl
                                have hcz36_6 : wc.cell? ⟨gb418, 6, none⟩ = some (.slice A0_6 l0_6.length c0_6) := (blk_cell BK418.out 6).trans rfl
                                have hfz36_0 := blk_frozen BK418.out 0
                                have hfz36_1 := blk_frozen BK418.out 1
                                have hfz36_2 := blk_frozen BK418.out 2
                                have hfz36_3 := blk_frozen BK418.out 3
                                have hfz36_4 := blk_frozen BK418.out 4
                                have hfz36_5 := blk_frozen BK418.out 5
                                have hfz36_6 := blk_frozen BK418.out 6
                                go_wp2
                                go_meet
                                case rel => exact ⟨_, (((((((x3_11 ++ (⟨#[40]⟩ : ByteArray)) ++ a0_4) ++ (⟨#[32]⟩ : ByteArray)) ++ a0_2) ++ (⟨#[32]⟩ : ByteArray)) ++ a0_5) ++ (⟨#[41]⟩ : ByteArray)), (by first | rfl | (simp; done) | (simp [*]; done)), H', ⟨by have := HJ3.out; have := HJ11.out; first | omega | exact Nat.le_refl _⟩, ⟨by (with_reducible repeat (first | refine blk_drewN ?_ _ | refine blk_drew ?_ | refine blk_alloc ?_ _)); exact BK418.out⟩, ⟨by repeat (first | (with_reducible first | exact HB.out | apply below_alloc | apply pw_below_drewN | apply below_drew1 | refine below_set ?_ GE418.out) | exact HB.out)⟩⟩
                              · rw [if_neg c35] at H
                                exact absurd H (by simp)
                            · rw [if_neg c34] at H
                              exact absurd H (by simp)
                          · rw [if_neg c33] at H
                            exact absurd H (by simp)
                        · rw [if_neg c32] at H
                          exact absurd H (by simp)
                      · rw [if_neg c31] at H
                        exact absurd H (by simp)
                    · rw [if_neg c30] at H
                      exact absurd H (by simp)
                  · rw [if_neg c29] at H
                    exact absurd H (by simp)
            case rest =>
              clear HC18
              try clear c1
              try clear c2
              try clear p2
              try clear c3
              try clear c8
              try clear c9
              try clear c9b0
              try clear c9b1
              try clear c10
              try clear c10b0
              try clear c10b1
              try clear c10b2
              try clear c14
              try clear c14b0
              try clear c14b1
              try clear c15
              try clear c15b0
              try clear c15b1
              try clear c15b2
              try clear c16
              try clear c16b0
              try clear c16b1
              try clear c16b2
              try clear c19
              try clear c19b0
              try clear c19b1
              try clear c20
              try clear c20b0
              try clear c20b1
              try clear c20b2
              try clear c22
              try clear c22b0
              try clear c22b1
              try clear c23
              try clear c23b0
              try clear c23b1
              try clear c23b2
              try clear c24
              try clear c24b0
              try clear c24b1
              try clear c24b2
              try clear c25
              try clear c25b0
              try clear c25b1
              try clear c25b2
              try clear c26
              try clear c26b0
              try clear c26b1
              try clear c26b2
              try clear c27
              try clear c27b0
              try clear c27b1
              try clear c27b2
              try clear c29
              try clear c29b0
              try clear c29b1
              try clear c29b2
              try clear c30
              try clear c30b0
              try clear c30b1
              try clear c30b2
              try clear c31
              try clear c31b0
              try clear c31b1
              try clear c31b2
              try clear c32
              try clear c32b0
              try clear c32b1
              try clear c32b2
              try clear c33
              try clear c33b0
              try clear c33b1
              try clear c33b2
              try clear c34
              try clear c34b0
              try clear c34b1
              try clear c34b2
              try clear c35
              try clear c35b0
              try clear c35b1
              try clear c35b2
              try clear hcz11_0
              try clear hcz11_1
              try clear hcz11_2
              try clear hcz11_3
              try clear hcz11_4
              try clear hcz11_5
              try clear hcz11_6
              try clear hcz13_0
              try clear hcz13_1
              try clear hcz13_2
              try clear hcz13_3
              try clear hcz13_4
              try clear hcz13_5
              try clear hcz13_6
              try clear hcz17_0
              try clear hcz17_1
              try clear hcz17_2
              try clear hcz17_3
              try clear hcz17_4
              try clear hcz17_5
              try clear hcz17_6
              try clear hcz21_0
              try clear hcz21_1
              try clear hcz21_2
              try clear hcz21_3
              try clear hcz21_4
              try clear hcz21_5
              try clear hcz21_6
              try clear hcz28_0
              try clear hcz28_1
              try clear hcz28_2
              try clear hcz28_3
              try clear hcz28_4
              try clear hcz28_5
              try clear hcz28_6
              try clear hcz36_0
              try clear hcz36_1
              try clear hcz36_2
              try clear hcz36_3
              try clear hcz36_4
              try clear hcz36_5
              try clear hcz36_6
              try clear hcz6_0
              try clear hcz6_1
              try clear hcz6_2
              try clear hcz6_3
              try clear hcz6_4
              try clear hcz6_5
              try clear hcz6_6
              try clear hcz8_0
              try clear hcz8_1
              try clear hcz8_2
              try clear hcz8_3
              try clear hcz8_4
              try clear hcz8_5
              try clear hcz8_6
              try clear hfz11_0
              try clear hfz11_1
              try clear hfz11_2
              try clear hfz11_3
              try clear hfz11_4
              try clear hfz11_5
              try clear hfz11_6
              try clear hfz13_0
              try clear hfz13_1
              try clear hfz13_2
              try clear hfz13_3
              try clear hfz13_4
              try clear hfz13_5
              try clear hfz13_6
              try clear hfz17_0
              try clear hfz17_1
              try clear hfz17_2
              try clear hfz17_3
              try clear hfz17_4
              try clear hfz17_5
              try clear hfz17_6
              try clear hfz21_0
              try clear hfz21_1
              try clear hfz21_2
              try clear hfz21_3
              try clear hfz21_4
              try clear hfz21_5
              try clear hfz21_6
              try clear hfz28_0
              try clear hfz28_1
              try clear hfz28_2
              try clear hfz28_3
              try clear hfz28_4
              try clear hfz28_5
              try clear hfz28_6
              try clear hfz36_0
              try clear hfz36_1
              try clear hfz36_2
              try clear hfz36_3
              try clear hfz36_4
              try clear hfz36_5
              try clear hfz36_6
              try clear hfz6_0
              try clear hfz6_1
              try clear hfz6_2
              try clear hfz6_3
              try clear hfz6_4
              try clear hfz6_5
              try clear hfz6_6
              try clear hfz8_0
              try clear hfz8_1
              try clear hfz8_2
              try clear hfz8_3
              try clear hfz8_4
              try clear hfz8_5
              try clear hfz8_6
              try clear p2
              obtain ⟨kq, x3_17, rfl, HA, HJ17, BK418, HB⟩ := hcut
              cases kq with
              | zero => exact absurd HA.out (by simp [deckleref15_Text.j2])
              | succ kj17 =>
                have H := HA.out
                clear HA
                simp only [deckleref15_Text.j2] at H
                have HC37 := Aside0.mk H
                clear H
                have hcz38_0 : wc.cell? ⟨gb418, 0, none⟩ = some (.string a0_0) := (blk_cell BK418.out 0).trans rfl
                have hcz38_1 : wc.cell? ⟨gb418, 1, none⟩ = some (.string a0_1) := (blk_cell BK418.out 1).trans rfl
                have hcz38_2 : wc.cell? ⟨gb418, 2, none⟩ = some (.string a0_2) := (blk_cell BK418.out 2).trans rfl
                have hcz38_3 : wc.cell? ⟨gb418, 3, none⟩ = some (.string a0_3) := (blk_cell BK418.out 3).trans rfl
                have hcz38_4 : wc.cell? ⟨gb418, 4, none⟩ = some (.string a0_4) := (blk_cell BK418.out 4).trans rfl
                have hcz38_5 : wc.cell? ⟨gb418, 5, none⟩ = some (.string a0_5) := (blk_cell BK418.out 5).trans rfl
                have hcz38_6 : wc.cell? ⟨gb418, 6, none⟩ = some (.slice A0_6 l0_6.length c0_6) := (blk_cell BK418.out 6).trans rfl
                have hfz38_0 := blk_frozen BK418.out 0
                have hfz38_1 := blk_frozen BK418.out 1
                have hfz38_2 := blk_frozen BK418.out 2
                have hfz38_3 := blk_frozen BK418.out 3
                have hfz38_4 := blk_frozen BK418.out 4
                have hfz38_5 := blk_frozen BK418.out 5
                have hfz38_6 := blk_frozen BK418.out 6
                go_upto_if 60 with (fail)
                go_cut [3] (fun v3 wc => ∃ (kq : Nat) (x3_36 : ByteArray), v3 = .string x3_36 ∧ Aside0 (deckleref15_Text.j3 kq x3_36 a0_0 a0_1 a0_2 a0_3 a0_4 a0_5 l0_6 = some r) ∧ Aside0 (kq ≤ kj17) ∧ Aside0 (wc.heap[gb418]? = some (.cells #[.string a0_0, .string a0_1, .string a0_2, .string a0_3, .string a0_4, .string a0_5, (.slice A0_6 l0_6.length c0_6)] 42 (0, 0))) ∧ Aside0 (Below w.heap.size w wc))
                case first =>
                  have H := HC37.out
                  clear HC37
                  by_cases c39 : a0_3.toList = ([] : List UInt8)
                  · rw [if_pos c39] at H
                    have c39b0 : (a0_3.toList == ([] : List UInt8)) = true := beq_iff_eq.mpr c39
                    have c39b1 : (a0_3.toList != ([] : List UInt8)) = false := bne_eq_false_iff_eq.mpr c39
                    have c39b7 : a0_3.toList.isEmpty = true := List.isEmpty_iff.2 c39
                    have c39b8 : (!a0_3.toList.isEmpty) = false := by rw [c39b7]; rfl
                    clear c39
                    (first | rw [c39b0] | (simp only [i64_w, i32_w]; rw [c39b0]) | skip)
                    (try simp only [c39b8])
                    have H' := Aside0.mk H
                    clear H
                    go_wp2
                    go_meet
                    case rel => exact ⟨_, (x3_17), (by first | rfl | (simp; done) | (simp [*]; done)), H', ⟨by have := HJ3.out; have := HJ11.out; have := HJ17.out; first | omega | exact Nat.le_refl _⟩, ⟨by (with_reducible repeat (first | refine blk_drewN ?_ _ | refine blk_drew ?_ | refine blk_alloc ?_ _)); exact BK418.out⟩, ⟨by repeat (first | (with_reducible first | exact HB.out | apply below_alloc | apply pw_below_drewN | apply below_drew1 | refine below_set ?_ GE418.out) | exact HB.out)⟩⟩
                  · rw [if_neg c39] at H
                    have c39b0 : (a0_3.toList == ([] : List UInt8)) = false := beq_eq_false_iff_ne.mpr c39
                    have c39b1 : (a0_3.toList != ([] : List UInt8)) = true := bne_iff_ne.mpr c39
                    have c39b7 : a0_3.toList.isEmpty = false := List.isEmpty_eq_false_iff.2 c39
                    have c39b8 : (!a0_3.toList.isEmpty) = true := by rw [c39b7]; rfl
                    (first | rw [c39b0] | (simp only [i64_w, i32_w]; rw [c39b0]) | skip)
                    (try simp only [c39b8])
                    by_cases c40 : x3_17.size + 1 ≤ 9223372036854775807
                    · rw [if_pos c40] at H
                      have c40b0 := eq_true c40
                      (try (have c40b9 := c40; simp only [ByteArray.size_append, show (⟨#[40]⟩ : ByteArray).size = 1 from rfl, show (⟨#[41]⟩ : ByteArray).size = 1 from rfl, show (⟨#[32]⟩ : ByteArray).size = 1 from rfl, show (⟨#[59]⟩ : ByteArray).size = 1 from rfl, show (⟨#[226, 134, 144]⟩ : ByteArray).size = 3 from rfl] at c40b9; have c40b6 := eq_false (Nat.not_lt.2 c40b9); replace c40b9 := eq_true c40b9))
                      have c40b1 : decide (x3_17.size + 1 ≤ 9223372036854775807) = true := decide_eq_true c40
                      try have c40b2 : (9223372036854775807 < x3_17.size + 1) = False := eq_false (Nat.not_lt.2 c40)
                      by_cases c41 : (x3_17 ++ (⟨#[32]⟩ : ByteArray)).size + a0_3.size ≤ 9223372036854775807
                      · rw [if_pos c41] at H
                        have c41b0 := eq_true c41
                        (try (have c41b9 := c41; simp only [ByteArray.size_append, show (⟨#[40]⟩ : ByteArray).size = 1 from rfl, show (⟨#[41]⟩ : ByteArray).size = 1 from rfl, show (⟨#[32]⟩ : ByteArray).size = 1 from rfl, show (⟨#[59]⟩ : ByteArray).size = 1 from rfl, show (⟨#[226, 134, 144]⟩ : ByteArray).size = 3 from rfl] at c41b9; have c41b6 := eq_false (Nat.not_lt.2 c41b9); replace c41b9 := eq_true c41b9))
                        have c41b1 : decide ((x3_17 ++ (⟨#[32]⟩ : ByteArray)).size + a0_3.size ≤ 9223372036854775807) = true := decide_eq_true c41
                        try have c41b2 : (9223372036854775807 < (x3_17 ++ (⟨#[32]⟩ : ByteArray)).size + a0_3.size) = False := eq_false (Nat.not_lt.2 c41)
                        have H' := Aside0.mk H
                        clear H
                        have hcz42_0 : wc.cell? ⟨gb418, 0, none⟩ = some (.string a0_0) := (blk_cell BK418.out 0).trans rfl
                        have hcz42_1 : wc.cell? ⟨gb418, 1, none⟩ = some (.string a0_1) := (blk_cell BK418.out 1).trans rfl
                        have hcz42_2 : wc.cell? ⟨gb418, 2, none⟩ = some (.string a0_2) := (blk_cell BK418.out 2).trans rfl
                        have hcz42_3 : wc.cell? ⟨gb418, 3, none⟩ = some (.string a0_3) := (blk_cell BK418.out 3).trans rfl
                        have hcz42_4 : wc.cell? ⟨gb418, 4, none⟩ = some (.string a0_4) := (blk_cell BK418.out 4).trans rfl
                        have hcz42_5 : wc.cell? ⟨gb418, 5, none⟩ = some (.string a0_5) := (blk_cell BK418.out 5).trans rfl
                        have hcz42_6 : wc.cell? ⟨gb418, 6, none⟩ = some (.slice A0_6 l0_6.length c0_6) := (blk_cell BK418.out 6).trans rfl
                        have hfz42_0 := blk_frozen BK418.out 0
                        have hfz42_1 := blk_frozen BK418.out 1
                        have hfz42_2 := blk_frozen BK418.out 2
                        have hfz42_3 := blk_frozen BK418.out 3
                        have hfz42_4 := blk_frozen BK418.out 4
                        have hfz42_5 := blk_frozen BK418.out 5
                        have hfz42_6 := blk_frozen BK418.out 6
                        go_wp2
                        go_meet
                        case rel => exact ⟨_, ((x3_17 ++ (⟨#[32]⟩ : ByteArray)) ++ a0_3), (by first | rfl | (simp; done) | (simp [*]; done)), H', ⟨by have := HJ3.out; have := HJ11.out; have := HJ17.out; first | omega | exact Nat.le_refl _⟩, ⟨by (with_reducible repeat (first | refine blk_drewN ?_ _ | refine blk_drew ?_ | refine blk_alloc ?_ _)); exact BK418.out⟩, ⟨by repeat (first | (with_reducible first | exact HB.out | apply below_alloc | apply pw_below_drewN | apply below_drew1 | refine below_set ?_ GE418.out) | exact HB.out)⟩⟩
                      · rw [if_neg c41] at H
                        exact absurd H (by simp)
                    · rw [if_neg c40] at H
                      exact absurd H (by simp)
                case rest =>
                  clear HC37
                  try clear c1
                  try clear c2
                  try clear p2
                  try clear c3
                  try clear c4
                  try clear c8
                  try clear c9
                  try clear c9b0
                  try clear c9b1
                  try clear c10
                  try clear c10b0
                  try clear c10b1
                  try clear c10b2
                  try clear c14
                  try clear c14b0
                  try clear c14b1
                  try clear c15
                  try clear c15b0
                  try clear c15b1
                  try clear c15b2
                  try clear c16
                  try clear c16b0
                  try clear c16b1
                  try clear c16b2
                  try clear c19
                  try clear c19b0
                  try clear c19b1
                  try clear c20
                  try clear c20b0
                  try clear c20b1
                  try clear c20b2
                  try clear c22
                  try clear c22b0
                  try clear c22b1
                  try clear c23
                  try clear c23b0
                  try clear c23b1
                  try clear c23b2
                  try clear c24
                  try clear c24b0
                  try clear c24b1
                  try clear c24b2
                  try clear c25
                  try clear c25b0
                  try clear c25b1
                  try clear c25b2
                  try clear c26
                  try clear c26b0
                  try clear c26b1
                  try clear c26b2
                  try clear c27
                  try clear c27b0
                  try clear c27b1
                  try clear c27b2
                  try clear c29
                  try clear c29b0
                  try clear c29b1
                  try clear c29b2
                  try clear c30
                  try clear c30b0
                  try clear c30b1
                  try clear c30b2
                  try clear c31
                  try clear c31b0
                  try clear c31b1
                  try clear c31b2
                  try clear c32
                  try clear c32b0
                  try clear c32b1
                  try clear c32b2
                  try clear c33
                  try clear c33b0
                  try clear c33b1
                  try clear c33b2
                  try clear c34
                  try clear c34b0
                  try clear c34b1
                  try clear c34b2
                  try clear c35
                  try clear c35b0
                  try clear c35b1
                  try clear c35b2
                  try clear c39
                  try clear c39b0
                  try clear c39b1
                  try clear c40
                  try clear c40b0
                  try clear c40b1
                  try clear c40b2
                  try clear c41
                  try clear c41b0
                  try clear c41b1
                  try clear c41b2
                  try clear hcz11_0
                  try clear hcz11_1
                  try clear hcz11_2
                  try clear hcz11_3
                  try clear hcz11_4
                  try clear hcz11_5
                  try clear hcz11_6
                  try clear hcz13_0
                  try clear hcz13_1
                  try clear hcz13_2
                  try clear hcz13_3
                  try clear hcz13_4
                  try clear hcz13_5
                  try clear hcz13_6
                  try clear hcz17_0
                  try clear hcz17_1
                  try clear hcz17_2
                  try clear hcz17_3
                  try clear hcz17_4
                  try clear hcz17_5
                  try clear hcz17_6
                  try clear hcz21_0
                  try clear hcz21_1
                  try clear hcz21_2
                  try clear hcz21_3
                  try clear hcz21_4
                  try clear hcz21_5
                  try clear hcz21_6
                  try clear hcz28_0
                  try clear hcz28_1
                  try clear hcz28_2
                  try clear hcz28_3
                  try clear hcz28_4
                  try clear hcz28_5
                  try clear hcz28_6
                  try clear hcz36_0
                  try clear hcz36_1
                  try clear hcz36_2
                  try clear hcz36_3
                  try clear hcz36_4
                  try clear hcz36_5
                  try clear hcz36_6
                  try clear hcz38_0
                  try clear hcz38_1
                  try clear hcz38_2
                  try clear hcz38_3
                  try clear hcz38_4
                  try clear hcz38_5
                  try clear hcz38_6
                  try clear hcz42_0
                  try clear hcz42_1
                  try clear hcz42_2
                  try clear hcz42_3
                  try clear hcz42_4
                  try clear hcz42_5
                  try clear hcz42_6
                  try clear hcz6_0
                  try clear hcz6_1
                  try clear hcz6_2
                  try clear hcz6_3
                  try clear hcz6_4
                  try clear hcz6_5
                  try clear hcz6_6
                  try clear hcz8_0
                  try clear hcz8_1
                  try clear hcz8_2
                  try clear hcz8_3
                  try clear hcz8_4
                  try clear hcz8_5
                  try clear hcz8_6
                  try clear hfz11_0
                  try clear hfz11_1
                  try clear hfz11_2
                  try clear hfz11_3
                  try clear hfz11_4
                  try clear hfz11_5
                  try clear hfz11_6
                  try clear hfz13_0
                  try clear hfz13_1
                  try clear hfz13_2
                  try clear hfz13_3
                  try clear hfz13_4
                  try clear hfz13_5
                  try clear hfz13_6
                  try clear hfz17_0
                  try clear hfz17_1
                  try clear hfz17_2
                  try clear hfz17_3
                  try clear hfz17_4
                  try clear hfz17_5
                  try clear hfz17_6
                  try clear hfz21_0
                  try clear hfz21_1
                  try clear hfz21_2
                  try clear hfz21_3
                  try clear hfz21_4
                  try clear hfz21_5
                  try clear hfz21_6
                  try clear hfz28_0
                  try clear hfz28_1
                  try clear hfz28_2
                  try clear hfz28_3
                  try clear hfz28_4
                  try clear hfz28_5
                  try clear hfz28_6
                  try clear hfz36_0
                  try clear hfz36_1
                  try clear hfz36_2
                  try clear hfz36_3
                  try clear hfz36_4
                  try clear hfz36_5
                  try clear hfz36_6
                  try clear hfz38_0
                  try clear hfz38_1
                  try clear hfz38_2
                  try clear hfz38_3
                  try clear hfz38_4
                  try clear hfz38_5
                  try clear hfz38_6
                  try clear hfz42_0
                  try clear hfz42_1
                  try clear hfz42_2
                  try clear hfz42_3
                  try clear hfz42_4
                  try clear hfz42_5
                  try clear hfz42_6
                  try clear hfz6_0
                  try clear hfz6_1
                  try clear hfz6_2
                  try clear hfz6_3
                  try clear hfz6_4
                  try clear hfz6_5
                  try clear hfz6_6
                  try clear hfz8_0
                  try clear hfz8_1
                  try clear hfz8_2
                  try clear hfz8_3
                  try clear hfz8_4
                  try clear hfz8_5
                  try clear hfz8_6
                  try clear p2
                  obtain ⟨kq, x3_36, rfl, HA, HJ36, BK418, HB⟩ := hcut
                  cases kq with
                  | zero => exact absurd HA.out (by simp [deckleref15_Text.j3])
                  | succ kj36 =>
                    have H := HA.out
                    clear HA
                    simp only [deckleref15_Text.j3] at H
                    have H' := Aside0.mk H
                    clear H
                    go_wp2
                    go_loopg [3, 4] kj36 (fun kq v3 v4 w' => ∃ (x3_5 : ByteArray) (x4_5 : Int), v3 = .string x3_5 ∧ v4 = .int .i64 x4_5 ∧ Aside0 (deckleref15_Text.l0 kq x3_5 x4_5 a0_0 a0_1 a0_2 a0_3 a0_4 a0_5 l0_6 = some r) ∧ Aside0 (kq ≤ kj36) ∧ Aside0 (w'.heap[gb418]? = some (.cells #[.string a0_0, .string a0_1, .string a0_2, .string a0_3, .string a0_4, .string a0_5, (.slice A0_6 l0_6.length c0_6)] 42 (0, 0))) ∧ Aside0 (Below w.heap.size w w'))
                    case atStart => exact ⟨(x3_36), (0), (by first | rfl | (simp; done) | (simp [*]; done)), (by first | rfl | (simp; done) | (simp [*]; done)), H', ⟨Nat.le_refl _⟩, ⟨by (with_reducible repeat (first | refine blk_drewN ?_ _ | refine blk_drew ?_ | refine blk_alloc ?_ _)); exact BK418.out⟩, ⟨by repeat (first | (with_reducible first | exact HB.out | apply below_alloc | apply pw_below_drewN | apply below_drew1 | refine below_set ?_ GE418.out) | exact HB.out)⟩⟩
                    case round =>
                      clear H'
                      try clear c1
                      try clear c2
                      try clear p2
                      try clear c3
                      try clear c4
                      try clear c8
                      try clear c9
                      try clear c9b0
                      try clear c9b1
                      try clear c10
                      try clear c10b0
                      try clear c10b1
                      try clear c10b2
                      try clear c14
                      try clear c14b0
                      try clear c14b1
                      try clear c15
                      try clear c15b0
                      try clear c15b1
                      try clear c15b2
                      try clear c16
                      try clear c16b0
                      try clear c16b1
                      try clear c16b2
                      try clear c19
                      try clear c19b0
                      try clear c19b1
                      try clear c20
                      try clear c20b0
                      try clear c20b1
                      try clear c20b2
                      try clear c22
                      try clear c22b0
                      try clear c22b1
                      try clear c23
                      try clear c23b0
                      try clear c23b1
                      try clear c23b2
                      try clear c24
                      try clear c24b0
                      try clear c24b1
                      try clear c24b2
                      try clear c25
                      try clear c25b0
                      try clear c25b1
                      try clear c25b2
                      try clear c26
                      try clear c26b0
                      try clear c26b1
                      try clear c26b2
                      try clear c27
                      try clear c27b0
                      try clear c27b1
                      try clear c27b2
                      try clear c29
                      try clear c29b0
                      try clear c29b1
                      try clear c29b2
                      try clear c30
                      try clear c30b0
                      try clear c30b1
                      try clear c30b2
                      try clear c31
                      try clear c31b0
                      try clear c31b1
                      try clear c31b2
                      try clear c32
                      try clear c32b0
                      try clear c32b1
                      try clear c32b2
                      try clear c33
                      try clear c33b0
                      try clear c33b1
                      try clear c33b2
                      try clear c34
                      try clear c34b0
                      try clear c34b1
                      try clear c34b2
                      try clear c35
                      try clear c35b0
                      try clear c35b1
                      try clear c35b2
                      try clear c39
                      try clear c39b0
                      try clear c39b1
                      try clear c40
                      try clear c40b0
                      try clear c40b1
                      try clear c40b2
                      try clear c41
                      try clear c41b0
                      try clear c41b1
                      try clear c41b2
                      try clear hcz11_0
                      try clear hcz11_1
                      try clear hcz11_2
                      try clear hcz11_3
                      try clear hcz11_4
                      try clear hcz11_5
                      try clear hcz11_6
                      try clear hcz13_0
                      try clear hcz13_1
                      try clear hcz13_2
                      try clear hcz13_3
                      try clear hcz13_4
                      try clear hcz13_5
                      try clear hcz13_6
                      try clear hcz17_0
                      try clear hcz17_1
                      try clear hcz17_2
                      try clear hcz17_3
                      try clear hcz17_4
                      try clear hcz17_5
                      try clear hcz17_6
                      try clear hcz21_0
                      try clear hcz21_1
                      try clear hcz21_2
                      try clear hcz21_3
                      try clear hcz21_4
                      try clear hcz21_5
                      try clear hcz21_6
                      try clear hcz28_0
                      try clear hcz28_1
                      try clear hcz28_2
                      try clear hcz28_3
                      try clear hcz28_4
                      try clear hcz28_5
                      try clear hcz28_6
                      try clear hcz36_0
                      try clear hcz36_1
                      try clear hcz36_2
                      try clear hcz36_3
                      try clear hcz36_4
                      try clear hcz36_5
                      try clear hcz36_6
                      try clear hcz38_0
                      try clear hcz38_1
                      try clear hcz38_2
                      try clear hcz38_3
                      try clear hcz38_4
                      try clear hcz38_5
                      try clear hcz38_6
                      try clear hcz42_0
                      try clear hcz42_1
                      try clear hcz42_2
                      try clear hcz42_3
                      try clear hcz42_4
                      try clear hcz42_5
                      try clear hcz42_6
                      try clear hcz6_0
                      try clear hcz6_1
                      try clear hcz6_2
                      try clear hcz6_3
                      try clear hcz6_4
                      try clear hcz6_5
                      try clear hcz6_6
                      try clear hcz8_0
                      try clear hcz8_1
                      try clear hcz8_2
                      try clear hcz8_3
                      try clear hcz8_4
                      try clear hcz8_5
                      try clear hcz8_6
                      try clear hfz11_0
                      try clear hfz11_1
                      try clear hfz11_2
                      try clear hfz11_3
                      try clear hfz11_4
                      try clear hfz11_5
                      try clear hfz11_6
                      try clear hfz13_0
                      try clear hfz13_1
                      try clear hfz13_2
                      try clear hfz13_3
                      try clear hfz13_4
                      try clear hfz13_5
                      try clear hfz13_6
                      try clear hfz17_0
                      try clear hfz17_1
                      try clear hfz17_2
                      try clear hfz17_3
                      try clear hfz17_4
                      try clear hfz17_5
                      try clear hfz17_6
                      try clear hfz21_0
                      try clear hfz21_1
                      try clear hfz21_2
                      try clear hfz21_3
                      try clear hfz21_4
                      try clear hfz21_5
                      try clear hfz21_6
                      try clear hfz28_0
                      try clear hfz28_1
                      try clear hfz28_2
                      try clear hfz28_3
                      try clear hfz28_4
                      try clear hfz28_5
                      try clear hfz28_6
                      try clear hfz36_0
                      try clear hfz36_1
                      try clear hfz36_2
                      try clear hfz36_3
                      try clear hfz36_4
                      try clear hfz36_5
                      try clear hfz36_6
                      try clear hfz38_0
                      try clear hfz38_1
                      try clear hfz38_2
                      try clear hfz38_3
                      try clear hfz38_4
                      try clear hfz38_5
                      try clear hfz38_6
                      try clear hfz42_0
                      try clear hfz42_1
                      try clear hfz42_2
                      try clear hfz42_3
                      try clear hfz42_4
                      try clear hfz42_5
                      try clear hfz42_6
                      try clear hfz6_0
                      try clear hfz6_1
                      try clear hfz6_2
                      try clear hfz6_3
                      try clear hfz6_4
                      try clear hfz6_5
                      try clear hfz6_6
                      try clear hfz8_0
                      try clear hfz8_1
                      try clear hfz8_2
                      try clear hfz8_3
                      try clear hfz8_4
                      try clear hfz8_5
                      try clear hfz8_6
                      try clear p2
                      obtain ⟨x3_5, x4_5, rfl, rfl, HA, HK5, BK418, HB⟩ := hrel
                      cases gk with
                      | zero => exact absurd HA.out (by simp [deckleref15_Text.l0])
                      | succ k5 =>
                        have H := HA.out
                        clear HA
                        simp only [deckleref15_Text.l0] at H
                        by_cases c43 : x4_5 < (l0_6.length : Int)
                        · rw [if_pos c43] at H
                          have c43b0 : decide (x4_5 < (l0_6.length : Int)) = true := decide_eq_true c43
                          clear c43
                          by_cases c44 : x3_5.size + 1 ≤ 9223372036854775807
                          · rw [if_pos c44] at H
                            have c44b0 := eq_true c44
                            (try (have c44b9 := c44; simp only [ByteArray.size_append, show (⟨#[40]⟩ : ByteArray).size = 1 from rfl, show (⟨#[41]⟩ : ByteArray).size = 1 from rfl, show (⟨#[32]⟩ : ByteArray).size = 1 from rfl, show (⟨#[59]⟩ : ByteArray).size = 1 from rfl, show (⟨#[226, 134, 144]⟩ : ByteArray).size = 3 from rfl] at c44b9; have c44b6 := eq_false (Nat.not_lt.2 c44b9); replace c44b9 := eq_true c44b9))
                            have c44b1 : decide (x3_5.size + 1 ≤ 9223372036854775807) = true := decide_eq_true c44
                            try have c44b2 : (9223372036854775807 < x3_5.size + 1) = False := eq_false (Nat.not_lt.2 c44)
                            by_cases c45 : 0 ≤ x4_5
                            · rw [if_pos c45] at H
                              have c45b0 : decide (0 ≤ x4_5) = true := decide_eq_true c45
                              clear c45
                              by_cases c46 : (x3_5 ++ (⟨#[59]⟩ : ByteArray)).size + (rdOf ByteArray.empty l0_6 x4_5).size ≤ 9223372036854775807
                              · rw [if_pos c46] at H
                                have c46b0 := eq_true c46
                                (try (have c46b9 := c46; simp only [ByteArray.size_append, show (⟨#[40]⟩ : ByteArray).size = 1 from rfl, show (⟨#[41]⟩ : ByteArray).size = 1 from rfl, show (⟨#[32]⟩ : ByteArray).size = 1 from rfl, show (⟨#[59]⟩ : ByteArray).size = 1 from rfl, show (⟨#[226, 134, 144]⟩ : ByteArray).size = 3 from rfl] at c46b9; have c46b6 := eq_false (Nat.not_lt.2 c46b9); replace c46b9 := eq_true c46b9))
                                have c46b1 : decide ((x3_5 ++ (⟨#[59]⟩ : ByteArray)).size + (rdOf ByteArray.empty l0_6 x4_5).size ≤ 9223372036854775807) = true := decide_eq_true c46
                                try have c46b2 : (9223372036854775807 < (x3_5 ++ (⟨#[59]⟩ : ByteArray)).size + (rdOf ByteArray.empty l0_6 x4_5).size) = False := eq_false (Nat.not_lt.2 c46)
                                have H' := Aside0.mk H
                                clear H
                                have hcz47_0 : wr.cell? ⟨gb418, 0, none⟩ = some (.string a0_0) := (blk_cell BK418.out 0).trans rfl
                                have hcz47_1 : wr.cell? ⟨gb418, 1, none⟩ = some (.string a0_1) := (blk_cell BK418.out 1).trans rfl
                                have hcz47_2 : wr.cell? ⟨gb418, 2, none⟩ = some (.string a0_2) := (blk_cell BK418.out 2).trans rfl
                                have hcz47_3 : wr.cell? ⟨gb418, 3, none⟩ = some (.string a0_3) := (blk_cell BK418.out 3).trans rfl
                                have hcz47_4 : wr.cell? ⟨gb418, 4, none⟩ = some (.string a0_4) := (blk_cell BK418.out 4).trans rfl
                                have hcz47_5 : wr.cell? ⟨gb418, 5, none⟩ = some (.string a0_5) := (blk_cell BK418.out 5).trans rfl
                                have hcz47_6 : wr.cell? ⟨gb418, 6, none⟩ = some (.slice A0_6 l0_6.length c0_6) := (blk_cell BK418.out 6).trans rfl
                                have hfz47_0 := blk_frozen BK418.out 0
                                have hfz47_1 := blk_frozen BK418.out 1
                                have hfz47_2 := blk_frozen BK418.out 2
                                have hfz47_3 := blk_frozen BK418.out 3
                                have hfz47_4 := blk_frozen BK418.out 4
                                have hfz47_5 := blk_frozen BK418.out 5
                                have hfz47_6 := blk_frozen BK418.out 6
                                have p420 : 0 ≤ (x4_5 : Int) := of_decide_eq_true (by first | (with_reducible assumption) | assumption)
                                have q420 : x4_5 < (l0_6.length : Int) := of_decide_eq_true (by first | (with_reducible assumption) | assumption)
                                obtain ⟨ad420, e420, hx420_0⟩ := Kd.at_string HR0_6.out x4_5 p420 q420
                                cases e420
                                replace hx420_0 := (HB.out.cell (World.block_lt_of_cell? w _ hx420_0)).trans hx420_0
                                replace p420 := eq_true p420
                                replace q420 := eq_true q420
                                go_wp2
                                go_roundg k5
                                case measure => have := HJ3.out; have := HJ11.out; have := HJ17.out; have := HJ36.out; have := HK5.out; omega
                                case rel => exact ⟨((x3_5 ++ (⟨#[59]⟩ : ByteArray)) ++ (rdOf ByteArray.empty l0_6 x4_5)), (wrap64 (x4_5 + 1)), (by first | rfl | (simp; done) | (simp [*]; done)), (by first | rfl | (simp; done) | (simp [*]; done)), H', ⟨by have := HJ3.out; have := HJ11.out; have := HJ17.out; have := HJ36.out; have := HK5.out; omega⟩, ⟨by (with_reducible repeat (first | refine blk_drewN ?_ _ | refine blk_drew ?_ | refine blk_alloc ?_ _)); exact BK418.out⟩, ⟨by repeat (first | (with_reducible first | exact HB.out | apply below_alloc | apply pw_below_drewN | apply below_drew1 | refine below_set ?_ GE418.out) | exact HB.out)⟩⟩
                              · rw [if_neg c46] at H
                                exact absurd H (by simp)
                            · rw [if_neg c45] at H
                              exact absurd H (by simp)
                          · rw [if_neg c44] at H
                            exact absurd H (by simp)
                        · rw [if_neg c43] at H
                          have c43b0 : decide (x4_5 < (l0_6.length : Int)) = false := decide_eq_false c43
                          clear c43
                          obtain rfl := Option.some.inj H
                          have hcz48_0 : wr.cell? ⟨gb418, 0, none⟩ = some (.string a0_0) := (blk_cell BK418.out 0).trans rfl
                          have hcz48_1 : wr.cell? ⟨gb418, 1, none⟩ = some (.string a0_1) := (blk_cell BK418.out 1).trans rfl
                          have hcz48_2 : wr.cell? ⟨gb418, 2, none⟩ = some (.string a0_2) := (blk_cell BK418.out 2).trans rfl
                          have hcz48_3 : wr.cell? ⟨gb418, 3, none⟩ = some (.string a0_3) := (blk_cell BK418.out 3).trans rfl
                          have hcz48_4 : wr.cell? ⟨gb418, 4, none⟩ = some (.string a0_4) := (blk_cell BK418.out 4).trans rfl
                          have hcz48_5 : wr.cell? ⟨gb418, 5, none⟩ = some (.string a0_5) := (blk_cell BK418.out 5).trans rfl
                          have hcz48_6 : wr.cell? ⟨gb418, 6, none⟩ = some (.slice A0_6 l0_6.length c0_6) := (blk_cell BK418.out 6).trans rfl
                          have hfz48_0 := blk_frozen BK418.out 0
                          have hfz48_1 := blk_frozen BK418.out 1
                          have hfz48_2 := blk_frozen BK418.out 2
                          have hfz48_3 := blk_frozen BK418.out 3
                          have hfz48_4 := blk_frozen BK418.out 4
                          have hfz48_5 := blk_frozen BK418.out 5
                          have hfz48_6 := blk_frozen BK418.out 6
                          go_wp2
                          go_ret
                          exact ⟨by first | rfl | (simp [errW_none, errW_some] <;> rfl) | (simp [*, errW_none, errW_some] <;> rfl), by repeat (first | (with_reducible first | exact HB.out | apply below_alloc | apply pw_below_drewN | apply below_drew1 | refine below_set ?_ GE418.out) | exact HB.out)⟩
  · replace c3 := Bool.eq_false_iff.mpr c3
    subst c3
    have H1 : (some (⟨#[]⟩ : ByteArray)) = some r := by rw [if_neg (show ¬ (false = true) by decide)] at H; exact H
    clear H
    have H := H1
    clear H1
    obtain rfl := Option.some.inj H
    go_enter Tryd.func85, Tryd.ntmps85
    go_wp2_with (first | ((with_reducible refine gate_dst (N := 1) rfl ?_); refine box_event ?hg (N := 1) ?hd (cs := #[.string a0_0, .string a0_1, .string a0_2, .string a0_3, .string a0_4, .string a0_5, .slice A0_6 l0_6.length c0_6]) (t := 42) ?hr ?_; (case hd => rfl); (case hg => rfl); (case hr => first | (go_simp; done) | (go_simp; rfl)); intro gb418 hg w49 hbox hb; have n0_ := Aside0.mk (below_step (by repeat (first | (with_reducible first | exact HB.out | apply below_alloc | apply pw_below_drewN | apply below_drew1) | exact HB.out)) hb); have n1_ := Aside0.mk (hbox); have n2_ := Aside0.mk ((by rw [hg]; exact (below_size (by repeat (first | (with_reducible first | exact HB.out | apply below_alloc | apply pw_below_drewN | apply below_drew1) | exact HB.out))) : w.heap.size ≤ gb418)); have n3_ := Aside0.mk ((by rw [hg]; exact (below_size (by repeat (first | (with_reducible first | exact HB.out | apply below_alloc | apply pw_below_drewN | apply below_drew1) | exact HB.out))) : w.heap.size ≤ gb418)); clear HB; have HB := n0_; have BK418 := n1_; have GW418 := n2_; have GE418 := n3_; clear n0_ n1_ n2_ n3_; clear hb hbox hg; have hcz50_0 : w49.cell? ⟨gb418, 0, none⟩ = some (.string a0_0) := (blk_cell BK418.out 0).trans rfl; have hcz50_1 : w49.cell? ⟨gb418, 1, none⟩ = some (.string a0_1) := (blk_cell BK418.out 1).trans rfl; have hcz50_2 : w49.cell? ⟨gb418, 2, none⟩ = some (.string a0_2) := (blk_cell BK418.out 2).trans rfl; have hcz50_3 : w49.cell? ⟨gb418, 3, none⟩ = some (.string a0_3) := (blk_cell BK418.out 3).trans rfl; have hcz50_4 : w49.cell? ⟨gb418, 4, none⟩ = some (.string a0_4) := (blk_cell BK418.out 4).trans rfl; have hcz50_5 : w49.cell? ⟨gb418, 5, none⟩ = some (.string a0_5) := (blk_cell BK418.out 5).trans rfl; have hcz50_6 : w49.cell? ⟨gb418, 6, none⟩ = some (.slice A0_6 l0_6.length c0_6) := (blk_cell BK418.out 6).trans rfl; have hfz50_0 := blk_frozen BK418.out 0; have hfz50_1 := blk_frozen BK418.out 1; have hfz50_2 := blk_frozen BK418.out 2; have hfz50_3 := blk_frozen BK418.out 3; have hfz50_4 := blk_frozen BK418.out 4; have hfz50_5 := blk_frozen BK418.out 5; have hfz50_6 := blk_frozen BK418.out 6) | ((with_reducible refine gate_callee (f := 96) rfl ?_); refine goesL_ (some 6) rfl rfl Tryd.func96 (by kernel_rfl) rfl #[.agg #[.string a0_0, .string a0_1, .string a0_2, .string a0_3, .string a0_4, .string a0_5, .slice A0_6 l0_6.length c0_6]] rfl (by (try simp only [List.map_toArray, List.map_cons, List.map_nil]); first | done | rfl | (simp only [List.length_drop, List.length_take]; rfl)) ?_; (with_reducible refine (deckleref15_Right.calls k a0_0 a0_1 a0_2 a0_3 a0_4 a0_5 _ _ l0_6 false _ ?side1 ?side2 A2.out).mono ?_); (case side1 => repeat (first | exact (Kd.C_below HR0_6.out HB.out) | (with_reducible refine Kd.C_alloc ?_ _) | (with_reducible refine Kd.C_drewN ?_ _) | (with_reducible refine Kd.C_drew ?_))); (case side2 => exact HC0_6.out); rintro e w51 ⟨rfl, hb⟩; refine ⟨_, rfl, ?_⟩; have n0_ := Aside0.mk (blk_below (g := gb418) (o := .cells #[.string a0_0, .string a0_1, .string a0_2, .string a0_3, .string a0_4, .string a0_5, .slice A0_6 l0_6.length c0_6] 42 (0, 0)) (by (with_reducible repeat (first | refine blk_drewN ?_ _ | refine blk_drew ?_ | refine blk_alloc ?_ _)); exact BK418.out) hb); have n1_ := Aside0.mk (below_step (by repeat (first | (with_reducible first | exact HB.out | apply below_alloc | apply pw_below_drewN | apply below_drew1 | refine below_set ?_ GE418.out) | exact HB.out)) hb); clear BK418; clear HB; have BK418 := n0_; have HB := n1_; clear n0_ n1_; (try clear hb); (try clear hb2); (try clear hk); (try clear hi)))
    go_ret
    exact ⟨by first | rfl | (simp [errW_none, errW_some] <;> rfl) | (simp [*, errW_none, errW_some] <;> rfl), by repeat (first | (with_reducible first | exact HB.out | apply below_alloc | apply pw_below_drewN | apply below_drew1 | refine below_set ?_ GE418.out) | exact HB.out)⟩

end Go.Proofs.YtmddkjmcbddhiaaDoor.P
