-- written by wip/tools/print2.py (a program of this session over the kit's print); not trusted: Lean checks it
import Derived.Test.YtmddkjmcbddhiaaP0
import Derived.Test.YtmddkjmcbddhiaaP10
import Derived.Test.YtmddkjmcbddhiaaP12
import Derived.Test.YtmddkjmcbddhiaaP13
import Derived.Test.YtmddkjmcbddhiaaP14
import Derived.Test.YtmddkjmcbddhiaaP15
import Derived.Test.YtmddkjmcbddhiaaP17
import Derived.Test.YtmddkjmcbddhiaaGParse
import Derived.Test.YtmddkjmcbddhiaaGSmall15
import Derived.Test.YtmddkjmcbddhiaaGText
namespace Go.Proofs.Ytmddkjmcbddhiaa.P
open Go.RowKit Go.Proofs.YtmddkjmcbddhiaaW.PrintWords Go.Proofs.YtmddkjmcbddhiaaW.PrintLast Go.Proofs.YtmddkjmcbddhiaaW.PrintMore
attribute [local go_sem] max2_int min2_int max_two min_two max_three min_three max_four min_four   -- for this text's walks alone
set_option linter.unusedVariables false
set_option linter.unusedSimpArgs false

/-! ### decklelaw15_HeaderTells: function 8 -/
def decklelaw15_HeaderTells.j0 : Nat → ByteArray → Bool → Bool → ByteArray → ByteArray → ByteArray → ByteArray → ByteArray → ByteArray → List ByteArray → Option (Bool)
  | 0, _, _, _, _, _, _, _, _, _, _ => none
  | k + 1, x1, x5, x20, x300000, x300001, x300002, x300003, x300004, x300005, x300006 => if x20 = true then (some x5) else ((header_Parse.f x1).bind fun bt302 => ((deckleref15_Parse.f k x1).bind fun bt313 => (if x5 = true then ((header_Right.f k x300000 x300001 x300002 x300003 x300004 x300005 x300006).bind fun t324 => ((deckleref15_Right.f k x300000 x300001 x300002 x300003 x300004 x300005 x300006).bind fun t325 => (if (t324 == t325) = true then ((header_Text.f x300000 x300001 x300002 x300003 x300004 x300005 x300006).bind fun t326 => ((deckleref15_Text.f k x300000 x300001 x300002 x300003 x300004 x300005 x300006).bind fun t327 => (if t326.toList = t327.toList then ((deckleref15_Same.f k bt302.1 bt302.2.1 bt302.2.2.1 bt302.2.2.2.1 bt302.2.2.2.2.1 bt302.2.2.2.2.2.1 bt302.2.2.2.2.2.2.1 bt313.1 bt313.2.1 bt313.2.2.1 bt313.2.2.2.1 bt313.2.2.2.2.1 bt313.2.2.2.2.2.1 bt313.2.2.2.2.2.2.1).bind fun t328 => (if t328 = true then (some (bt302.2.2.2.2.2.2.2 == bt313.2.2.2.2.2.2.2)) else (none))) else (none)))) else (none)))) else (none))))
def decklelaw15_HeaderTells.f (k : Nat) (a0_0 : ByteArray) (a0_1 : ByteArray) (a0_2 : ByteArray) (a0_3 : ByteArray) (a0_4 : ByteArray) (a0_5 : ByteArray) (l0_6 : List ByteArray) (a1 : ByteArray) : Option (Bool) := (decklelaw15_small.f).bind fun t300 => ((decklelaw15_Few.f k a0_0 a0_1 a0_2 a0_3 a0_4 a0_5 l0_6).bind fun t301 => (if t301 = true then (decklelaw15_HeaderTells.j0 k a1 t300 (decide ((a1.size : Int) > 300)) a0_0 a0_1 a0_2 a0_3 a0_4 a0_5 l0_6) else (decklelaw15_HeaderTells.j0 k a1 t300 true a0_0 a0_1 a0_2 a0_3 a0_4 a0_5 l0_6)))
def decklelaw15_HeaderTells.T7 : Bool × List (List Nat × List Nat) := (true, [([], []), ([0], [0]), ([1], [1]), ([2, 1, 1], [1, 2]), ([1], [1]), ([4, 3, 1], [1, 4]), ([3, 5, 1], [1, 3, 5]), ([1, 6], [1, 6]), ([7, 5], [7]), ([8], [8]), ([9, 8, 8], [8, 9]), ([8], [8]), ([11, 10, 8], [8, 11]), ([10, 12, 8], [8, 10, 12]), ([8, 13], [8, 13]), ([14, 12], [14]), ([15], [15]), ([15], [15]), ([16, 17, 15, 15], [15, 16, 17]), ([15, 18], [15, 18]), ([19, 18], [19]), ([20], [20]), ([20], [20]), ([21, 22, 20], [20, 21, 22]), ([20, 23], [20, 23]), ([24, 20, 0, 1, 2, 3, 4, 5, 6, 7, 8, 9, 10, 11, 12, 13, 14, 15, 16, 17, 18, 19, 20, 21, 22, 23, 24], [24])])
def decklelaw15_HeaderTells.B7 : List Nat := [0, 1, 3, 7, 3, 31, 63, 127, 255, 511, 1023, 511, 4095, 8191, 16383, 32767, 65535, 65535, 262143, 524287, 1048575, 2097151, 2097151, 8388607, 16777215, 33554431]
theorem decklelaw15_HeaderTells.tab7 : rtab .any (opsOf Try.f8 7) = decklelaw15_HeaderTells.T7 := by kernel_rfl
theorem decklelaw15_HeaderTells.bits7 : waitsOk decklelaw15_HeaderTells.T7.2 decklelaw15_HeaderTells.B7 = true := by kernel_rfl
set_option maxHeartbeats 8000000 in
set_option maxRecDepth 100000 in
theorem decklelaw15_HeaderTells.calls (k : Nat) (a0_0 : ByteArray) (a0_1 : ByteArray) (a0_2 : ByteArray) (a0_3 : ByteArray) (a0_4 : ByteArray) (a0_5 : ByteArray) (A0_6 : Option Addr) (c0_6 : Nat) (l0_6 : List ByteArray) (a1 : ByteArray) (r : Bool) (w : World) (hr0_6 : Kd.C Kd.string w A0_6 l0_6.length l0_6) (hc0_6 : l0_6.length ≤ c0_6) (h : decklelaw15_HeaderTells.f k a0_0 a0_1 a0_2 a0_3 a0_4 a0_5 l0_6 a1 = some r) :
    Calls Try.prog 8 #[.agg #[.string a0_0, .string a0_1, .string a0_2, .string a0_3, .string a0_4, .string a0_5, .slice A0_6 l0_6.length c0_6], .string a1] w fun e w' => e = .returned (.bool r) ∧ Below w.heap.size w w' := by
  have hu35 := Try.underlying35
  have HR0_6 := Aside0.mk hr0_6
  have HC0_6 := Aside0.mk hc0_6
  clear hr0_6 hc0_6
  have HB := Aside0.mk (Below.refl w.heap.size w)
  have H : ((decklelaw15_small.f).bind fun t300 => ((decklelaw15_Few.f k a0_0 a0_1 a0_2 a0_3 a0_4 a0_5 l0_6).bind fun t301 => (if t301 = true then (decklelaw15_HeaderTells.j0 k a1 t300 (decide ((a1.size : Int) > 300)) a0_0 a0_1 a0_2 a0_3 a0_4 a0_5 l0_6) else (decklelaw15_HeaderTells.j0 k a1 t300 true a0_0 a0_1 a0_2 a0_3 a0_4 a0_5 l0_6)))) = some r := h
  clear h
  replace H := Option.bind_eq_some_iff.mp H
  obtain ⟨t300, A30, H⟩ := H
  replace H : ((decklelaw15_Few.f k a0_0 a0_1 a0_2 a0_3 a0_4 a0_5 l0_6).bind fun t301 => (if t301 = true then (decklelaw15_HeaderTells.j0 k a1 t300 (decide ((a1.size : Int) > 300)) a0_0 a0_1 a0_2 a0_3 a0_4 a0_5 l0_6) else (decklelaw15_HeaderTells.j0 k a1 t300 true a0_0 a0_1 a0_2 a0_3 a0_4 a0_5 l0_6))) = some r := H
  have A3 := Aside0.mk A30
  clear A30
  replace H := Option.bind_eq_some_iff.mp H
  obtain ⟨t301, A40, H⟩ := H
  replace H : (if t301 = true then (decklelaw15_HeaderTells.j0 k a1 t300 (decide ((a1.size : Int) > 300)) a0_0 a0_1 a0_2 a0_3 a0_4 a0_5 l0_6) else (decklelaw15_HeaderTells.j0 k a1 t300 true a0_0 a0_1 a0_2 a0_3 a0_4 a0_5 l0_6)) = some r := H
  have A4 := Aside0.mk A40
  clear A40
  have HC5 := Aside0.mk H
  clear H
  go_enter Try.func8, Try.ntmps8
  go_upto_region 3 with (first | ((with_reducible refine gate_dst (N := 2) rfl ?_); (try (refine gate_guard (by rfl) ?_; dsimp only)); refine box_event ?hg (N := 2) ?hd (cs := #[.string a0_0, .string a0_1, .string a0_2, .string a0_3, .string a0_4, .string a0_5, .slice A0_6 l0_6.length c0_6]) (t := 35) ?hr ?_; (case hd => rfl); (case hg => rfl); (case hr => first | (go_simp; done) | (go_simp; rfl)); intro gb299 hg w6 hbox hb; have n0_ := Aside0.mk (below_step (by repeat (first | (with_reducible first | exact HB.out | apply below_alloc | apply pw_below_drewN | apply below_drew1) | exact HB.out)) hb); have n1_ := Aside0.mk (hbox); have n2_ := Aside0.mk ((by rw [hg]; exact (below_size (by repeat (first | (with_reducible first | exact HB.out | apply below_alloc | apply pw_below_drewN | apply below_drew1) | exact HB.out))) : w.heap.size ≤ gb299)); have n3_ := Aside0.mk ((by rw [hg]; exact (below_size (by repeat (first | (with_reducible first | exact HB.out | apply below_alloc | apply pw_below_drewN | apply below_drew1) | exact HB.out))) : w.heap.size ≤ gb299)); clear HB; have HB := n0_; have BK299 := n1_; have GW299 := n2_; have GE299 := n3_; clear n0_ n1_ n2_ n3_; clear hb hbox hg) | ((with_reducible refine gate_callee (f := 22) rfl ?_); refine goesL_ (some 11) rfl rfl Try.func22 (by kernel_rfl) rfl #[] rfl (by (try simp only [List.map_toArray, List.map_cons, List.map_nil]); first | done | rfl | (simp only [List.length_drop, List.length_take]; rfl)) ?_; (with_reducible refine (decklelaw15_small.calls  t300 _ A3.out).mono ?_); rintro e w7 ⟨rfl, hb⟩; refine ⟨_, rfl, ?_⟩; have n0_ := Aside0.mk (blk_below (g := gb299) (o := .cells #[.string a0_0, .string a0_1, .string a0_2, .string a0_3, .string a0_4, .string a0_5, .slice A0_6 l0_6.length c0_6] 35 (0, 0)) (by (with_reducible repeat (first | refine blk_drewN ?_ _ | refine blk_drew ?_ | refine blk_alloc ?_ _)); exact BK299.out) hb); have n1_ := Aside0.mk (below_step (by repeat (first | (with_reducible first | exact HB.out | apply below_alloc | apply pw_below_drewN | apply below_drew1 | refine below_set ?_ GE299.out) | exact HB.out)) hb); clear BK299; clear HB; have BK299 := n0_; have HB := n1_; clear n0_ n1_; (try clear hb); (try clear hb2); (try clear hk); (try clear hi); have hcz8_0 : w7.cell? ⟨gb299, 0, none⟩ = some (.string a0_0) := (blk_cell BK299.out 0).trans rfl; have hcz8_1 : w7.cell? ⟨gb299, 1, none⟩ = some (.string a0_1) := (blk_cell BK299.out 1).trans rfl; have hcz8_2 : w7.cell? ⟨gb299, 2, none⟩ = some (.string a0_2) := (blk_cell BK299.out 2).trans rfl; have hcz8_3 : w7.cell? ⟨gb299, 3, none⟩ = some (.string a0_3) := (blk_cell BK299.out 3).trans rfl; have hcz8_4 : w7.cell? ⟨gb299, 4, none⟩ = some (.string a0_4) := (blk_cell BK299.out 4).trans rfl; have hcz8_5 : w7.cell? ⟨gb299, 5, none⟩ = some (.string a0_5) := (blk_cell BK299.out 5).trans rfl; have hcz8_6 : w7.cell? ⟨gb299, 6, none⟩ = some (.slice A0_6 l0_6.length c0_6) := (blk_cell BK299.out 6).trans rfl; have hfz8_0 := blk_frozen BK299.out 0; have hfz8_1 := blk_frozen BK299.out 1; have hfz8_2 := blk_frozen BK299.out 2; have hfz8_3 := blk_frozen BK299.out 3; have hfz8_4 := blk_frozen BK299.out 4; have hfz8_5 := blk_frozen BK299.out 5; have hfz8_6 := blk_frozen BK299.out 6) | ((with_reducible refine gate_callee (f := 23) rfl ?_); refine goesL_ (some 13) rfl rfl Try.func23 (by kernel_rfl) rfl #[.agg #[.string a0_0, .string a0_1, .string a0_2, .string a0_3, .string a0_4, .string a0_5, .slice A0_6 l0_6.length c0_6]] rfl (by (try simp only [List.map_toArray, List.map_cons, List.map_nil]); first | done | rfl | (simp only [List.length_drop, List.length_take]; rfl)) ?_; (with_reducible refine (decklelaw15_Few.calls k a0_0 a0_1 a0_2 a0_3 a0_4 a0_5 _ _ l0_6 t301 _ ?side1 ?side2 A4.out).mono ?_); (case side1 => repeat (first | exact (Kd.C_below HR0_6.out HB.out) | (with_reducible refine Kd.C_alloc ?_ _) | (with_reducible refine Kd.C_drewN ?_ _) | (with_reducible refine Kd.C_drew ?_))); (case side2 => exact HC0_6.out); rintro e w9 ⟨rfl, hb⟩; refine ⟨_, rfl, ?_⟩; have n0_ := Aside0.mk (blk_below (g := gb299) (o := .cells #[.string a0_0, .string a0_1, .string a0_2, .string a0_3, .string a0_4, .string a0_5, .slice A0_6 l0_6.length c0_6] 35 (0, 0)) (by (with_reducible repeat (first | refine blk_drewN ?_ _ | refine blk_drew ?_ | refine blk_alloc ?_ _)); exact BK299.out) hb); have n1_ := Aside0.mk (below_step (by repeat (first | (with_reducible first | exact HB.out | apply below_alloc | apply pw_below_drewN | apply below_drew1 | refine below_set ?_ GE299.out) | exact HB.out)) hb); clear BK299; clear HB; have BK299 := n0_; have HB := n1_; clear n0_ n1_; (try clear hb); (try clear hb2); (try clear hk); (try clear hi)))
  (try simp only [Act.put, List.setIfInBounds_toArray, List.set_cons_zero, List.set_cons_succ])
  go_cut [20] (fun v20 wc => ∃ (kq : Nat) (x20_4 : Bool), v20 = .bool x20_4 ∧ Aside0 (decklelaw15_HeaderTells.j0 kq a1 t300 x20_4 a0_0 a0_1 a0_2 a0_3 a0_4 a0_5 l0_6 = some r) ∧ Aside0 (kq ≤ k) ∧ Aside0 (wc.heap[gb299]? = some (.cells #[.string a0_0, .string a0_1, .string a0_2, .string a0_3, .string a0_4, .string a0_5, (.slice A0_6 l0_6.length c0_6)] 35 (0, 0))) ∧ Aside0 (Below w.heap.size w wc))
  case first =>
    have H := HC5.out
    clear HC5
    by_cases c10 : t301 = true
    · subst c10
      have H1 : (decklelaw15_HeaderTells.j0 k a1 t300 (decide ((a1.size : Int) > 300)) a0_0 a0_1 a0_2 a0_3 a0_4 a0_5 l0_6) = some r := by rw [if_pos rfl] at H; exact H
      clear H
      have H := H1
      clear H1
      have H' := Aside0.mk H
      clear H
      go_wp2
      go_meet
      case rel => exact ⟨_, (decide ((a1.size : Int) > 300)), (by first | rfl | (simp; done) | (simp [*]; done)), H', ⟨by first | omega | exact Nat.le_refl _⟩, ⟨by (with_reducible repeat (first | refine blk_drewN ?_ _ | refine blk_drew ?_ | refine blk_alloc ?_ _)); exact BK299.out⟩, ⟨by repeat (first | (with_reducible first | exact HB.out | apply below_alloc | apply pw_below_drewN | apply below_drew1 | refine below_set ?_ GE299.out) | exact HB.out)⟩⟩
    · replace c10 := Bool.eq_false_iff.mpr c10
      subst c10
      have H1 : (decklelaw15_HeaderTells.j0 k a1 t300 true a0_0 a0_1 a0_2 a0_3 a0_4 a0_5 l0_6) = some r := by rw [if_neg (show ¬ (false = true) by decide)] at H; exact H
      clear H
      have H := H1
      clear H1
      have H' := Aside0.mk H
      clear H
      go_wp2
      go_meet
      case rel => exact ⟨_, (true), (by first | rfl | (simp; done) | (simp [*]; done)), H', ⟨by first | omega | exact Nat.le_refl _⟩, ⟨by (with_reducible repeat (first | refine blk_drewN ?_ _ | refine blk_drew ?_ | refine blk_alloc ?_ _)); exact BK299.out⟩, ⟨by repeat (first | (with_reducible first | exact HB.out | apply below_alloc | apply pw_below_drewN | apply below_drew1 | refine below_set ?_ GE299.out) | exact HB.out)⟩⟩
  case rest =>
    clear HC5
    try clear c1
    try clear c2
    try clear p2
    try clear c8
    try clear c10
    try clear hcz8_0
    try clear hcz8_1
    try clear hcz8_2
    try clear hcz8_3
    try clear hcz8_4
    try clear hcz8_5
    try clear hcz8_6
    try clear hfz8_0
    try clear hfz8_1
    try clear hfz8_2
    try clear hfz8_3
    try clear hfz8_4
    try clear hfz8_5
    try clear hfz8_6
    obtain ⟨kq, x20_4, rfl, HA, HJ4, BK299, HB⟩ := hcut
    cases kq with
    | zero => exact absurd HA.out (by simp [decklelaw15_HeaderTells.j0])
    | succ kj4 =>
      have H := HA.out
      clear HA
      simp only [decklelaw15_HeaderTells.j0] at H
      by_cases c11 : x20_4 = true
      · subst c11
        have H1 : (some t300) = some r := by rw [if_pos rfl] at H; exact H
        clear H
        have H := H1
        clear H1
        obtain rfl := Option.some.inj H
        go_wp2
        go_ret
        exact ⟨by first | rfl | (simp [errW_none, errW_some] <;> rfl) | (simp [*, errW_none, errW_some] <;> rfl), by repeat (first | (with_reducible first | exact HB.out | apply below_alloc | apply pw_below_drewN | apply below_drew1 | refine below_set ?_ GE299.out) | exact HB.out)⟩
      · replace c11 := Bool.eq_false_iff.mpr c11
        subst c11
        have H1 : ((header_Parse.f a1).bind fun bt302 => ((deckleref15_Parse.f kj4 a1).bind fun bt313 => (if t300 = true then ((header_Right.f kj4 a0_0 a0_1 a0_2 a0_3 a0_4 a0_5 l0_6).bind fun t324 => ((deckleref15_Right.f kj4 a0_0 a0_1 a0_2 a0_3 a0_4 a0_5 l0_6).bind fun t325 => (if (t324 == t325) = true then ((header_Text.f a0_0 a0_1 a0_2 a0_3 a0_4 a0_5 l0_6).bind fun t326 => ((deckleref15_Text.f kj4 a0_0 a0_1 a0_2 a0_3 a0_4 a0_5 l0_6).bind fun t327 => (if t326.toList = t327.toList then ((deckleref15_Same.f kj4 bt302.1 bt302.2.1 bt302.2.2.1 bt302.2.2.2.1 bt302.2.2.2.2.1 bt302.2.2.2.2.2.1 bt302.2.2.2.2.2.2.1 bt313.1 bt313.2.1 bt313.2.2.1 bt313.2.2.2.1 bt313.2.2.2.2.1 bt313.2.2.2.2.2.1 bt313.2.2.2.2.2.2.1).bind fun t328 => (if t328 = true then (some (bt302.2.2.2.2.2.2.2 == bt313.2.2.2.2.2.2.2)) else (none))) else (none)))) else (none)))) else (none)))) = some r := by rw [if_neg (show ¬ (false = true) by decide)] at H; exact H
        clear H
        have H := H1
        clear H1
        replace H := Option.bind_eq_some_iff.mp H
        obtain ⟨⟨t302, t303, t304, t305, t306, t307, t308, t311⟩, A120, H⟩ := H
        replace H : ((deckleref15_Parse.f kj4 a1).bind fun bt313 => (if t300 = true then ((header_Right.f kj4 a0_0 a0_1 a0_2 a0_3 a0_4 a0_5 l0_6).bind fun t324 => ((deckleref15_Right.f kj4 a0_0 a0_1 a0_2 a0_3 a0_4 a0_5 l0_6).bind fun t325 => (if (t324 == t325) = true then ((header_Text.f a0_0 a0_1 a0_2 a0_3 a0_4 a0_5 l0_6).bind fun t326 => ((deckleref15_Text.f kj4 a0_0 a0_1 a0_2 a0_3 a0_4 a0_5 l0_6).bind fun t327 => (if t326.toList = t327.toList then ((deckleref15_Same.f kj4 t302 t303 t304 t305 t306 t307 t308 bt313.1 bt313.2.1 bt313.2.2.1 bt313.2.2.2.1 bt313.2.2.2.2.1 bt313.2.2.2.2.2.1 bt313.2.2.2.2.2.2.1).bind fun t328 => (if t328 = true then (some (t311 == bt313.2.2.2.2.2.2.2)) else (none))) else (none)))) else (none)))) else (none))) = some r := H
        have A12 := Aside0.mk A120
        clear A120
        replace H := Option.bind_eq_some_iff.mp H
        obtain ⟨⟨t313, t314, t315, t316, t317, t318, t319, t322⟩, A130, H⟩ := H
        replace H : (if t300 = true then ((header_Right.f kj4 a0_0 a0_1 a0_2 a0_3 a0_4 a0_5 l0_6).bind fun t324 => ((deckleref15_Right.f kj4 a0_0 a0_1 a0_2 a0_3 a0_4 a0_5 l0_6).bind fun t325 => (if (t324 == t325) = true then ((header_Text.f a0_0 a0_1 a0_2 a0_3 a0_4 a0_5 l0_6).bind fun t326 => ((deckleref15_Text.f kj4 a0_0 a0_1 a0_2 a0_3 a0_4 a0_5 l0_6).bind fun t327 => (if t326.toList = t327.toList then ((deckleref15_Same.f kj4 t302 t303 t304 t305 t306 t307 t308 t313 t314 t315 t316 t317 t318 t319).bind fun t328 => (if t328 = true then (some (t311 == t322)) else (none))) else (none)))) else (none)))) else (none)) = some r := H
        have A13 := Aside0.mk A130
        clear A130
        by_cases c14 : t300 = true
        · subst c14
          have H1 : ((header_Right.f kj4 a0_0 a0_1 a0_2 a0_3 a0_4 a0_5 l0_6).bind fun t324 => ((deckleref15_Right.f kj4 a0_0 a0_1 a0_2 a0_3 a0_4 a0_5 l0_6).bind fun t325 => (if (t324 == t325) = true then ((header_Text.f a0_0 a0_1 a0_2 a0_3 a0_4 a0_5 l0_6).bind fun t326 => ((deckleref15_Text.f kj4 a0_0 a0_1 a0_2 a0_3 a0_4 a0_5 l0_6).bind fun t327 => (if t326.toList = t327.toList then ((deckleref15_Same.f kj4 t302 t303 t304 t305 t306 t307 t308 t313 t314 t315 t316 t317 t318 t319).bind fun t328 => (if t328 = true then (some (t311 == t322)) else (none))) else (none)))) else (none)))) = some r := by rw [if_pos rfl] at H; exact H
          clear H
          have H := H1
          clear H1
          replace H := Option.bind_eq_some_iff.mp H
          obtain ⟨t324, A150, H⟩ := H
          replace H : ((deckleref15_Right.f kj4 a0_0 a0_1 a0_2 a0_3 a0_4 a0_5 l0_6).bind fun t325 => (if (t324 == t325) = true then ((header_Text.f a0_0 a0_1 a0_2 a0_3 a0_4 a0_5 l0_6).bind fun t326 => ((deckleref15_Text.f kj4 a0_0 a0_1 a0_2 a0_3 a0_4 a0_5 l0_6).bind fun t327 => (if t326.toList = t327.toList then ((deckleref15_Same.f kj4 t302 t303 t304 t305 t306 t307 t308 t313 t314 t315 t316 t317 t318 t319).bind fun t328 => (if t328 = true then (some (t311 == t322)) else (none))) else (none)))) else (none))) = some r := H
          have A15 := Aside0.mk A150
          clear A150
          replace H := Option.bind_eq_some_iff.mp H
          obtain ⟨t325, A160, H⟩ := H
          replace H : (if (t324 == t325) = true then ((header_Text.f a0_0 a0_1 a0_2 a0_3 a0_4 a0_5 l0_6).bind fun t326 => ((deckleref15_Text.f kj4 a0_0 a0_1 a0_2 a0_3 a0_4 a0_5 l0_6).bind fun t327 => (if t326.toList = t327.toList then ((deckleref15_Same.f kj4 t302 t303 t304 t305 t306 t307 t308 t313 t314 t315 t316 t317 t318 t319).bind fun t328 => (if t328 = true then (some (t311 == t322)) else (none))) else (none)))) else (none)) = some r := H
          have A16 := Aside0.mk A160
          clear A160
          by_cases c17 : (t324 == t325) = true
          · rw [if_pos c17] at H
            have c17b0 : (t324 == t325) = true := c17
            (try (have c17b1 : decide (t324 = t325) = true := by simpa using c17))
            (try (have c17b2 : (t324 == t325) = true := by simpa using c17))
            clear c17
            replace H := Option.bind_eq_some_iff.mp H
            obtain ⟨t326, A180, H⟩ := H
            replace H : ((deckleref15_Text.f kj4 a0_0 a0_1 a0_2 a0_3 a0_4 a0_5 l0_6).bind fun t327 => (if t326.toList = t327.toList then ((deckleref15_Same.f kj4 t302 t303 t304 t305 t306 t307 t308 t313 t314 t315 t316 t317 t318 t319).bind fun t328 => (if t328 = true then (some (t311 == t322)) else (none))) else (none))) = some r := H
            have A18 := Aside0.mk A180
            clear A180
            replace H := Option.bind_eq_some_iff.mp H
            obtain ⟨t327, A190, H⟩ := H
            replace H : (if t326.toList = t327.toList then ((deckleref15_Same.f kj4 t302 t303 t304 t305 t306 t307 t308 t313 t314 t315 t316 t317 t318 t319).bind fun t328 => (if t328 = true then (some (t311 == t322)) else (none))) else (none)) = some r := H
            have A19 := Aside0.mk A190
            clear A190
            by_cases c20 : t326.toList = t327.toList
            · rw [if_pos c20] at H
              have c20b0 : (t326.toList == t327.toList) = true := beq_iff_eq.mpr c20
              have c20b1 : (t326.toList != t327.toList) = false := bne_eq_false_iff_eq.mpr c20
              clear c20
              replace H := Option.bind_eq_some_iff.mp H
              obtain ⟨t328, A210, H⟩ := H
              replace H : (if t328 = true then (some (t311 == t322)) else (none)) = some r := H
              have A21 := Aside0.mk A210
              clear A210
              by_cases c22 : t328 = true
              · subst c22
                have H1 : (some (t311 == t322)) = some r := by rw [if_pos rfl] at H; exact H
                clear H
                have H := H1
                clear H1
                obtain rfl := Option.some.inj H
                try go_wp2_with (first | ((with_reducible refine gate_callee (f := 24) rfl ?_); refine goesL_ (some 24) rfl rfl Try.func24 (by kernel_rfl) rfl #[.string a1] rfl (by (try simp only [List.map_toArray, List.map_cons, List.map_nil]); first | done | rfl | (simp only [List.length_drop, List.length_take]; rfl)) ?_; (with_reducible refine (header_Parse.calls a1 t302 t303 t304 t305 t306 t307 t308 t311 _ A12.out).mono ?_); rintro e w23 ⟨v309, rfl, ho0, hb⟩; refine ⟨_, rfl, ?_⟩; have n0_ := Aside0.mk (Kd.R_lower ho0 (below_size (by repeat (first | (with_reducible first | exact HB.out | apply below_alloc | apply pw_below_drewN | apply below_drew1 | refine below_set ?_ GE299.out) | exact HB.out)))); have n1_ := Aside0.mk (blk_below (g := gb299) (o := .cells #[.string a0_0, .string a0_1, .string a0_2, .string a0_3, .string a0_4, .string a0_5, .slice A0_6 l0_6.length c0_6] 35 (0, 0)) (by (with_reducible repeat (first | refine blk_drewN ?_ _ | refine blk_drew ?_ | refine blk_alloc ?_ _)); exact BK299.out) hb); have n2_ := Aside0.mk (below_step (by repeat (first | (with_reducible first | exact HB.out | apply below_alloc | apply pw_below_drewN | apply below_drew1 | refine below_set ?_ GE299.out) | exact HB.out)) hb); clear BK299; clear HB; have HO310 := n0_; have BK299 := n1_; have HB := n2_; clear n0_ n1_ n2_; (try clear hb); (try clear hb2); (try clear hk); (try clear hi); (try clear ho0)) | ((with_reducible refine gate_dst (N := 7) rfl ?_); (try (refine gate_guard (by rfl) ?_; dsimp only)); refine box_event ?hg (N := 7) ?hd (cs := #[.string (⟨#[]⟩ : ByteArray), .string (⟨#[]⟩ : ByteArray), .string (⟨#[]⟩ : ByteArray), .string (⟨#[]⟩ : ByteArray), .string (⟨#[]⟩ : ByteArray), .string (⟨#[]⟩ : ByteArray), .slice none 0 0]) (t := 35) ?hr ?_; (case hd => rfl); (case hg => rfl); (case hr => first | (go_simp; done) | (go_simp; rfl)); intro gb312 hg w24 hbox hb; have n0_ := Aside0.mk (Kd.R_below (by (with_reducible repeat (first | apply Kd.R_alloc | apply Kd.R_drewN | apply Kd.R_drew)); exact HO310.out) hb); have n1_ := Aside0.mk (blk_below (g := gb299) (o := .cells #[.string a0_0, .string a0_1, .string a0_2, .string a0_3, .string a0_4, .string a0_5, .slice A0_6 l0_6.length c0_6] 35 (0, 0)) (by (with_reducible repeat (first | refine blk_drewN ?_ _ | refine blk_drew ?_ | refine blk_alloc ?_ _)); exact BK299.out) hb); have n2_ := Aside0.mk (below_step (by repeat (first | (with_reducible first | exact HB.out | apply below_alloc | apply pw_below_drewN | apply below_drew1 | refine below_set ?_ GE299.out) | exact HB.out)) hb); have n3_ := Aside0.mk (hbox); have n4_ := Aside0.mk ((by rw [hg]; exact (below_size (by repeat (first | (with_reducible first | exact HB.out | apply below_alloc | apply pw_below_drewN | apply below_drew1 | refine below_set ?_ GE299.out) | exact HB.out))) : w.heap.size ≤ gb312)); have n5_ := Aside0.mk ((by rw [hg]; exact (below_size (by repeat (first | (with_reducible first | exact HB.out | apply below_alloc | apply pw_below_drewN | apply below_drew1 | refine below_set ?_ GE299.out) | exact HB.out))) : w.heap.size ≤ gb312)); have n6_ := Aside0.mk ((by rw [hg]; exact Nat.ne_of_lt (blk_lt (g := gb299) (o := .cells #[.string a0_0, .string a0_1, .string a0_2, .string a0_3, .string a0_4, .string a0_5, .slice A0_6 l0_6.length c0_6] 35 (0, 0)) (by (with_reducible repeat (first | refine blk_drewN ?_ _ | refine blk_drew ?_ | refine blk_alloc ?_ _)); exact BK299.out)) : gb299 ≠ gb312)); have n7_ := Aside0.mk ((by rw [hg]; exact Nat.ne_of_gt (blk_lt (g := gb299) (o := .cells #[.string a0_0, .string a0_1, .string a0_2, .string a0_3, .string a0_4, .string a0_5, .slice A0_6 l0_6.length c0_6] 35 (0, 0)) (by (with_reducible repeat (first | refine blk_drewN ?_ _ | refine blk_drew ?_ | refine blk_alloc ?_ _)); exact BK299.out)) : gb312 ≠ gb299)); clear HO310; clear BK299; clear HB; have HO310 := n0_; have BK299 := n1_; have HB := n2_; have BK312 := n3_; have GW312 := n4_; have GE312 := n5_; have NB299_312 := n6_; have NB312_299 := n7_; clear n0_ n1_ n2_ n3_ n4_ n5_ n6_ n7_; clear hb hbox hg; have hnb25 := NB312_299.out; have hnc25 := NB299_312.out; have hcz26_0 : w24.cell? ⟨gb312, 0, none⟩ = some (.string (⟨#[]⟩ : ByteArray)) := (blk_cell BK312.out 0).trans rfl; have hcz26_1 : w24.cell? ⟨gb312, 1, none⟩ = some (.string (⟨#[]⟩ : ByteArray)) := (blk_cell BK312.out 1).trans rfl; have hcz26_2 : w24.cell? ⟨gb312, 2, none⟩ = some (.string (⟨#[]⟩ : ByteArray)) := (blk_cell BK312.out 2).trans rfl; have hcz26_3 : w24.cell? ⟨gb312, 3, none⟩ = some (.string (⟨#[]⟩ : ByteArray)) := (blk_cell BK312.out 3).trans rfl; have hcz26_4 : w24.cell? ⟨gb312, 4, none⟩ = some (.string (⟨#[]⟩ : ByteArray)) := (blk_cell BK312.out 4).trans rfl; have hcz26_5 : w24.cell? ⟨gb312, 5, none⟩ = some (.string (⟨#[]⟩ : ByteArray)) := (blk_cell BK312.out 5).trans rfl; have hcz26_6 : w24.cell? ⟨gb312, 6, none⟩ = some (.slice none 0 0) := (blk_cell BK312.out 6).trans rfl; have hfz26_0 := blk_frozen BK312.out 0; have hfz26_1 := blk_frozen BK312.out 1; have hfz26_2 := blk_frozen BK312.out 2; have hfz26_3 := blk_frozen BK312.out 3; have hfz26_4 := blk_frozen BK312.out 4; have hfz26_5 := blk_frozen BK312.out 5; have hfz26_6 := blk_frozen BK312.out 6; obtain ⟨Ao27, co27, eo27⟩ := Kd.R_slice HO310.out; subst eo27) | ((with_reducible refine gate_callee (f := 25) rfl ?_); refine goesL_ (some 29) rfl rfl Try.func25 (by kernel_rfl) rfl #[.string a1] rfl (by (try simp only [List.map_toArray, List.map_cons, List.map_nil]); first | done | rfl | (simp only [List.length_drop, List.length_take]; rfl)) ?_; (with_reducible refine (deckleref15_Parse.calls kj4 a1 t313 t314 t315 t316 t317 t318 t319 t322 _ A13.out).mono ?_); rintro e w28 ⟨v320, rfl, ho0, hb⟩; refine ⟨_, rfl, ?_⟩; have n0_ := Aside0.mk (Kd.R_below (by (with_reducible repeat (first | apply Kd.R_alloc | apply Kd.R_drewN | apply Kd.R_drew)); exact (Kd.R_mono (Kd.R_far (p := ⟨gb312, 6, none⟩) (Kd.R_far (p := ⟨gb312, 5, none⟩) (Kd.R_far (p := ⟨gb312, 4, none⟩) (Kd.R_far (p := ⟨gb312, 3, none⟩) (Kd.R_far (p := ⟨gb312, 2, none⟩) (Kd.R_far (p := ⟨gb312, 1, none⟩) (Kd.R_far (p := ⟨gb312, 0, none⟩) (Kd.R_types HO310.out BK312.out (by decide)) (fun _ hk => hk.2) (.string t302)) (fun _ hk => hk.2) (.string t303)) (fun _ hk => hk.2) (.string t304)) (fun _ hk => hk.2) (.string t305)) (fun _ hk => hk.2) (.string t306)) (fun _ hk => hk.2) (.string t307)) (fun _ hk => hk.2) (.slice Ao27 t308.length co27)) (fun _ h_ => h_.1))) hb); have n1_ := Aside0.mk (Kd.V_lower (Kd.V_mono (ok' := fun k_ => some k_ ≠ (.slice Ao27 t308.length co27 : Value).ownBlock ∧ k_ ≠ gb299 ∧ k_ ≠ gb312) ho0 (fun k_ hk_ => ⟨(Kd.fresh' (Kd.R_lt (by (with_reducible repeat (first | apply Kd.R_alloc | apply Kd.R_drewN | apply Kd.R_drew)); exact (Kd.R_mono (Kd.R_far (p := ⟨gb312, 6, none⟩) (Kd.R_far (p := ⟨gb312, 5, none⟩) (Kd.R_far (p := ⟨gb312, 4, none⟩) (Kd.R_far (p := ⟨gb312, 3, none⟩) (Kd.R_far (p := ⟨gb312, 2, none⟩) (Kd.R_far (p := ⟨gb312, 1, none⟩) (Kd.R_far (p := ⟨gb312, 0, none⟩) (Kd.R_types HO310.out BK312.out (by decide)) (fun _ hk => hk.2) (.string t302)) (fun _ hk => hk.2) (.string t303)) (fun _ hk => hk.2) (.string t304)) (fun _ hk => hk.2) (.string t305)) (fun _ hk => hk.2) (.string t306)) (fun _ hk => hk.2) (.string t307)) (fun _ hk => hk.2) (.slice Ao27 t308.length co27)) (fun _ h_ => h_.1)))) k_ hk_), (Kd.freshB (g := gb299) (o := .cells #[.string a0_0, .string a0_1, .string a0_2, .string a0_3, .string a0_4, .string a0_5, .slice A0_6 l0_6.length c0_6] 35 (0, 0)) (by (with_reducible repeat (first | refine blk_drewN ?_ _ | refine blk_drew ?_ | refine blk_alloc ?_ _)); refine blk_far ?_ NB299_312.out _; (with_reducible repeat (first | refine blk_drewN ?_ _ | refine blk_drew ?_ | refine blk_alloc ?_ _)); refine blk_far ?_ NB299_312.out _; (with_reducible repeat (first | refine blk_drewN ?_ _ | refine blk_drew ?_ | refine blk_alloc ?_ _)); refine blk_far ?_ NB299_312.out _; (with_reducible repeat (first | refine blk_drewN ?_ _ | refine blk_drew ?_ | refine blk_alloc ?_ _)); refine blk_far ?_ NB299_312.out _; (with_reducible repeat (first | refine blk_drewN ?_ _ | refine blk_drew ?_ | refine blk_alloc ?_ _)); refine blk_far ?_ NB299_312.out _; (with_reducible repeat (first | refine blk_drewN ?_ _ | refine blk_drew ?_ | refine blk_alloc ?_ _)); refine blk_far ?_ NB299_312.out _; (with_reducible repeat (first | refine blk_drewN ?_ _ | refine blk_drew ?_ | refine blk_alloc ?_ _)); refine blk_far ?_ NB299_312.out _; (with_reducible repeat (first | refine blk_drewN ?_ _ | refine blk_drew ?_ | refine blk_alloc ?_ _)); exact BK299.out) k_ hk_), (Kd.freshB (g := gb312) (o := .cells #[.string t302, .string t303, .string t304, .string t305, .string t306, .string t307, .slice Ao27 t308.length co27] 35 (0, 0)) (by (with_reducible repeat (first | refine blk_drewN ?_ _ | refine blk_drew ?_ | refine blk_alloc ?_ _)); refine blk_put (cs := #[.string t302, .string t303, .string t304, .string t305, .string t306, .string t307, .slice none 0 0]) ?_ 6 _ rfl; (with_reducible repeat (first | refine blk_drewN ?_ _ | refine blk_drew ?_ | refine blk_alloc ?_ _)); refine blk_put (cs := #[.string t302, .string t303, .string t304, .string t305, .string t306, .string (⟨#[]⟩ : ByteArray), .slice none 0 0]) ?_ 5 _ rfl; (with_reducible repeat (first | refine blk_drewN ?_ _ | refine blk_drew ?_ | refine blk_alloc ?_ _)); refine blk_put (cs := #[.string t302, .string t303, .string t304, .string t305, .string (⟨#[]⟩ : ByteArray), .string (⟨#[]⟩ : ByteArray), .slice none 0 0]) ?_ 4 _ rfl; (with_reducible repeat (first | refine blk_drewN ?_ _ | refine blk_drew ?_ | refine blk_alloc ?_ _)); refine blk_put (cs := #[.string t302, .string t303, .string t304, .string (⟨#[]⟩ : ByteArray), .string (⟨#[]⟩ : ByteArray), .string (⟨#[]⟩ : ByteArray), .slice none 0 0]) ?_ 3 _ rfl; (with_reducible repeat (first | refine blk_drewN ?_ _ | refine blk_drew ?_ | refine blk_alloc ?_ _)); refine blk_put (cs := #[.string t302, .string t303, .string (⟨#[]⟩ : ByteArray), .string (⟨#[]⟩ : ByteArray), .string (⟨#[]⟩ : ByteArray), .string (⟨#[]⟩ : ByteArray), .slice none 0 0]) ?_ 2 _ rfl; (with_reducible repeat (first | refine blk_drewN ?_ _ | refine blk_drew ?_ | refine blk_alloc ?_ _)); refine blk_put (cs := #[.string t302, .string (⟨#[]⟩ : ByteArray), .string (⟨#[]⟩ : ByteArray), .string (⟨#[]⟩ : ByteArray), .string (⟨#[]⟩ : ByteArray), .string (⟨#[]⟩ : ByteArray), .slice none 0 0]) ?_ 1 _ rfl; (with_reducible repeat (first | refine blk_drewN ?_ _ | refine blk_drew ?_ | refine blk_alloc ?_ _)); refine blk_put (cs := #[.string (⟨#[]⟩ : ByteArray), .string (⟨#[]⟩ : ByteArray), .string (⟨#[]⟩ : ByteArray), .string (⟨#[]⟩ : ByteArray), .string (⟨#[]⟩ : ByteArray), .string (⟨#[]⟩ : ByteArray), .slice none 0 0]) ?_ 0 _ rfl; (with_reducible repeat (first | refine blk_drewN ?_ _ | refine blk_drew ?_ | refine blk_alloc ?_ _)); exact BK312.out) k_ hk_)⟩)) (below_size (by repeat (first | (with_reducible first | exact HB.out | apply below_alloc | apply pw_below_drewN | apply below_drew1 | refine below_set ?_ GE299.out | refine below_set ?_ GE312.out) | exact HB.out)))); have n2_ := Aside0.mk (blk_below (g := gb299) (o := .cells #[.string a0_0, .string a0_1, .string a0_2, .string a0_3, .string a0_4, .string a0_5, .slice A0_6 l0_6.length c0_6] 35 (0, 0)) (by (with_reducible repeat (first | refine blk_drewN ?_ _ | refine blk_drew ?_ | refine blk_alloc ?_ _)); refine blk_far ?_ NB299_312.out _; (with_reducible repeat (first | refine blk_drewN ?_ _ | refine blk_drew ?_ | refine blk_alloc ?_ _)); refine blk_far ?_ NB299_312.out _; (with_reducible repeat (first | refine blk_drewN ?_ _ | refine blk_drew ?_ | refine blk_alloc ?_ _)); refine blk_far ?_ NB299_312.out _; (with_reducible repeat (first | refine blk_drewN ?_ _ | refine blk_drew ?_ | refine blk_alloc ?_ _)); refine blk_far ?_ NB299_312.out _; (with_reducible repeat (first | refine blk_drewN ?_ _ | refine blk_drew ?_ | refine blk_alloc ?_ _)); refine blk_far ?_ NB299_312.out _; (with_reducible repeat (first | refine blk_drewN ?_ _ | refine blk_drew ?_ | refine blk_alloc ?_ _)); refine blk_far ?_ NB299_312.out _; (with_reducible repeat (first | refine blk_drewN ?_ _ | refine blk_drew ?_ | refine blk_alloc ?_ _)); refine blk_far ?_ NB299_312.out _; (with_reducible repeat (first | refine blk_drewN ?_ _ | refine blk_drew ?_ | refine blk_alloc ?_ _)); exact BK299.out) hb); have n3_ := Aside0.mk (blk_below (g := gb312) (o := .cells #[.string t302, .string t303, .string t304, .string t305, .string t306, .string t307, .slice Ao27 t308.length co27] 35 (0, 0)) (by (with_reducible repeat (first | refine blk_drewN ?_ _ | refine blk_drew ?_ | refine blk_alloc ?_ _)); refine blk_put (cs := #[.string t302, .string t303, .string t304, .string t305, .string t306, .string t307, .slice none 0 0]) ?_ 6 _ rfl; (with_reducible repeat (first | refine blk_drewN ?_ _ | refine blk_drew ?_ | refine blk_alloc ?_ _)); refine blk_put (cs := #[.string t302, .string t303, .string t304, .string t305, .string t306, .string (⟨#[]⟩ : ByteArray), .slice none 0 0]) ?_ 5 _ rfl; (with_reducible repeat (first | refine blk_drewN ?_ _ | refine blk_drew ?_ | refine blk_alloc ?_ _)); refine blk_put (cs := #[.string t302, .string t303, .string t304, .string t305, .string (⟨#[]⟩ : ByteArray), .string (⟨#[]⟩ : ByteArray), .slice none 0 0]) ?_ 4 _ rfl; (with_reducible repeat (first | refine blk_drewN ?_ _ | refine blk_drew ?_ | refine blk_alloc ?_ _)); refine blk_put (cs := #[.string t302, .string t303, .string t304, .string (⟨#[]⟩ : ByteArray), .string (⟨#[]⟩ : ByteArray), .string (⟨#[]⟩ : ByteArray), .slice none 0 0]) ?_ 3 _ rfl; (with_reducible repeat (first | refine blk_drewN ?_ _ | refine blk_drew ?_ | refine blk_alloc ?_ _)); refine blk_put (cs := #[.string t302, .string t303, .string (⟨#[]⟩ : ByteArray), .string (⟨#[]⟩ : ByteArray), .string (⟨#[]⟩ : ByteArray), .string (⟨#[]⟩ : ByteArray), .slice none 0 0]) ?_ 2 _ rfl; (with_reducible repeat (first | refine blk_drewN ?_ _ | refine blk_drew ?_ | refine blk_alloc ?_ _)); refine blk_put (cs := #[.string t302, .string (⟨#[]⟩ : ByteArray), .string (⟨#[]⟩ : ByteArray), .string (⟨#[]⟩ : ByteArray), .string (⟨#[]⟩ : ByteArray), .string (⟨#[]⟩ : ByteArray), .slice none 0 0]) ?_ 1 _ rfl; (with_reducible repeat (first | refine blk_drewN ?_ _ | refine blk_drew ?_ | refine blk_alloc ?_ _)); refine blk_put (cs := #[.string (⟨#[]⟩ : ByteArray), .string (⟨#[]⟩ : ByteArray), .string (⟨#[]⟩ : ByteArray), .string (⟨#[]⟩ : ByteArray), .string (⟨#[]⟩ : ByteArray), .string (⟨#[]⟩ : ByteArray), .slice none 0 0]) ?_ 0 _ rfl; (with_reducible repeat (first | refine blk_drewN ?_ _ | refine blk_drew ?_ | refine blk_alloc ?_ _)); exact BK312.out) hb); have n4_ := Aside0.mk (below_step (by repeat (first | (with_reducible first | exact HB.out | apply below_alloc | apply pw_below_drewN | apply below_drew1 | refine below_set ?_ GE299.out | refine below_set ?_ GE312.out) | exact HB.out)) hb); clear HO310; clear BK299; clear BK312; clear HB; have HO310 := n0_; have HO321 := n1_; have BK299 := n2_; have BK312 := n3_; have HB := n4_; clear n0_ n1_ n2_ n3_ n4_; (try clear hb); (try clear hb2); (try clear hk); (try clear hi); (try clear ho0)) | ((with_reducible refine gate_dst (N := 9) rfl ?_); (try (refine gate_guard (by rfl) ?_; dsimp only)); refine box_event ?hg (N := 9) ?hd (cs := #[.string (⟨#[]⟩ : ByteArray), .string (⟨#[]⟩ : ByteArray), .string (⟨#[]⟩ : ByteArray), .string (⟨#[]⟩ : ByteArray), .string (⟨#[]⟩ : ByteArray), .string (⟨#[]⟩ : ByteArray), .slice none 0 0]) (t := 35) ?hr ?_; (case hd => rfl); (case hg => rfl); (case hr => first | (go_simp; done) | (go_simp; rfl)); intro gb323 hg w29 hbox hb; have n0_ := Aside0.mk (Kd.R_below (by (with_reducible repeat (first | apply Kd.R_alloc | apply Kd.R_drewN | apply Kd.R_drew)); exact HO310.out) hb); have n1_ := Aside0.mk (Kd.V_below (Kd.V_elderB (by (with_reducible repeat (first | apply Kd.V_alloc | apply Kd.V_drewN | apply Kd.V_drew)); exact HO321.out) gb323 (Nat.le_of_eq hg.symm)) hb); have n2_ := Aside0.mk (blk_below (g := gb299) (o := .cells #[.string a0_0, .string a0_1, .string a0_2, .string a0_3, .string a0_4, .string a0_5, .slice A0_6 l0_6.length c0_6] 35 (0, 0)) (by (with_reducible repeat (first | refine blk_drewN ?_ _ | refine blk_drew ?_ | refine blk_alloc ?_ _)); exact BK299.out) hb); have n3_ := Aside0.mk (blk_below (g := gb312) (o := .cells #[.string t302, .string t303, .string t304, .string t305, .string t306, .string t307, .slice Ao27 t308.length co27] 35 (0, 0)) (by (with_reducible repeat (first | refine blk_drewN ?_ _ | refine blk_drew ?_ | refine blk_alloc ?_ _)); exact BK312.out) hb); have n4_ := Aside0.mk (below_step (by repeat (first | (with_reducible first | exact HB.out | apply below_alloc | apply pw_below_drewN | apply below_drew1 | refine below_set ?_ GE299.out | refine below_set ?_ GE312.out) | exact HB.out)) hb); have n5_ := Aside0.mk (hbox); have n6_ := Aside0.mk ((by rw [hg]; exact (below_size (by repeat (first | (with_reducible first | exact HB.out | apply below_alloc | apply pw_below_drewN | apply below_drew1 | refine below_set ?_ GE299.out | refine below_set ?_ GE312.out) | exact HB.out))) : w.heap.size ≤ gb323)); have n7_ := Aside0.mk ((by rw [hg]; exact (below_size (by repeat (first | (with_reducible first | exact HB.out | apply below_alloc | apply pw_below_drewN | apply below_drew1 | refine below_set ?_ GE299.out | refine below_set ?_ GE312.out) | exact HB.out))) : w.heap.size ≤ gb323)); have n8_ := Aside0.mk ((by rw [hg]; exact Nat.ne_of_lt (blk_lt (g := gb299) (o := .cells #[.string a0_0, .string a0_1, .string a0_2, .string a0_3, .string a0_4, .string a0_5, .slice A0_6 l0_6.length c0_6] 35 (0, 0)) (by (with_reducible repeat (first | refine blk_drewN ?_ _ | refine blk_drew ?_ | refine blk_alloc ?_ _)); exact BK299.out)) : gb299 ≠ gb323)); have n9_ := Aside0.mk ((by rw [hg]; exact Nat.ne_of_gt (blk_lt (g := gb299) (o := .cells #[.string a0_0, .string a0_1, .string a0_2, .string a0_3, .string a0_4, .string a0_5, .slice A0_6 l0_6.length c0_6] 35 (0, 0)) (by (with_reducible repeat (first | refine blk_drewN ?_ _ | refine blk_drew ?_ | refine blk_alloc ?_ _)); exact BK299.out)) : gb323 ≠ gb299)); have n10_ := Aside0.mk ((by rw [hg]; exact Nat.ne_of_lt (blk_lt (g := gb312) (o := .cells #[.string t302, .string t303, .string t304, .string t305, .string t306, .string t307, .slice Ao27 t308.length co27] 35 (0, 0)) (by (with_reducible repeat (first | refine blk_drewN ?_ _ | refine blk_drew ?_ | refine blk_alloc ?_ _)); exact BK312.out)) : gb312 ≠ gb323)); have n11_ := Aside0.mk ((by rw [hg]; exact Nat.ne_of_gt (blk_lt (g := gb312) (o := .cells #[.string t302, .string t303, .string t304, .string t305, .string t306, .string t307, .slice Ao27 t308.length co27] 35 (0, 0)) (by (with_reducible repeat (first | refine blk_drewN ?_ _ | refine blk_drew ?_ | refine blk_alloc ?_ _)); exact BK312.out)) : gb323 ≠ gb312)); clear HO310; clear HO321; clear BK299; clear BK312; clear HB; have HO310 := n0_; have HO321 := n1_; have BK299 := n2_; have BK312 := n3_; have HB := n4_; have BK323 := n5_; have GW323 := n6_; have GE323 := n7_; have NB299_323 := n8_; have NB323_299 := n9_; have NB312_323 := n10_; have NB323_312 := n11_; clear n0_ n1_ n2_ n3_ n4_ n5_ n6_ n7_ n8_ n9_ n10_ n11_; clear hb hbox hg; have hnb30 := NB323_299.out; have hnc30 := NB299_323.out; have hnb31 := NB323_312.out; have hnc31 := NB312_323.out; have hcz32_0 : w29.cell? ⟨gb323, 0, none⟩ = some (.string (⟨#[]⟩ : ByteArray)) := (blk_cell BK323.out 0).trans rfl; have hcz32_1 : w29.cell? ⟨gb323, 1, none⟩ = some (.string (⟨#[]⟩ : ByteArray)) := (blk_cell BK323.out 1).trans rfl; have hcz32_2 : w29.cell? ⟨gb323, 2, none⟩ = some (.string (⟨#[]⟩ : ByteArray)) := (blk_cell BK323.out 2).trans rfl; have hcz32_3 : w29.cell? ⟨gb323, 3, none⟩ = some (.string (⟨#[]⟩ : ByteArray)) := (blk_cell BK323.out 3).trans rfl; have hcz32_4 : w29.cell? ⟨gb323, 4, none⟩ = some (.string (⟨#[]⟩ : ByteArray)) := (blk_cell BK323.out 4).trans rfl; have hcz32_5 : w29.cell? ⟨gb323, 5, none⟩ = some (.string (⟨#[]⟩ : ByteArray)) := (blk_cell BK323.out 5).trans rfl; have hcz32_6 : w29.cell? ⟨gb323, 6, none⟩ = some (.slice none 0 0) := (blk_cell BK323.out 6).trans rfl; have hfz32_0 := blk_frozen BK323.out 0; have hfz32_1 := blk_frozen BK323.out 1; have hfz32_2 := blk_frozen BK323.out 2; have hfz32_3 := blk_frozen BK323.out 3; have hfz32_4 := blk_frozen BK323.out 4; have hfz32_5 := blk_frozen BK323.out 5; have hfz32_6 := blk_frozen BK323.out 6; obtain ⟨Ao33, co33, eo33⟩ := Kd.V_slice HO321.out; subst eo33))
                have n0_ : Aside0 (Kd.R Kd.string 9 (((((((w29.setCell ⟨gb323, 0, none⟩ (.string t313)).setCell ⟨gb323, 1, none⟩ (.string t314)).setCell ⟨gb323, 2, none⟩ (.string t315)).setCell ⟨gb323, 3, none⟩ (.string t316)).setCell ⟨gb323, 4, none⟩ (.string t317)).setCell ⟨gb323, 5, none⟩ (.string t318)).setCell ⟨gb323, 6, none⟩ (.slice Ao33 t319.length co33)) w.heap.size (fun _ => True) (.slice Ao27 t308.length co27) t308) := ⟨by (with_reducible repeat (first | apply Kd.R_alloc | apply Kd.R_drewN | apply Kd.R_drew)); exact Kd.R_mono (Kd.R_far (p := ⟨gb323, 6, none⟩) (Kd.R_far (p := ⟨gb323, 5, none⟩) (Kd.R_far (p := ⟨gb323, 4, none⟩) (Kd.R_far (p := ⟨gb323, 3, none⟩) (Kd.R_far (p := ⟨gb323, 2, none⟩) (Kd.R_far (p := ⟨gb323, 1, none⟩) (Kd.R_far (p := ⟨gb323, 0, none⟩) (Kd.R_types HO310.out BK323.out (by decide)) (fun _ hk => hk.2) (.string t313)) (fun _ hk => hk.2) (.string t314)) (fun _ hk => hk.2) (.string t315)) (fun _ hk => hk.2) (.string t316)) (fun _ hk => hk.2) (.string t317)) (fun _ hk => hk.2) (.string t318)) (fun _ hk => hk.2) (.slice Ao33 t319.length co33)) (fun _ hk => trivial)⟩
                have n1_ : Aside0 (Kd.V Kd.string 9 (((((((w29.setCell ⟨gb323, 0, none⟩ (.string t313)).setCell ⟨gb323, 1, none⟩ (.string t314)).setCell ⟨gb323, 2, none⟩ (.string t315)).setCell ⟨gb323, 3, none⟩ (.string t316)).setCell ⟨gb323, 4, none⟩ (.string t317)).setCell ⟨gb323, 5, none⟩ (.string t318)).setCell ⟨gb323, 6, none⟩ (.slice Ao33 t319.length co33)) w.heap.size (fun k_ => some k_ ≠ (.slice Ao27 t308.length co27 : Value).ownBlock ∧ k_ ≠ gb299 ∧ k_ ≠ gb312 ∧ k_ ≠ gb323) (.slice Ao33 t319.length co33) t319) := ⟨by (with_reducible repeat (first | apply Kd.V_alloc | apply Kd.V_drewN | apply Kd.V_drew)); exact Kd.V_mono (Kd.V_far (p := ⟨gb323, 6, none⟩) (Kd.V_far (p := ⟨gb323, 5, none⟩) (Kd.V_far (p := ⟨gb323, 4, none⟩) (Kd.V_far (p := ⟨gb323, 3, none⟩) (Kd.V_far (p := ⟨gb323, 2, none⟩) (Kd.V_far (p := ⟨gb323, 1, none⟩) (Kd.V_far (p := ⟨gb323, 0, none⟩) (Kd.V_mono HO321.out (fun k_ hk => (⟨hk, hk.2⟩ : _ ∧ k_ ≠ gb323))) (fun _ hk => hk.2) (.string t313)) (fun _ hk => hk.2) (.string t314)) (fun _ hk => hk.2) (.string t315)) (fun _ hk => hk.2) (.string t316)) (fun _ hk => hk.2) (.string t317)) (fun _ hk => hk.2) (.string t318)) (fun _ hk => hk.2) (.slice Ao33 t319.length co33)) (fun _ hk => ⟨hk.1.1.1, ⟨hk.1.1.2.1, ⟨hk.1.1.2.2, hk.1.2⟩⟩⟩)⟩
                have n2_ : Aside0 ((((((((w29.setCell ⟨gb323, 0, none⟩ (.string t313)).setCell ⟨gb323, 1, none⟩ (.string t314)).setCell ⟨gb323, 2, none⟩ (.string t315)).setCell ⟨gb323, 3, none⟩ (.string t316)).setCell ⟨gb323, 4, none⟩ (.string t317)).setCell ⟨gb323, 5, none⟩ (.string t318)).setCell ⟨gb323, 6, none⟩ (.slice Ao33 t319.length co33)).heap[gb299]? = some (.cells #[.string a0_0, .string a0_1, .string a0_2, .string a0_3, .string a0_4, .string a0_5, .slice A0_6 l0_6.length c0_6] 35 (0, 0))) := ⟨by (with_reducible repeat (first | refine blk_drewN ?_ _ | refine blk_drew ?_ | refine blk_alloc ?_ _)); refine blk_far ?_ NB299_323.out _; (with_reducible repeat (first | refine blk_drewN ?_ _ | refine blk_drew ?_ | refine blk_alloc ?_ _)); refine blk_far ?_ NB299_323.out _; (with_reducible repeat (first | refine blk_drewN ?_ _ | refine blk_drew ?_ | refine blk_alloc ?_ _)); refine blk_far ?_ NB299_323.out _; (with_reducible repeat (first | refine blk_drewN ?_ _ | refine blk_drew ?_ | refine blk_alloc ?_ _)); refine blk_far ?_ NB299_323.out _; (with_reducible repeat (first | refine blk_drewN ?_ _ | refine blk_drew ?_ | refine blk_alloc ?_ _)); refine blk_far ?_ NB299_323.out _; (with_reducible repeat (first | refine blk_drewN ?_ _ | refine blk_drew ?_ | refine blk_alloc ?_ _)); refine blk_far ?_ NB299_323.out _; (with_reducible repeat (first | refine blk_drewN ?_ _ | refine blk_drew ?_ | refine blk_alloc ?_ _)); refine blk_far ?_ NB299_323.out _; (with_reducible repeat (first | refine blk_drewN ?_ _ | refine blk_drew ?_ | refine blk_alloc ?_ _)); exact BK299.out⟩
                have n3_ : Aside0 ((((((((w29.setCell ⟨gb323, 0, none⟩ (.string t313)).setCell ⟨gb323, 1, none⟩ (.string t314)).setCell ⟨gb323, 2, none⟩ (.string t315)).setCell ⟨gb323, 3, none⟩ (.string t316)).setCell ⟨gb323, 4, none⟩ (.string t317)).setCell ⟨gb323, 5, none⟩ (.string t318)).setCell ⟨gb323, 6, none⟩ (.slice Ao33 t319.length co33)).heap[gb312]? = some (.cells #[.string t302, .string t303, .string t304, .string t305, .string t306, .string t307, .slice Ao27 t308.length co27] 35 (0, 0))) := ⟨by (with_reducible repeat (first | refine blk_drewN ?_ _ | refine blk_drew ?_ | refine blk_alloc ?_ _)); refine blk_far ?_ NB312_323.out _; (with_reducible repeat (first | refine blk_drewN ?_ _ | refine blk_drew ?_ | refine blk_alloc ?_ _)); refine blk_far ?_ NB312_323.out _; (with_reducible repeat (first | refine blk_drewN ?_ _ | refine blk_drew ?_ | refine blk_alloc ?_ _)); refine blk_far ?_ NB312_323.out _; (with_reducible repeat (first | refine blk_drewN ?_ _ | refine blk_drew ?_ | refine blk_alloc ?_ _)); refine blk_far ?_ NB312_323.out _; (with_reducible repeat (first | refine blk_drewN ?_ _ | refine blk_drew ?_ | refine blk_alloc ?_ _)); refine blk_far ?_ NB312_323.out _; (with_reducible repeat (first | refine blk_drewN ?_ _ | refine blk_drew ?_ | refine blk_alloc ?_ _)); refine blk_far ?_ NB312_323.out _; (with_reducible repeat (first | refine blk_drewN ?_ _ | refine blk_drew ?_ | refine blk_alloc ?_ _)); refine blk_far ?_ NB312_323.out _; (with_reducible repeat (first | refine blk_drewN ?_ _ | refine blk_drew ?_ | refine blk_alloc ?_ _)); exact BK312.out⟩
                have n4_ : Aside0 ((((((((w29.setCell ⟨gb323, 0, none⟩ (.string t313)).setCell ⟨gb323, 1, none⟩ (.string t314)).setCell ⟨gb323, 2, none⟩ (.string t315)).setCell ⟨gb323, 3, none⟩ (.string t316)).setCell ⟨gb323, 4, none⟩ (.string t317)).setCell ⟨gb323, 5, none⟩ (.string t318)).setCell ⟨gb323, 6, none⟩ (.slice Ao33 t319.length co33)).heap[gb323]? = some (.cells #[.string t313, .string t314, .string t315, .string t316, .string t317, .string t318, .slice Ao33 t319.length co33] 35 (0, 0))) := ⟨by (with_reducible repeat (first | refine blk_drewN ?_ _ | refine blk_drew ?_ | refine blk_alloc ?_ _)); refine blk_put (cs := #[.string t313, .string t314, .string t315, .string t316, .string t317, .string t318, .slice none 0 0]) ?_ 6 _ rfl; (with_reducible repeat (first | refine blk_drewN ?_ _ | refine blk_drew ?_ | refine blk_alloc ?_ _)); refine blk_put (cs := #[.string t313, .string t314, .string t315, .string t316, .string t317, .string (⟨#[]⟩ : ByteArray), .slice none 0 0]) ?_ 5 _ rfl; (with_reducible repeat (first | refine blk_drewN ?_ _ | refine blk_drew ?_ | refine blk_alloc ?_ _)); refine blk_put (cs := #[.string t313, .string t314, .string t315, .string t316, .string (⟨#[]⟩ : ByteArray), .string (⟨#[]⟩ : ByteArray), .slice none 0 0]) ?_ 4 _ rfl; (with_reducible repeat (first | refine blk_drewN ?_ _ | refine blk_drew ?_ | refine blk_alloc ?_ _)); refine blk_put (cs := #[.string t313, .string t314, .string t315, .string (⟨#[]⟩ : ByteArray), .string (⟨#[]⟩ : ByteArray), .string (⟨#[]⟩ : ByteArray), .slice none 0 0]) ?_ 3 _ rfl; (with_reducible repeat (first | refine blk_drewN ?_ _ | refine blk_drew ?_ | refine blk_alloc ?_ _)); refine blk_put (cs := #[.string t313, .string t314, .string (⟨#[]⟩ : ByteArray), .string (⟨#[]⟩ : ByteArray), .string (⟨#[]⟩ : ByteArray), .string (⟨#[]⟩ : ByteArray), .slice none 0 0]) ?_ 2 _ rfl; (with_reducible repeat (first | refine blk_drewN ?_ _ | refine blk_drew ?_ | refine blk_alloc ?_ _)); refine blk_put (cs := #[.string t313, .string (⟨#[]⟩ : ByteArray), .string (⟨#[]⟩ : ByteArray), .string (⟨#[]⟩ : ByteArray), .string (⟨#[]⟩ : ByteArray), .string (⟨#[]⟩ : ByteArray), .slice none 0 0]) ?_ 1 _ rfl; (with_reducible repeat (first | refine blk_drewN ?_ _ | refine blk_drew ?_ | refine blk_alloc ?_ _)); refine blk_put (cs := #[.string (⟨#[]⟩ : ByteArray), .string (⟨#[]⟩ : ByteArray), .string (⟨#[]⟩ : ByteArray), .string (⟨#[]⟩ : ByteArray), .string (⟨#[]⟩ : ByteArray), .string (⟨#[]⟩ : ByteArray), .slice none 0 0]) ?_ 0 _ rfl; (with_reducible repeat (first | refine blk_drewN ?_ _ | refine blk_drew ?_ | refine blk_alloc ?_ _)); exact BK323.out⟩
                have n5_ : Aside0 (Below w.heap.size w (((((((w29.setCell ⟨gb323, 0, none⟩ (.string t313)).setCell ⟨gb323, 1, none⟩ (.string t314)).setCell ⟨gb323, 2, none⟩ (.string t315)).setCell ⟨gb323, 3, none⟩ (.string t316)).setCell ⟨gb323, 4, none⟩ (.string t317)).setCell ⟨gb323, 5, none⟩ (.string t318)).setCell ⟨gb323, 6, none⟩ (.slice Ao33 t319.length co33))) := ⟨by repeat (first | (with_reducible first | exact HB.out | apply below_alloc | apply pw_below_drewN | apply below_drew1 | refine below_set ?_ GE299.out | refine below_set ?_ GE312.out | refine below_set ?_ GE323.out) | exact HB.out)⟩
                (try clear HO310)
                (try clear HO321)
                (try clear BK299)
                (try clear BK312)
                (try clear BK323)
                (try clear HB)
                generalize (((((((w29.setCell ⟨gb323, 0, none⟩ (.string t313)).setCell ⟨gb323, 1, none⟩ (.string t314)).setCell ⟨gb323, 2, none⟩ (.string t315)).setCell ⟨gb323, 3, none⟩ (.string t316)).setCell ⟨gb323, 4, none⟩ (.string t317)).setCell ⟨gb323, 5, none⟩ (.string t318)).setCell ⟨gb323, 6, none⟩ (.slice Ao33 t319.length co33)) = w34 at n0_ n1_ n2_ n3_ n4_ n5_ ⊢
                have HO310 := n0_
                have HO321 := n1_
                have BK299 := n2_
                have BK312 := n3_
                have BK323 := n4_
                have HB := n5_
                clear n0_ n1_ n2_ n3_ n4_ n5_
                have n0_ := Aside0.mk (Kd.R_drew HO310.out)
                have n1_ := Aside0.mk (Kd.V_drew HO321.out)
                have n2_ := Aside0.mk (blk_drew BK299.out)
                have n3_ := Aside0.mk (blk_drew BK312.out)
                have n4_ := Aside0.mk (blk_drew BK323.out)
                have n5_ := Aside0.mk (below_drew1 HB.out)
                clear HO310
                clear HO321
                clear BK299
                clear BK312
                clear BK323
                clear HB
                have HO310 := n0_
                have HO321 := n1_
                have BK299 := n2_
                have BK312 := n3_
                have BK323 := n4_
                have HB := n5_
                clear n0_ n1_ n2_ n3_ n4_ n5_
                refine start_ (n := 26) (S := fun w' => w'.cell? ⟨gb299, 0, none⟩ = some (.string a0_0) ∧ w'.cell? ⟨gb299, 1, none⟩ = some (.string a0_1) ∧ w'.cell? ⟨gb299, 2, none⟩ = some (.string a0_2) ∧ w'.cell? ⟨gb299, 3, none⟩ = some (.string a0_3) ∧ w'.cell? ⟨gb299, 4, none⟩ = some (.string a0_4) ∧ w'.cell? ⟨gb299, 5, none⟩ = some (.string a0_5) ∧ w'.cell? ⟨gb299, 6, none⟩ = some (.slice A0_6 l0_6.length c0_6) ∧ w'.cell? ⟨gb312, 0, none⟩ = some (.string t302) ∧ w'.cell? ⟨gb312, 1, none⟩ = some (.string t303) ∧ w'.cell? ⟨gb312, 2, none⟩ = some (.string t304) ∧ w'.cell? ⟨gb312, 3, none⟩ = some (.string t305) ∧ w'.cell? ⟨gb312, 4, none⟩ = some (.string t306) ∧ w'.cell? ⟨gb312, 5, none⟩ = some (.string t307) ∧ w'.cell? ⟨gb312, 6, none⟩ = some (.slice Ao27 t308.length co27) ∧ w'.cell? ⟨gb323, 0, none⟩ = some (.string t313) ∧ w'.cell? ⟨gb323, 1, none⟩ = some (.string t314) ∧ w'.cell? ⟨gb323, 2, none⟩ = some (.string t315) ∧ w'.cell? ⟨gb323, 3, none⟩ = some (.string t316) ∧ w'.cell? ⟨gb323, 4, none⟩ = some (.string t317) ∧ w'.cell? ⟨gb323, 5, none⟩ = some (.string t318) ∧ w'.cell? ⟨gb323, 6, none⟩ = some (.slice Ao33 t319.length co33)) (ds := []) #[false, false, false, false, false, false, false, false, false, false, false, false, false, false, false, false, false, false, false, false, false, false, false, false, false, false] (by kernel_rfl) rfl rfl ⟨(blk_cell BK299.out 0).trans rfl, (blk_cell BK299.out 1).trans rfl, (blk_cell BK299.out 2).trans rfl, (blk_cell BK299.out 3).trans rfl, (blk_cell BK299.out 4).trans rfl, (blk_cell BK299.out 5).trans rfl, (blk_cell BK299.out 6).trans rfl, (blk_cell BK312.out 0).trans rfl, (blk_cell BK312.out 1).trans rfl, (blk_cell BK312.out 2).trans rfl, (blk_cell BK312.out 3).trans rfl, (blk_cell BK312.out 4).trans rfl, (blk_cell BK312.out 5).trans rfl, (blk_cell BK312.out 6).trans rfl, (blk_cell BK323.out 0).trans rfl, (blk_cell BK323.out 1).trans rfl, (blk_cell BK323.out 2).trans rfl, (blk_cell BK323.out 3).trans rfl, (blk_cell BK323.out 4).trans rfl, (blk_cell BK323.out 5).trans rfl, (blk_cell BK323.out 6).trans rfl⟩ (fun hHeld => ?_); refine with_tabW decklelaw15_HeaderTells.tab7 decklelaw15_HeaderTells.bits7 (fun HT_ HW_ => ?_)
                generalize w34.drew = w35 at HO310 HO321 BK299 BK312 BK323 HB hHeld ⊢
                refine pure_ (i := 0) (N := some 32) (v := ?_) (a' := ?_) #[true, false, false, false, false, false, false, false, false, false, false, false, false, false, false, false, false, false, false, false, false, false, false, false, false, false] rfl rfl (any_of HT_.out (by kernel_rfl)) (fun _ _ _ h => h) (Or.inl ⟨by rfl, ?_⟩) ?_ ?_
                rotate_left
                · intro w'
                  go_simp
                  with_reducible rfl
                rotate_left
                · simp only [Act.put, List.setIfInBounds_toArray, List.set_cons_zero, List.set_cons_succ, i64_w, i32_w]
                  rfl
                refine pure_ (i := 1) (N := some 33) (v := ?_) (a' := ?_) #[true, true, false, false, false, false, false, false, false, false, false, false, false, false, false, false, false, false, false, false, false, false, false, false, false, false] rfl rfl (any_of HT_.out (by kernel_rfl)) (fun _ _ _ h => h) (Or.inl ⟨by rfl, ?_⟩) ?_ ?_
                rotate_left
                · intro w'
                  go_simp
                  with_reducible rfl
                rotate_left
                · simp only [Act.put, List.setIfInBounds_toArray, List.set_cons_zero, List.set_cons_succ, i64_w, i32_w]
                  rfl
                refine take_ (i := 2) (N := some 34) (v := ?_) (a' := ?_) #[true, true, true, false, false, false, false, false, false, false, false, false, false, false, false, false, false, false, false, false, false, false, false, false, false, false] rfl rfl (take_ofW HT_.out HW_.out (by kernel_rfl)) (fun _ _ _ h => h) (Or.inl ⟨by rfl, ?_⟩) hHeld ?_ ?_
                rotate_left
                · rintro w' ⟨s0, s1, s2, s3, s4, s5, s6, s7, s8, s9, s10, s11, s12, s13, s14, s15, s16, s17, s18, s19, s20⟩
                  go_simp
                  with_reducible rfl
                rotate_left
                · simp only [Act.put, List.setIfInBounds_toArray, List.set_cons_zero, List.set_cons_succ, i64_w, i32_w]
                  rfl
                refine take_ (i := 4) (N := some 36) (v := ?_) (a' := ?_) #[true, true, true, false, true, false, false, false, false, false, false, false, false, false, false, false, false, false, false, false, false, false, false, false, false, false] rfl rfl (take_ofW HT_.out HW_.out (by kernel_rfl)) (fun _ _ _ h => h) (Or.inl ⟨by rfl, ?_⟩) hHeld ?_ ?_
                rotate_left
                · rintro w' ⟨s0, s1, s2, s3, s4, s5, s6, s7, s8, s9, s10, s11, s12, s13, s14, s15, s16, s17, s18, s19, s20⟩
                  go_simp
                  with_reducible rfl
                rotate_left
                · simp only [Act.put, List.setIfInBounds_toArray, List.set_cons_zero, List.set_cons_succ, i64_w, i32_w]
                  rfl
                refine one_ (i := 3) (N := some 35) #[true, true, true, true, true, false, false, false, false, false, false, false, false, false, false, false, false, false, false, false, false, false, false, false, false, false] rfl rfl (one_of HT_.out (by kernel_rfl)) (by decide) (fun K hK => ?_)
                refine goes_ Try.func26 (by kernel_rfl) rfl #[.agg #[.string a0_0, .string a0_1, .string a0_2, .string a0_3, .string a0_4, .string a0_5, .slice A0_6 l0_6.length c0_6]] (by rfl) rfl rfl (by (try simp only [List.map_toArray, List.map_cons, List.map_nil]); first | done | rfl | (simp only [List.length_drop, List.length_take]; rfl)) ?_
                with_reducible refine (header_Right.calls kj4 a0_0 a0_1 a0_2 a0_3 a0_4 a0_5 _ _ l0_6 t324 _ ?side1 ?side2 A15.out).mono ?_
                (case side1 => repeat (first | exact (Kd.C_below HR0_6.out HB.out) | (with_reducible refine Kd.C_alloc ?_ _) | (with_reducible refine Kd.C_drewN ?_ _) | (with_reducible refine Kd.C_drew ?_)))
                (case side2 => exact HC0_6.out)
                rintro e w36 ⟨rfl, hb⟩
                refine ⟨_, rfl, ?_⟩
                have n0_ := Aside0.mk (Kd.R_below (by (with_reducible repeat (first | apply Kd.R_alloc | apply Kd.R_drewN | apply Kd.R_drew)); exact HO310.out) hb)
                have n1_ := Aside0.mk (Kd.V_below (by (with_reducible repeat (first | apply Kd.V_alloc | apply Kd.V_drewN | apply Kd.V_drew)); exact HO321.out) hb)
                have n2_ := Aside0.mk (blk_below (g := gb299) (o := .cells #[.string a0_0, .string a0_1, .string a0_2, .string a0_3, .string a0_4, .string a0_5, .slice A0_6 l0_6.length c0_6] 35 (0, 0)) (by (with_reducible repeat (first | refine blk_drewN ?_ _ | refine blk_drew ?_ | refine blk_alloc ?_ _)); exact BK299.out) hb)
                have n3_ := Aside0.mk (blk_below (g := gb312) (o := .cells #[.string t302, .string t303, .string t304, .string t305, .string t306, .string t307, .slice Ao27 t308.length co27] 35 (0, 0)) (by (with_reducible repeat (first | refine blk_drewN ?_ _ | refine blk_drew ?_ | refine blk_alloc ?_ _)); exact BK312.out) hb)
                have n4_ := Aside0.mk (blk_below (g := gb323) (o := .cells #[.string t313, .string t314, .string t315, .string t316, .string t317, .string t318, .slice Ao33 t319.length co33] 35 (0, 0)) (by (with_reducible repeat (first | refine blk_drewN ?_ _ | refine blk_drew ?_ | refine blk_alloc ?_ _)); exact BK323.out) hb)
                have n5_ := Aside0.mk (below_step (by repeat (first | (with_reducible first | exact HB.out | apply below_alloc | apply pw_below_drewN | apply below_drew1 | refine below_set ?_ GE299.out | refine below_set ?_ GE312.out | refine below_set ?_ GE323.out) | exact HB.out)) hb)
                clear HO310
                clear HO321
                clear BK299
                clear BK312
                clear BK323
                clear HB
                have HO310 := n0_
                have HO321 := n1_
                have BK299 := n2_
                have BK312 := n3_
                have BK323 := n4_
                have HB := n5_
                clear n0_ n1_ n2_ n3_ n4_ n5_
                (try clear hb)
                (try clear hb2)
                (try clear hk)
                (try clear hi)
                refine hK.out _ _ ⟨(blk_cell BK299.out 0).trans rfl, (blk_cell BK299.out 1).trans rfl, (blk_cell BK299.out 2).trans rfl, (blk_cell BK299.out 3).trans rfl, (blk_cell BK299.out 4).trans rfl, (blk_cell BK299.out 5).trans rfl, (blk_cell BK299.out 6).trans rfl, (blk_cell BK312.out 0).trans rfl, (blk_cell BK312.out 1).trans rfl, (blk_cell BK312.out 2).trans rfl, (blk_cell BK312.out 3).trans rfl, (blk_cell BK312.out 4).trans rfl, (blk_cell BK312.out 5).trans rfl, (blk_cell BK312.out 6).trans rfl, (blk_cell BK323.out 0).trans rfl, (blk_cell BK323.out 1).trans rfl, (blk_cell BK323.out 2).trans rfl, (blk_cell BK323.out 3).trans rfl, (blk_cell BK323.out 4).trans rfl, (blk_cell BK323.out 5).trans rfl, (blk_cell BK323.out 6).trans rfl⟩ (fun hHeld => ?_)
                clear hK K
                refine norm_ (a' := ?_) ?_ ?_
                rotate_left
                · show Act.put _ (some 35) _ = _
                  simp only [Act.put, List.setIfInBounds_toArray, List.set_cons_zero, List.set_cons_succ, i64_w, i32_w]
                  rfl
                refine one_ (i := 5) (N := some 37) #[true, true, true, true, true, true, false, false, false, false, false, false, false, false, false, false, false, false, false, false, false, false, false, false, false, false] rfl rfl (one_of HT_.out (by kernel_rfl)) (by decide) (fun K hK => ?_)
                refine goes_ Try.func27 (by kernel_rfl) rfl #[.agg #[.string a0_0, .string a0_1, .string a0_2, .string a0_3, .string a0_4, .string a0_5, .slice A0_6 l0_6.length c0_6]] (by rfl) rfl rfl (by (try simp only [List.map_toArray, List.map_cons, List.map_nil]); first | done | rfl | (simp only [List.length_drop, List.length_take]; rfl)) ?_
                with_reducible refine (deckleref15_Right.calls kj4 a0_0 a0_1 a0_2 a0_3 a0_4 a0_5 _ _ l0_6 t325 _ ?side1 ?side2 A16.out).mono ?_
                (case side1 => repeat (first | exact (Kd.C_below HR0_6.out HB.out) | (with_reducible refine Kd.C_alloc ?_ _) | (with_reducible refine Kd.C_drewN ?_ _) | (with_reducible refine Kd.C_drew ?_)))
                (case side2 => exact HC0_6.out)
                rintro e w37 ⟨rfl, hb⟩
                refine ⟨_, rfl, ?_⟩
                have n0_ := Aside0.mk (Kd.R_below (by (with_reducible repeat (first | apply Kd.R_alloc | apply Kd.R_drewN | apply Kd.R_drew)); exact HO310.out) hb)
                have n1_ := Aside0.mk (Kd.V_below (by (with_reducible repeat (first | apply Kd.V_alloc | apply Kd.V_drewN | apply Kd.V_drew)); exact HO321.out) hb)
                have n2_ := Aside0.mk (blk_below (g := gb299) (o := .cells #[.string a0_0, .string a0_1, .string a0_2, .string a0_3, .string a0_4, .string a0_5, .slice A0_6 l0_6.length c0_6] 35 (0, 0)) (by (with_reducible repeat (first | refine blk_drewN ?_ _ | refine blk_drew ?_ | refine blk_alloc ?_ _)); exact BK299.out) hb)
                have n3_ := Aside0.mk (blk_below (g := gb312) (o := .cells #[.string t302, .string t303, .string t304, .string t305, .string t306, .string t307, .slice Ao27 t308.length co27] 35 (0, 0)) (by (with_reducible repeat (first | refine blk_drewN ?_ _ | refine blk_drew ?_ | refine blk_alloc ?_ _)); exact BK312.out) hb)
                have n4_ := Aside0.mk (blk_below (g := gb323) (o := .cells #[.string t313, .string t314, .string t315, .string t316, .string t317, .string t318, .slice Ao33 t319.length co33] 35 (0, 0)) (by (with_reducible repeat (first | refine blk_drewN ?_ _ | refine blk_drew ?_ | refine blk_alloc ?_ _)); exact BK323.out) hb)
                have n5_ := Aside0.mk (below_step (by repeat (first | (with_reducible first | exact HB.out | apply below_alloc | apply pw_below_drewN | apply below_drew1 | refine below_set ?_ GE299.out | refine below_set ?_ GE312.out | refine below_set ?_ GE323.out) | exact HB.out)) hb)
                clear HO310
                clear HO321
                clear BK299
                clear BK312
                clear BK323
                clear HB
                have HO310 := n0_
                have HO321 := n1_
                have BK299 := n2_
                have BK312 := n3_
                have BK323 := n4_
                have HB := n5_
                clear n0_ n1_ n2_ n3_ n4_ n5_
                (try clear hb)
                (try clear hb2)
                (try clear hk)
                (try clear hi)
                refine hK.out _ _ ⟨(blk_cell BK299.out 0).trans rfl, (blk_cell BK299.out 1).trans rfl, (blk_cell BK299.out 2).trans rfl, (blk_cell BK299.out 3).trans rfl, (blk_cell BK299.out 4).trans rfl, (blk_cell BK299.out 5).trans rfl, (blk_cell BK299.out 6).trans rfl, (blk_cell BK312.out 0).trans rfl, (blk_cell BK312.out 1).trans rfl, (blk_cell BK312.out 2).trans rfl, (blk_cell BK312.out 3).trans rfl, (blk_cell BK312.out 4).trans rfl, (blk_cell BK312.out 5).trans rfl, (blk_cell BK312.out 6).trans rfl, (blk_cell BK323.out 0).trans rfl, (blk_cell BK323.out 1).trans rfl, (blk_cell BK323.out 2).trans rfl, (blk_cell BK323.out 3).trans rfl, (blk_cell BK323.out 4).trans rfl, (blk_cell BK323.out 5).trans rfl, (blk_cell BK323.out 6).trans rfl⟩ (fun hHeld => ?_)
                clear hK K
                refine norm_ (a' := ?_) ?_ ?_
                rotate_left
                · show Act.put _ (some 37) _ = _
                  simp only [Act.put, List.setIfInBounds_toArray, List.set_cons_zero, List.set_cons_succ, i64_w, i32_w]
                  rfl
                refine pure_ (i := 6) (N := some 38) (v := ?_) (a' := ?_) #[true, true, true, true, true, true, true, false, false, false, false, false, false, false, false, false, false, false, false, false, false, false, false, false, false, false] rfl rfl (any_of HT_.out (by kernel_rfl)) (fun _ _ _ h => h) (Or.inl ⟨by rfl, ?_⟩) ?_ ?_
                rotate_left
                · intro w'
                  go_simp
                  with_reducible rfl
                rotate_left
                · simp only [Act.put, List.setIfInBounds_toArray, List.set_cons_zero, List.set_cons_succ, i64_w, i32_w]
                  rfl
                refine pure_ (i := 7) (N := some 39) (v := ?_) (a' := ?_) #[true, true, true, true, true, true, true, true, false, false, false, false, false, false, false, false, false, false, false, false, false, false, false, false, false, false] rfl rfl (any_of HT_.out (by kernel_rfl)) (fun _ _ _ h => h) (Or.inl ⟨by rfl, ?_⟩) ?_ ?_
                rotate_left
                · intro w'
                  go_simp
                  with_reducible rfl
                rotate_left
                · simp only [Act.put, List.setIfInBounds_toArray, List.set_cons_zero, List.set_cons_succ, i64_w, i32_w]
                  rfl
                refine pure_ (i := 8) (N := some 40) (v := ?_) (a' := ?_) #[true, true, true, true, true, true, true, true, true, false, false, false, false, false, false, false, false, false, false, false, false, false, false, false, false, false] rfl rfl (any_of HT_.out (by kernel_rfl)) (fun _ _ _ h => h) (Or.inl ⟨by rfl, ?_⟩) ?_ ?_
                rotate_left
                · intro w'
                  go_simp
                  with_reducible rfl
                rotate_left
                · simp only [Act.put, List.setIfInBounds_toArray, List.set_cons_zero, List.set_cons_succ, i64_w, i32_w]
                  rfl
                refine take_ (i := 9) (N := some 41) (v := ?_) (a' := ?_) #[true, true, true, true, true, true, true, true, true, true, false, false, false, false, false, false, false, false, false, false, false, false, false, false, false, false] rfl rfl (take_ofW HT_.out HW_.out (by kernel_rfl)) (fun _ _ _ h => h) (Or.inl ⟨by rfl, ?_⟩) hHeld ?_ ?_
                rotate_left
                · rintro w' ⟨s0, s1, s2, s3, s4, s5, s6, s7, s8, s9, s10, s11, s12, s13, s14, s15, s16, s17, s18, s19, s20⟩
                  go_simp
                  with_reducible rfl
                rotate_left
                · simp only [Act.put, List.setIfInBounds_toArray, List.set_cons_zero, List.set_cons_succ, i64_w, i32_w]
                  rfl
                refine take_ (i := 11) (N := some 43) (v := ?_) (a' := ?_) #[true, true, true, true, true, true, true, true, true, true, false, true, false, false, false, false, false, false, false, false, false, false, false, false, false, false] rfl rfl (take_ofW HT_.out HW_.out (by kernel_rfl)) (fun _ _ _ h => h) (Or.inl ⟨by rfl, ?_⟩) hHeld ?_ ?_
                rotate_left
                · rintro w' ⟨s0, s1, s2, s3, s4, s5, s6, s7, s8, s9, s10, s11, s12, s13, s14, s15, s16, s17, s18, s19, s20⟩
                  go_simp
                  with_reducible rfl
                rotate_left
                · simp only [Act.put, List.setIfInBounds_toArray, List.set_cons_zero, List.set_cons_succ, i64_w, i32_w]
                  rfl
                refine one_ (i := 10) (N := some 42) #[true, true, true, true, true, true, true, true, true, true, true, true, false, false, false, false, false, false, false, false, false, false, false, false, false, false] rfl rfl (one_of HT_.out (by kernel_rfl)) (by decide) (fun K hK => ?_)
                refine goes_ Try.func28 (by kernel_rfl) rfl #[.agg #[.string a0_0, .string a0_1, .string a0_2, .string a0_3, .string a0_4, .string a0_5, .slice A0_6 l0_6.length c0_6]] (by rfl) rfl rfl (by (try simp only [List.map_toArray, List.map_cons, List.map_nil]); first | done | rfl | (simp only [List.length_drop, List.length_take]; rfl)) ?_
                with_reducible refine (header_Text.calls a0_0 a0_1 a0_2 a0_3 a0_4 a0_5 _ _ l0_6 t326 _ ?side1 ?side2 A18.out).mono ?_
                (case side1 => repeat (first | exact (Kd.C_below HR0_6.out HB.out) | (with_reducible refine Kd.C_alloc ?_ _) | (with_reducible refine Kd.C_drewN ?_ _) | (with_reducible refine Kd.C_drew ?_)))
                (case side2 => exact HC0_6.out)
                rintro e w38 ⟨rfl, hb⟩
                refine ⟨_, rfl, ?_⟩
                have n0_ := Aside0.mk (Kd.R_below (by (with_reducible repeat (first | apply Kd.R_alloc | apply Kd.R_drewN | apply Kd.R_drew)); exact HO310.out) hb)
                have n1_ := Aside0.mk (Kd.V_below (by (with_reducible repeat (first | apply Kd.V_alloc | apply Kd.V_drewN | apply Kd.V_drew)); exact HO321.out) hb)
                have n2_ := Aside0.mk (blk_below (g := gb299) (o := .cells #[.string a0_0, .string a0_1, .string a0_2, .string a0_3, .string a0_4, .string a0_5, .slice A0_6 l0_6.length c0_6] 35 (0, 0)) (by (with_reducible repeat (first | refine blk_drewN ?_ _ | refine blk_drew ?_ | refine blk_alloc ?_ _)); exact BK299.out) hb)
                have n3_ := Aside0.mk (blk_below (g := gb312) (o := .cells #[.string t302, .string t303, .string t304, .string t305, .string t306, .string t307, .slice Ao27 t308.length co27] 35 (0, 0)) (by (with_reducible repeat (first | refine blk_drewN ?_ _ | refine blk_drew ?_ | refine blk_alloc ?_ _)); exact BK312.out) hb)
                have n4_ := Aside0.mk (blk_below (g := gb323) (o := .cells #[.string t313, .string t314, .string t315, .string t316, .string t317, .string t318, .slice Ao33 t319.length co33] 35 (0, 0)) (by (with_reducible repeat (first | refine blk_drewN ?_ _ | refine blk_drew ?_ | refine blk_alloc ?_ _)); exact BK323.out) hb)
                have n5_ := Aside0.mk (below_step (by repeat (first | (with_reducible first | exact HB.out | apply below_alloc | apply pw_below_drewN | apply below_drew1 | refine below_set ?_ GE299.out | refine below_set ?_ GE312.out | refine below_set ?_ GE323.out) | exact HB.out)) hb)
                clear HO310
                clear HO321
                clear BK299
                clear BK312
                clear BK323
                clear HB
                have HO310 := n0_
                have HO321 := n1_
                have BK299 := n2_
                have BK312 := n3_
                have BK323 := n4_
                have HB := n5_
                clear n0_ n1_ n2_ n3_ n4_ n5_
                (try clear hb)
                (try clear hb2)
                (try clear hk)
                (try clear hi)
                refine hK.out _ _ ⟨(blk_cell BK299.out 0).trans rfl, (blk_cell BK299.out 1).trans rfl, (blk_cell BK299.out 2).trans rfl, (blk_cell BK299.out 3).trans rfl, (blk_cell BK299.out 4).trans rfl, (blk_cell BK299.out 5).trans rfl, (blk_cell BK299.out 6).trans rfl, (blk_cell BK312.out 0).trans rfl, (blk_cell BK312.out 1).trans rfl, (blk_cell BK312.out 2).trans rfl, (blk_cell BK312.out 3).trans rfl, (blk_cell BK312.out 4).trans rfl, (blk_cell BK312.out 5).trans rfl, (blk_cell BK312.out 6).trans rfl, (blk_cell BK323.out 0).trans rfl, (blk_cell BK323.out 1).trans rfl, (blk_cell BK323.out 2).trans rfl, (blk_cell BK323.out 3).trans rfl, (blk_cell BK323.out 4).trans rfl, (blk_cell BK323.out 5).trans rfl, (blk_cell BK323.out 6).trans rfl⟩ (fun hHeld => ?_)
                clear hK K
                refine norm_ (a' := ?_) ?_ ?_
                rotate_left
                · show Act.put _ (some 42) _ = _
                  simp only [Act.put, List.setIfInBounds_toArray, List.set_cons_zero, List.set_cons_succ, i64_w, i32_w]
                  rfl
                refine one_ (i := 12) (N := some 44) #[true, true, true, true, true, true, true, true, true, true, true, true, true, false, false, false, false, false, false, false, false, false, false, false, false, false] rfl rfl (one_of HT_.out (by kernel_rfl)) (by decide) (fun K hK => ?_)
                refine goes_ Try.func29 (by kernel_rfl) rfl #[.agg #[.string a0_0, .string a0_1, .string a0_2, .string a0_3, .string a0_4, .string a0_5, .slice A0_6 l0_6.length c0_6]] (by rfl) rfl rfl (by (try simp only [List.map_toArray, List.map_cons, List.map_nil]); first | done | rfl | (simp only [List.length_drop, List.length_take]; rfl)) ?_
                with_reducible refine (deckleref15_Text.calls kj4 a0_0 a0_1 a0_2 a0_3 a0_4 a0_5 _ _ l0_6 t327 _ ?side1 ?side2 A19.out).mono ?_
                (case side1 => repeat (first | exact (Kd.C_below HR0_6.out HB.out) | (with_reducible refine Kd.C_alloc ?_ _) | (with_reducible refine Kd.C_drewN ?_ _) | (with_reducible refine Kd.C_drew ?_)))
                (case side2 => exact HC0_6.out)
                rintro e w39 ⟨rfl, hb⟩
                refine ⟨_, rfl, ?_⟩
                have n0_ := Aside0.mk (Kd.R_below (by (with_reducible repeat (first | apply Kd.R_alloc | apply Kd.R_drewN | apply Kd.R_drew)); exact HO310.out) hb)
                have n1_ := Aside0.mk (Kd.V_below (by (with_reducible repeat (first | apply Kd.V_alloc | apply Kd.V_drewN | apply Kd.V_drew)); exact HO321.out) hb)
                have n2_ := Aside0.mk (blk_below (g := gb299) (o := .cells #[.string a0_0, .string a0_1, .string a0_2, .string a0_3, .string a0_4, .string a0_5, .slice A0_6 l0_6.length c0_6] 35 (0, 0)) (by (with_reducible repeat (first | refine blk_drewN ?_ _ | refine blk_drew ?_ | refine blk_alloc ?_ _)); exact BK299.out) hb)
                have n3_ := Aside0.mk (blk_below (g := gb312) (o := .cells #[.string t302, .string t303, .string t304, .string t305, .string t306, .string t307, .slice Ao27 t308.length co27] 35 (0, 0)) (by (with_reducible repeat (first | refine blk_drewN ?_ _ | refine blk_drew ?_ | refine blk_alloc ?_ _)); exact BK312.out) hb)
                have n4_ := Aside0.mk (blk_below (g := gb323) (o := .cells #[.string t313, .string t314, .string t315, .string t316, .string t317, .string t318, .slice Ao33 t319.length co33] 35 (0, 0)) (by (with_reducible repeat (first | refine blk_drewN ?_ _ | refine blk_drew ?_ | refine blk_alloc ?_ _)); exact BK323.out) hb)
                have n5_ := Aside0.mk (below_step (by repeat (first | (with_reducible first | exact HB.out | apply below_alloc | apply pw_below_drewN | apply below_drew1 | refine below_set ?_ GE299.out | refine below_set ?_ GE312.out | refine below_set ?_ GE323.out) | exact HB.out)) hb)
                clear HO310
                clear HO321
                clear BK299
                clear BK312
                clear BK323
                clear HB
                have HO310 := n0_
                have HO321 := n1_
                have BK299 := n2_
                have BK312 := n3_
                have BK323 := n4_
                have HB := n5_
                clear n0_ n1_ n2_ n3_ n4_ n5_
                (try clear hb)
                (try clear hb2)
                (try clear hk)
                (try clear hi)
                refine hK.out _ _ ⟨(blk_cell BK299.out 0).trans rfl, (blk_cell BK299.out 1).trans rfl, (blk_cell BK299.out 2).trans rfl, (blk_cell BK299.out 3).trans rfl, (blk_cell BK299.out 4).trans rfl, (blk_cell BK299.out 5).trans rfl, (blk_cell BK299.out 6).trans rfl, (blk_cell BK312.out 0).trans rfl, (blk_cell BK312.out 1).trans rfl, (blk_cell BK312.out 2).trans rfl, (blk_cell BK312.out 3).trans rfl, (blk_cell BK312.out 4).trans rfl, (blk_cell BK312.out 5).trans rfl, (blk_cell BK312.out 6).trans rfl, (blk_cell BK323.out 0).trans rfl, (blk_cell BK323.out 1).trans rfl, (blk_cell BK323.out 2).trans rfl, (blk_cell BK323.out 3).trans rfl, (blk_cell BK323.out 4).trans rfl, (blk_cell BK323.out 5).trans rfl, (blk_cell BK323.out 6).trans rfl⟩ (fun hHeld => ?_)
                clear hK K
                refine norm_ (a' := ?_) ?_ ?_
                rotate_left
                · show Act.put _ (some 44) _ = _
                  simp only [Act.put, List.setIfInBounds_toArray, List.set_cons_zero, List.set_cons_succ, i64_w, i32_w]
                  rfl
                refine pure_ (i := 13) (N := some 45) (v := ?_) (a' := ?_) #[true, true, true, true, true, true, true, true, true, true, true, true, true, true, false, false, false, false, false, false, false, false, false, false, false, false] rfl rfl (any_of HT_.out (by kernel_rfl)) (fun _ _ _ h => h) (Or.inl ⟨by rfl, ?_⟩) ?_ ?_
                rotate_left
                · intro w'
                  go_simp
                  with_reducible rfl
                rotate_left
                · simp only [Act.put, List.setIfInBounds_toArray, List.set_cons_zero, List.set_cons_succ, i64_w, i32_w]
                  rfl
                refine pure_ (i := 14) (N := some 46) (v := ?_) (a' := ?_) #[true, true, true, true, true, true, true, true, true, true, true, true, true, true, true, false, false, false, false, false, false, false, false, false, false, false] rfl rfl (any_of HT_.out (by kernel_rfl)) (fun _ _ _ h => h) (Or.inl ⟨by rfl, ?_⟩) ?_ ?_
                rotate_left
                · intro w'
                  go_simp
                  with_reducible rfl
                rotate_left
                · simp only [Act.put, List.setIfInBounds_toArray, List.set_cons_zero, List.set_cons_succ, i64_w, i32_w]
                  rfl
                refine pure_ (i := 15) (N := some 47) (v := ?_) (a' := ?_) #[true, true, true, true, true, true, true, true, true, true, true, true, true, true, true, true, false, false, false, false, false, false, false, false, false, false] rfl rfl (any_of HT_.out (by kernel_rfl)) (fun _ _ _ h => h) (Or.inl ⟨by rfl, ?_⟩) ?_ ?_
                rotate_left
                · intro w'
                  go_simp
                  with_reducible rfl
                rotate_left
                · simp only [Act.put, List.setIfInBounds_toArray, List.set_cons_zero, List.set_cons_succ, i64_w, i32_w]
                  rfl
                refine take_ (i := 16) (N := some 48) (v := ?_) (a' := ?_) #[true, true, true, true, true, true, true, true, true, true, true, true, true, true, true, true, true, false, false, false, false, false, false, false, false, false] rfl rfl (take_ofW HT_.out HW_.out (by kernel_rfl)) (fun _ _ _ h => h) (Or.inl ⟨by rfl, ?_⟩) hHeld ?_ ?_
                rotate_left
                · rintro w' ⟨s0, s1, s2, s3, s4, s5, s6, s7, s8, s9, s10, s11, s12, s13, s14, s15, s16, s17, s18, s19, s20⟩
                  go_simp
                  with_reducible rfl
                rotate_left
                · simp only [Act.put, List.setIfInBounds_toArray, List.set_cons_zero, List.set_cons_succ, i64_w, i32_w]
                  rfl
                refine take_ (i := 17) (N := some 49) (v := ?_) (a' := ?_) #[true, true, true, true, true, true, true, true, true, true, true, true, true, true, true, true, true, true, false, false, false, false, false, false, false, false] rfl rfl (take_ofW HT_.out HW_.out (by kernel_rfl)) (fun _ _ _ h => h) (Or.inl ⟨by rfl, ?_⟩) hHeld ?_ ?_
                rotate_left
                · rintro w' ⟨s0, s1, s2, s3, s4, s5, s6, s7, s8, s9, s10, s11, s12, s13, s14, s15, s16, s17, s18, s19, s20⟩
                  go_simp
                  with_reducible rfl
                rotate_left
                · simp only [Act.put, List.setIfInBounds_toArray, List.set_cons_zero, List.set_cons_succ, i64_w, i32_w]
                  rfl
                refine one_ (i := 18) (N := some 50) #[true, true, true, true, true, true, true, true, true, true, true, true, true, true, true, true, true, true, true, false, false, false, false, false, false, false] rfl rfl (one_of HT_.out (by kernel_rfl)) (by decide) (fun K hK => ?_)
                refine goes_ Try.func30 (by kernel_rfl) rfl #[.agg #[.string t302, .string t303, .string t304, .string t305, .string t306, .string t307, .slice Ao27 t308.length co27], .agg #[.string t313, .string t314, .string t315, .string t316, .string t317, .string t318, .slice Ao33 t319.length co33]] (by rfl) rfl rfl (by (try simp only [List.map_toArray, List.map_cons, List.map_nil]); first | done | rfl | (simp only [List.length_drop, List.length_take]; rfl)) ?_
                with_reducible refine (deckleref15_Same.calls kj4 t302 t303 t304 t305 t306 t307 _ _ t308 t313 t314 t315 t316 t317 t318 _ _ t319 true _ ?side1 ?side2 ?side3 ?side4 A21.out).mono ?_
                (case side1 => repeat (first | exact (Kd.R_reads' HO310.out).2.2 | (with_reducible refine Kd.C_alloc ?_ _) | (with_reducible refine Kd.C_drewN ?_ _) | (with_reducible refine Kd.C_drew ?_)))
                (case side2 => exact (Kd.R_reads' HO310.out).2.1)
                (case side3 => repeat (first | exact (Kd.V_reads' HO321.out).2.2 | (with_reducible refine Kd.C_alloc ?_ _) | (with_reducible refine Kd.C_drewN ?_ _) | (with_reducible refine Kd.C_drew ?_)))
                (case side4 => exact (Kd.V_reads' HO321.out).2.1)
                rintro e w40 ⟨rfl, hb⟩
                refine ⟨_, rfl, ?_⟩
                have n0_ := Aside0.mk (Kd.R_below (by (with_reducible repeat (first | apply Kd.R_alloc | apply Kd.R_drewN | apply Kd.R_drew)); exact HO310.out) hb)
                have n1_ := Aside0.mk (Kd.V_below (by (with_reducible repeat (first | apply Kd.V_alloc | apply Kd.V_drewN | apply Kd.V_drew)); exact HO321.out) hb)
                have n2_ := Aside0.mk (blk_below (g := gb299) (o := .cells #[.string a0_0, .string a0_1, .string a0_2, .string a0_3, .string a0_4, .string a0_5, .slice A0_6 l0_6.length c0_6] 35 (0, 0)) (by (with_reducible repeat (first | refine blk_drewN ?_ _ | refine blk_drew ?_ | refine blk_alloc ?_ _)); exact BK299.out) hb)
                have n3_ := Aside0.mk (blk_below (g := gb312) (o := .cells #[.string t302, .string t303, .string t304, .string t305, .string t306, .string t307, .slice Ao27 t308.length co27] 35 (0, 0)) (by (with_reducible repeat (first | refine blk_drewN ?_ _ | refine blk_drew ?_ | refine blk_alloc ?_ _)); exact BK312.out) hb)
                have n4_ := Aside0.mk (blk_below (g := gb323) (o := .cells #[.string t313, .string t314, .string t315, .string t316, .string t317, .string t318, .slice Ao33 t319.length co33] 35 (0, 0)) (by (with_reducible repeat (first | refine blk_drewN ?_ _ | refine blk_drew ?_ | refine blk_alloc ?_ _)); exact BK323.out) hb)
                have n5_ := Aside0.mk (below_step (by repeat (first | (with_reducible first | exact HB.out | apply below_alloc | apply pw_below_drewN | apply below_drew1 | refine below_set ?_ GE299.out | refine below_set ?_ GE312.out | refine below_set ?_ GE323.out) | exact HB.out)) hb)
                clear HO310
                clear HO321
                clear BK299
                clear BK312
                clear BK323
                clear HB
                have HO310 := n0_
                have HO321 := n1_
                have BK299 := n2_
                have BK312 := n3_
                have BK323 := n4_
                have HB := n5_
                clear n0_ n1_ n2_ n3_ n4_ n5_
                (try clear hb)
                (try clear hb2)
                (try clear hk)
                (try clear hi)
                refine hK.out _ _ ⟨(blk_cell BK299.out 0).trans rfl, (blk_cell BK299.out 1).trans rfl, (blk_cell BK299.out 2).trans rfl, (blk_cell BK299.out 3).trans rfl, (blk_cell BK299.out 4).trans rfl, (blk_cell BK299.out 5).trans rfl, (blk_cell BK299.out 6).trans rfl, (blk_cell BK312.out 0).trans rfl, (blk_cell BK312.out 1).trans rfl, (blk_cell BK312.out 2).trans rfl, (blk_cell BK312.out 3).trans rfl, (blk_cell BK312.out 4).trans rfl, (blk_cell BK312.out 5).trans rfl, (blk_cell BK312.out 6).trans rfl, (blk_cell BK323.out 0).trans rfl, (blk_cell BK323.out 1).trans rfl, (blk_cell BK323.out 2).trans rfl, (blk_cell BK323.out 3).trans rfl, (blk_cell BK323.out 4).trans rfl, (blk_cell BK323.out 5).trans rfl, (blk_cell BK323.out 6).trans rfl⟩ (fun hHeld => ?_)
                clear hK K
                refine norm_ (a' := ?_) ?_ ?_
                rotate_left
                · show Act.put _ (some 50) _ = _
                  simp only [Act.put, List.setIfInBounds_toArray, List.set_cons_zero, List.set_cons_succ, i64_w, i32_w]
                  rfl
                refine pure_ (i := 19) (N := some 51) (v := ?_) (a' := ?_) #[true, true, true, true, true, true, true, true, true, true, true, true, true, true, true, true, true, true, true, true, false, false, false, false, false, false] rfl rfl (any_of HT_.out (by kernel_rfl)) (fun _ _ _ h => h) (Or.inl ⟨by rfl, ?_⟩) ?_ ?_
                rotate_left
                · intro w'
                  go_simp
                  with_reducible rfl
                rotate_left
                · simp only [Act.put, List.setIfInBounds_toArray, List.set_cons_zero, List.set_cons_succ, i64_w, i32_w]
                  rfl
                refine pure_ (i := 20) (N := some 52) (v := ?_) (a' := ?_) #[true, true, true, true, true, true, true, true, true, true, true, true, true, true, true, true, true, true, true, true, true, false, false, false, false, false] rfl rfl (any_of HT_.out (by kernel_rfl)) (fun _ _ _ h => h) (Or.inl ⟨by rfl, ?_⟩) ?_ ?_
                rotate_left
                · intro w'
                  go_simp
                  with_reducible rfl
                rotate_left
                · simp only [Act.put, List.setIfInBounds_toArray, List.set_cons_zero, List.set_cons_succ, i64_w, i32_w]
                  rfl
                refine pure_ (i := 21) (N := some 53) (v := ?_) (a' := ?_) #[true, true, true, true, true, true, true, true, true, true, true, true, true, true, true, true, true, true, true, true, true, true, false, false, false, false] rfl rfl (any_of HT_.out (by kernel_rfl)) (fun _ _ _ h => h) (Or.inl ⟨by rfl, ?_⟩) ?_ ?_
                rotate_left
                · intro w'
                  go_simp
                  with_reducible rfl
                rotate_left
                · simp only [Act.put, List.setIfInBounds_toArray, List.set_cons_zero, List.set_cons_succ, i64_w, i32_w]
                  rfl
                refine pure_ (i := 22) (N := some 54) (v := ?_) (a' := ?_) #[true, true, true, true, true, true, true, true, true, true, true, true, true, true, true, true, true, true, true, true, true, true, true, false, false, false] rfl rfl (any_of HT_.out (by kernel_rfl)) (fun _ _ _ h => h) (Or.inl ⟨by rfl, ?_⟩) ?_ ?_
                rotate_left
                · intro w'
                  go_simp
                  with_reducible rfl
                rotate_left
                · simp only [Act.put, List.setIfInBounds_toArray, List.set_cons_zero, List.set_cons_succ, i64_w, i32_w]
                  rfl
                refine pure_ (i := 23) (N := some 55) (v := ?_) (a' := ?_) #[true, true, true, true, true, true, true, true, true, true, true, true, true, true, true, true, true, true, true, true, true, true, true, true, false, false] rfl rfl (any_of HT_.out (by kernel_rfl)) (fun _ _ _ h => h) (Or.inl ⟨by rfl, ?_⟩) ?_ ?_
                rotate_left
                · intro w'
                  go_simp
                  with_reducible rfl
                rotate_left
                · simp only [Act.put, List.setIfInBounds_toArray, List.set_cons_zero, List.set_cons_succ, i64_w, i32_w]
                  rfl
                refine pure_ (i := 24) (N := some 56) (v := ?_) (a' := ?_) #[true, true, true, true, true, true, true, true, true, true, true, true, true, true, true, true, true, true, true, true, true, true, true, true, true, false] rfl rfl (any_of HT_.out (by kernel_rfl)) (fun _ _ _ h => h) (Or.inl ⟨by rfl, ?_⟩) ?_ ?_
                rotate_left
                · intro w'
                  go_simp
                  with_reducible rfl
                rotate_left
                · simp only [Act.put, List.setIfInBounds_toArray, List.set_cons_zero, List.set_cons_succ, i64_w, i32_w]
                  rfl
                refine pure_ (i := 25) (N := some 4) (v := ?_) (a' := ?_) #[true, true, true, true, true, true, true, true, true, true, true, true, true, true, true, true, true, true, true, true, true, true, true, true, true, true] rfl rfl (any_of HT_.out (by kernel_rfl)) (fun _ _ _ h => h) (Or.inl ⟨by rfl, ?_⟩) ?_ ?_
                rotate_left
                · intro w'
                  go_simp
                  with_reducible rfl
                rotate_left
                · simp only [Act.put, List.setIfInBounds_toArray, List.set_cons_zero, List.set_cons_succ, i64_w, i32_w]
                  rfl
                refine done_ (done_of HT_.out (by kernel_rfl)) ?_
                try go_wp2
                go_ret
                exact ⟨by first | rfl | (simp [errW_none, errW_some] <;> rfl) | (simp [*, errW_none, errW_some] <;> rfl), by repeat (first | (with_reducible first | exact HB.out | apply below_alloc | apply pw_below_drewN | apply below_drew1 | refine below_set ?_ GE299.out | refine below_set ?_ GE312.out | refine below_set ?_ GE323.out) | exact HB.out)⟩
              · replace c22 := Bool.eq_false_iff.mpr c22
                subst c22
                have H1 : (none) = some r := by rw [if_neg (show ¬ (false = true) by decide)] at H; exact H
                clear H
                have H := H1
                clear H1
                exact absurd H (by simp)
            · rw [if_neg c20] at H
              exact absurd H (by simp)
          · rw [if_neg c17] at H
            exact absurd H (by simp)
        · replace c14 := Bool.eq_false_iff.mpr c14
          subst c14
          have H1 : (none) = some r := by rw [if_neg (show ¬ (false = true) by decide)] at H; exact H
          clear H
          have H := H1
          clear H1
          exact absurd H (by simp)

end Go.Proofs.Ytmddkjmcbddhiaa.P
