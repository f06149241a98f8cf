-- written by wip/tools/print2.py (a program of this session over the kit's print); not trusted: Lean checks it
import Derived.Test.YtmddkjmcbddhiaaP0
import Derived.Test.YtmddkjmcbddhiaaP12
import Derived.Test.YtmddkjmcbddhiaaP2
import Derived.Test.YtmddkjmcbddhiaaP9
import Derived.Test.YtmddkjmcbddhiaaGSmall15
import Derived.Test.YtmddkjmcbddhiaaGText
import Derived.Test.YtmddkjmcbddhiaaGUnlike
namespace Go.Proofs.Ytmddkjmcbddhiaa.P
open Go.RowKit Go.Proofs.YtmddkjmcbddhiaaW.PrintWords Go.Proofs.YtmddkjmcbddhiaaW.PrintLast Go.Proofs.YtmddkjmcbddhiaaW.PrintMore
attribute [local go_sem] max2_int min2_int max_two min_two max_three min_three max_four min_four   -- for this text's walks alone
set_option linter.unusedVariables false
set_option linter.unusedSimpArgs false

/-! ### decklelaw15_HeaderResult: function 12 -/
def decklelaw15_HeaderResult.j0 : Nat → ByteArray → Bool → Bool → ByteArray → ByteArray → ByteArray → ByteArray → ByteArray → ByteArray → List ByteArray → Option (Bool)
  | 0, _, _, _, _, _, _, _, _, _, _ => none
  | k + 1, x1, x5, x34, x384000, x384001, x384002, x384003, x384004, x384005, x384006 => if x34 = true then (some x5) else ((some (([x1, x384001, x384002, x384003, x384004, x384005] : List ByteArray) : List ByteArray)).bind fun y389 => (if y389.length + x384006.length < 8796093022208 then ((name_Unlike.f (y389 ++ x384006)).bind fun t395 => (if x5 = true then ((header_Right.f k x1 x384001 x384002 x384003 x384004 x384005 x384006).bind fun t396 => (if (t396 == t395) = true then (if t395 = true then ((header_Text.f x1 x384001 x384002 x384003 x384004 x384005 x384006).bind fun t397 => (if x1.size + 3 ≤ 9223372036854775807 then ((header_Text.f x384000 x384001 x384002 x384003 x384004 x384005 x384006).bind fun t398 => (if (x1 ++ (⟨#[226, 134, 144]⟩ : ByteArray)).size + t398.size ≤ 9223372036854775807 then (some (t397.toList == ((x1 ++ (⟨#[226, 134, 144]⟩ : ByteArray)) ++ t398).toList)) else (none))) else (none))) else (some true)) else (none))) else (none))) else (none)))
def decklelaw15_HeaderResult.f (k : Nat) (a0_0 : ByteArray) (a0_1 : ByteArray) (a0_2 : ByteArray) (a0_3 : ByteArray) (a0_4 : ByteArray) (a0_5 : ByteArray) (l0_6 : List ByteArray) (a1 : ByteArray) : Option (Bool) := (decklelaw15_small.f).bind fun t384 => ((decklelaw15_Few.f k a0_0 a0_1 a0_2 a0_3 a0_4 a0_5 l0_6).bind fun t385 => (if t385 = true then (if (a1.size : Int) > 100 then (decklelaw15_HeaderResult.j0 k a1 t384 true a0_0 a0_1 a0_2 a0_3 a0_4 a0_5 l0_6) else (if a0_0.toList = ([] : List UInt8) then ((header_Right.f k a0_0 a0_1 a0_2 a0_3 a0_4 a0_5 l0_6).bind fun t386 => (if t386 = true then ((name_Right.f a1).bind fun t387 => (decklelaw15_HeaderResult.j0 k a1 t384 (!t387) a0_0 a0_1 a0_2 a0_3 a0_4 a0_5 l0_6)) else (decklelaw15_HeaderResult.j0 k a1 t384 true a0_0 a0_1 a0_2 a0_3 a0_4 a0_5 l0_6))) else (decklelaw15_HeaderResult.j0 k a1 t384 true a0_0 a0_1 a0_2 a0_3 a0_4 a0_5 l0_6))) else (decklelaw15_HeaderResult.j0 k a1 t384 true a0_0 a0_1 a0_2 a0_3 a0_4 a0_5 l0_6)))
theorem decklelaw15_HeaderResult.mono_l : ∀ k, (∀ y0 y1 y2 y3 y4 y5 y6 y7 y8 y9, LeO (decklelaw15_HeaderResult.j0 k y0 y1 y2 y3 y4 y5 y6 y7 y8 y9) (decklelaw15_HeaderResult.j0 (k + 1) y0 y1 y2 y3 y4 y5 y6 y7 y8 y9))
  | 0 => fun _ _ _ _ _ _ _ _ _ _ r h => by simp [decklelaw15_HeaderResult.j0] at h
  | k + 1 => by
    have ih0 := decklelaw15_HeaderResult.mono_l k
    · intro y0 y1 y2 y3 y4 y5 y6 y7 y8 y9
      unfold decklelaw15_HeaderResult.j0
      repeat' first
      | (with_reducible exact ih0 _ _ _ _ _ _ _ _ _ _)
      | (with_reducible exact decklelaw15_Few.mono _ _ _ _ _ _ _ _)
      | (with_reducible exact header_Right.mono _ _ _ _ _ _ _ _)
      | (with_reducible exact LeO.refl _)
      | (with_reducible exact LeO.none _)
      | (with_reducible refine LeO.ite ?_ ?_)
      | (with_reducible refine LeO.bind ?_ (fun _ => ?_))
      | exact ih0 _ _ _ _ _ _ _ _ _ _
      | exact decklelaw15_Few.mono _ _ _ _ _ _ _ _
      | exact header_Right.mono _ _ _ _ _ _ _ _
      | exact LeO.none _
      | refine LeO.ite ?_ ?_
      | refine LeO.bind ?_ (fun _ => ?_)
theorem decklelaw15_HeaderResult.mono : ∀ a0 a1 a2 a3 a4 a5 a6 a7 k, LeO (decklelaw15_HeaderResult.f k a0 a1 a2 a3 a4 a5 a6 a7) (decklelaw15_HeaderResult.f (k + 1) a0 a1 a2 a3 a4 a5 a6 a7) := by
  intro a0 a1 a2 a3 a4 a5 a6 a7 k
  have ih0 := decklelaw15_HeaderResult.mono_l k
  unfold decklelaw15_HeaderResult.f
  repeat' first
      | (with_reducible exact ih0 _ _ _ _ _ _ _ _ _ _)
      | (with_reducible exact decklelaw15_Few.mono _ _ _ _ _ _ _ _)
      | (with_reducible exact header_Right.mono _ _ _ _ _ _ _ _)
      | (with_reducible exact LeO.refl _)
      | (with_reducible exact LeO.none _)
      | (with_reducible refine LeO.ite ?_ ?_)
      | (with_reducible refine LeO.bind ?_ (fun _ => ?_))
      | exact ih0 _ _ _ _ _ _ _ _ _ _
      | exact decklelaw15_Few.mono _ _ _ _ _ _ _ _
      | exact header_Right.mono _ _ _ _ _ _ _ _
      | exact LeO.none _
      | refine LeO.ite ?_ ?_
      | refine LeO.bind ?_ (fun _ => ?_)
def decklelaw15_HeaderResult.T9 : Bool × List (List Nat × List Nat) := (true, [([], []), ([0], [0]), ([1], [1]), ([2, 1, 1], [1, 2]), ([1], [1]), ([3, 4, 1], [1, 3, 4]), ([1, 5], [1, 5]), ([6, 3], [6]), ([7], [7]), ([8, 7], [7, 8]), ([9, 7, 7], [7, 9]), ([10], [10]), ([11, 10, 10], [10, 11]), ([10], [10]), ([13, 10], [10, 13]), ([10], [10]), ([15, 12, 10], [10, 15]), ([14, 16, 10], [10, 14, 16]), ([12, 17, 10], [10, 12, 17]), ([10, 18, 7], [7, 10, 18]), ([7, 19], [7, 19]), ([20, 16, 0, 1, 2, 3, 4, 5, 6, 7, 8, 9, 10, 11, 12, 13, 14, 15, 16, 17, 18, 19, 20], [20])])
def decklelaw15_HeaderResult.B9 : List Nat := [0, 1, 3, 7, 3, 31, 63, 127, 255, 511, 1023, 2047, 4095, 2047, 10239, 2047, 40959, 131071, 262143, 524287, 1048575, 2097151]
theorem decklelaw15_HeaderResult.tab9 : rtab .any (opsOf Try.f12 9) = decklelaw15_HeaderResult.T9 := by kernel_rfl
theorem decklelaw15_HeaderResult.bits9 : waitsOk decklelaw15_HeaderResult.T9.2 decklelaw15_HeaderResult.B9 = true := by kernel_rfl
set_option maxHeartbeats 8000000 in
set_option maxRecDepth 100000 in
theorem decklelaw15_HeaderResult.calls (k : Nat) (a0_0 : ByteArray) (a0_1 : ByteArray) (a0_2 : ByteArray) (a0_3 : ByteArray) (a0_4 : ByteArray) (a0_5 : ByteArray) (A0_6 : Option Addr) (c0_6 : Nat) (l0_6 : List ByteArray) (a1 : ByteArray) (r : Bool) (w : World) (hr0_6 : Kd.C Kd.string w A0_6 l0_6.length l0_6) (hc0_6 : l0_6.length ≤ c0_6) (h : decklelaw15_HeaderResult.f k a0_0 a0_1 a0_2 a0_3 a0_4 a0_5 l0_6 a1 = some r) :
    Calls Try.prog 12 #[.agg #[.string a0_0, .string a0_1, .string a0_2, .string a0_3, .string a0_4, .string a0_5, .slice A0_6 l0_6.length c0_6], .string a1] w fun e w' => e = .returned (.bool r) ∧ Below w.heap.size w w' := by
  have hu35 := Try.underlying35
  have HR0_6 := Aside0.mk hr0_6
  have HC0_6 := Aside0.mk hc0_6
  clear hr0_6 hc0_6
  have HB := Aside0.mk (Below.refl w.heap.size w)
  have H : ((decklelaw15_small.f).bind fun t384 => ((decklelaw15_Few.f k a0_0 a0_1 a0_2 a0_3 a0_4 a0_5 l0_6).bind fun t385 => (if t385 = true then (if (a1.size : Int) > 100 then (decklelaw15_HeaderResult.j0 k a1 t384 true a0_0 a0_1 a0_2 a0_3 a0_4 a0_5 l0_6) else (if a0_0.toList = ([] : List UInt8) then ((header_Right.f k a0_0 a0_1 a0_2 a0_3 a0_4 a0_5 l0_6).bind fun t386 => (if t386 = true then ((name_Right.f a1).bind fun t387 => (decklelaw15_HeaderResult.j0 k a1 t384 (!t387) a0_0 a0_1 a0_2 a0_3 a0_4 a0_5 l0_6)) else (decklelaw15_HeaderResult.j0 k a1 t384 true a0_0 a0_1 a0_2 a0_3 a0_4 a0_5 l0_6))) else (decklelaw15_HeaderResult.j0 k a1 t384 true a0_0 a0_1 a0_2 a0_3 a0_4 a0_5 l0_6))) else (decklelaw15_HeaderResult.j0 k a1 t384 true a0_0 a0_1 a0_2 a0_3 a0_4 a0_5 l0_6)))) = some r := h
  clear h
  replace H := Option.bind_eq_some_iff.mp H
  obtain ⟨t384, A30, H⟩ := H
  replace H : ((decklelaw15_Few.f k a0_0 a0_1 a0_2 a0_3 a0_4 a0_5 l0_6).bind fun t385 => (if t385 = true then (if (a1.size : Int) > 100 then (decklelaw15_HeaderResult.j0 k a1 t384 true a0_0 a0_1 a0_2 a0_3 a0_4 a0_5 l0_6) else (if a0_0.toList = ([] : List UInt8) then ((header_Right.f k a0_0 a0_1 a0_2 a0_3 a0_4 a0_5 l0_6).bind fun t386 => (if t386 = true then ((name_Right.f a1).bind fun t387 => (decklelaw15_HeaderResult.j0 k a1 t384 (!t387) a0_0 a0_1 a0_2 a0_3 a0_4 a0_5 l0_6)) else (decklelaw15_HeaderResult.j0 k a1 t384 true a0_0 a0_1 a0_2 a0_3 a0_4 a0_5 l0_6))) else (decklelaw15_HeaderResult.j0 k a1 t384 true a0_0 a0_1 a0_2 a0_3 a0_4 a0_5 l0_6))) else (decklelaw15_HeaderResult.j0 k a1 t384 true a0_0 a0_1 a0_2 a0_3 a0_4 a0_5 l0_6))) = some r := H
  have A3 := Aside0.mk A30
  clear A30
  replace H := Option.bind_eq_some_iff.mp H
  obtain ⟨t385, A40, H⟩ := H
  replace H : (if t385 = true then (if (a1.size : Int) > 100 then (decklelaw15_HeaderResult.j0 k a1 t384 true a0_0 a0_1 a0_2 a0_3 a0_4 a0_5 l0_6) else (if a0_0.toList = ([] : List UInt8) then ((header_Right.f k a0_0 a0_1 a0_2 a0_3 a0_4 a0_5 l0_6).bind fun t386 => (if t386 = true then ((name_Right.f a1).bind fun t387 => (decklelaw15_HeaderResult.j0 k a1 t384 (!t387) a0_0 a0_1 a0_2 a0_3 a0_4 a0_5 l0_6)) else (decklelaw15_HeaderResult.j0 k a1 t384 true a0_0 a0_1 a0_2 a0_3 a0_4 a0_5 l0_6))) else (decklelaw15_HeaderResult.j0 k a1 t384 true a0_0 a0_1 a0_2 a0_3 a0_4 a0_5 l0_6))) else (decklelaw15_HeaderResult.j0 k a1 t384 true a0_0 a0_1 a0_2 a0_3 a0_4 a0_5 l0_6)) = some r := H
  have A4 := Aside0.mk A40
  clear A40
  have HC5 := Aside0.mk H
  clear H
  go_enter Try.func12, Try.ntmps12
  go_upto_region 3 with (first | ((with_reducible refine gate_dst (N := 2) rfl ?_); (try (refine gate_guard (by rfl) ?_; dsimp only)); refine box_event ?hg (N := 2) ?hd (cs := #[.string a0_0, .string a0_1, .string a0_2, .string a0_3, .string a0_4, .string a0_5, .slice A0_6 l0_6.length c0_6]) (t := 35) ?hr ?_; (case hd => rfl); (case hg => rfl); (case hr => first | (go_simp; done) | (go_simp; rfl)); intro gb383 hg w6 hbox hb; have n0_ := Aside0.mk (below_step (by repeat (first | (with_reducible first | exact HB.out | apply below_alloc | apply pw_below_drewN | apply below_drew1) | exact HB.out)) hb); have n1_ := Aside0.mk (hbox); have n2_ := Aside0.mk ((by rw [hg]; exact (below_size (by repeat (first | (with_reducible first | exact HB.out | apply below_alloc | apply pw_below_drewN | apply below_drew1) | exact HB.out))) : w.heap.size ≤ gb383)); have n3_ := Aside0.mk ((by rw [hg]; exact (below_size (by repeat (first | (with_reducible first | exact HB.out | apply below_alloc | apply pw_below_drewN | apply below_drew1) | exact HB.out))) : w.heap.size ≤ gb383)); clear HB; have HB := n0_; have BK383 := n1_; have GW383 := n2_; have GE383 := n3_; clear n0_ n1_ n2_ n3_; clear hb hbox hg) | ((with_reducible refine gate_callee (f := 22) rfl ?_); refine goesL_ (some 10) rfl rfl Try.func22 (by kernel_rfl) rfl #[] rfl (by (try simp only [List.map_toArray, List.map_cons, List.map_nil]); first | done | rfl | (simp only [List.length_drop, List.length_take]; rfl)) ?_; (with_reducible refine (decklelaw15_small.calls  t384 _ A3.out).mono ?_); rintro e w7 ⟨rfl, hb⟩; refine ⟨_, rfl, ?_⟩; have n0_ := Aside0.mk (blk_below (g := gb383) (o := .cells #[.string a0_0, .string a0_1, .string a0_2, .string a0_3, .string a0_4, .string a0_5, .slice A0_6 l0_6.length c0_6] 35 (0, 0)) (by (with_reducible repeat (first | refine blk_drewN ?_ _ | refine blk_drew ?_ | refine blk_alloc ?_ _)); exact BK383.out) hb); have n1_ := Aside0.mk (below_step (by repeat (first | (with_reducible first | exact HB.out | apply below_alloc | apply pw_below_drewN | apply below_drew1 | refine below_set ?_ GE383.out) | exact HB.out)) hb); clear BK383; clear HB; have BK383 := n0_; have HB := n1_; clear n0_ n1_; (try clear hb); (try clear hb2); (try clear hk); (try clear hi); have hcz8_0 : w7.cell? ⟨gb383, 0, none⟩ = some (.string a0_0) := (blk_cell BK383.out 0).trans rfl; have hcz8_1 : w7.cell? ⟨gb383, 1, none⟩ = some (.string a0_1) := (blk_cell BK383.out 1).trans rfl; have hcz8_2 : w7.cell? ⟨gb383, 2, none⟩ = some (.string a0_2) := (blk_cell BK383.out 2).trans rfl; have hcz8_3 : w7.cell? ⟨gb383, 3, none⟩ = some (.string a0_3) := (blk_cell BK383.out 3).trans rfl; have hcz8_4 : w7.cell? ⟨gb383, 4, none⟩ = some (.string a0_4) := (blk_cell BK383.out 4).trans rfl; have hcz8_5 : w7.cell? ⟨gb383, 5, none⟩ = some (.string a0_5) := (blk_cell BK383.out 5).trans rfl; have hcz8_6 : w7.cell? ⟨gb383, 6, none⟩ = some (.slice A0_6 l0_6.length c0_6) := (blk_cell BK383.out 6).trans rfl; have hfz8_0 := blk_frozen BK383.out 0; have hfz8_1 := blk_frozen BK383.out 1; have hfz8_2 := blk_frozen BK383.out 2; have hfz8_3 := blk_frozen BK383.out 3; have hfz8_4 := blk_frozen BK383.out 4; have hfz8_5 := blk_frozen BK383.out 5; have hfz8_6 := blk_frozen BK383.out 6) | ((with_reducible refine gate_callee (f := 23) rfl ?_); refine goesL_ (some 12) rfl rfl Try.func23 (by kernel_rfl) rfl #[.agg #[.string a0_0, .string a0_1, .string a0_2, .string a0_3, .string a0_4, .string a0_5, .slice A0_6 l0_6.length c0_6]] rfl (by (try simp only [List.map_toArray, List.map_cons, List.map_nil]); first | done | rfl | (simp only [List.length_drop, List.length_take]; rfl)) ?_; (with_reducible refine (decklelaw15_Few.calls k a0_0 a0_1 a0_2 a0_3 a0_4 a0_5 _ _ l0_6 t385 _ ?side1 ?side2 A4.out).mono ?_); (case side1 => repeat (first | exact (Kd.C_below HR0_6.out HB.out) | (with_reducible refine Kd.C_alloc ?_ _) | (with_reducible refine Kd.C_drewN ?_ _) | (with_reducible refine Kd.C_drew ?_))); (case side2 => exact HC0_6.out); rintro e w9 ⟨rfl, hb⟩; refine ⟨_, rfl, ?_⟩; have n0_ := Aside0.mk (blk_below (g := gb383) (o := .cells #[.string a0_0, .string a0_1, .string a0_2, .string a0_3, .string a0_4, .string a0_5, .slice A0_6 l0_6.length c0_6] 35 (0, 0)) (by (with_reducible repeat (first | refine blk_drewN ?_ _ | refine blk_drew ?_ | refine blk_alloc ?_ _)); exact BK383.out) hb); have n1_ := Aside0.mk (below_step (by repeat (first | (with_reducible first | exact HB.out | apply below_alloc | apply pw_below_drewN | apply below_drew1 | refine below_set ?_ GE383.out) | exact HB.out)) hb); clear BK383; clear HB; have BK383 := n0_; have HB := n1_; clear n0_ n1_; (try clear hb); (try clear hb2); (try clear hk); (try clear hi)))
  (try simp only [Act.put, List.setIfInBounds_toArray, List.set_cons_zero, List.set_cons_succ])
  go_cut [34] (fun v34 wc => ∃ (kq : Nat) (x34_4 : Bool), v34 = .bool x34_4 ∧ Aside0 (decklelaw15_HeaderResult.j0 kq a1 t384 x34_4 a0_0 a0_1 a0_2 a0_3 a0_4 a0_5 l0_6 = some r) ∧ Aside0 (kq ≤ k) ∧ Aside0 (wc.heap[gb383]? = some (.cells #[.string a0_0, .string a0_1, .string a0_2, .string a0_3, .string a0_4, .string a0_5, (.slice A0_6 l0_6.length c0_6)] 35 (0, 0))) ∧ Aside0 (Below w.heap.size w wc))
  case first =>
    have H := HC5.out
    clear HC5
    by_cases c10 : t385 = true
    · subst c10
      have H1 : (if (a1.size : Int) > 100 then (decklelaw15_HeaderResult.j0 k a1 t384 true a0_0 a0_1 a0_2 a0_3 a0_4 a0_5 l0_6) else (if a0_0.toList = ([] : List UInt8) then ((header_Right.f k a0_0 a0_1 a0_2 a0_3 a0_4 a0_5 l0_6).bind fun t386 => (if t386 = true then ((name_Right.f a1).bind fun t387 => (decklelaw15_HeaderResult.j0 k a1 t384 (!t387) a0_0 a0_1 a0_2 a0_3 a0_4 a0_5 l0_6)) else (decklelaw15_HeaderResult.j0 k a1 t384 true a0_0 a0_1 a0_2 a0_3 a0_4 a0_5 l0_6))) else (decklelaw15_HeaderResult.j0 k a1 t384 true a0_0 a0_1 a0_2 a0_3 a0_4 a0_5 l0_6))) = some r := by rw [if_pos rfl] at H; exact H
      clear H
      have H := H1
      clear H1
      by_cases c11 : (a1.size : Int) > 100
      · rw [if_pos c11] at H
        have c11b0 : decide (100 < (a1.size : Int)) = true := decide_eq_true c11
        have c11b1 : decide (100 < a1.size) = true := decide_eq_true (by omega)
        clear c11
        (first | rw [c11b0] | (simp only [i64_w, i32_w]; rw [c11b0]) | skip)
        (try simp only [c11b8])
        have H' := Aside0.mk H
        clear H
        go_wp2
        go_meet
        case rel => exact ⟨_, (true), (by first | rfl | (simp; done) | (simp [*]; done)), H', ⟨by first | omega | exact Nat.le_refl _⟩, ⟨by (with_reducible repeat (first | refine blk_drewN ?_ _ | refine blk_drew ?_ | refine blk_alloc ?_ _)); exact BK383.out⟩, ⟨by repeat (first | (with_reducible first | exact HB.out | apply below_alloc | apply pw_below_drewN | apply below_drew1 | refine below_set ?_ GE383.out) | exact HB.out)⟩⟩
      · rw [if_neg c11] at H
        have c11b0 : decide (100 < (a1.size : Int)) = false := decide_eq_false c11
        have c11b1 : decide (100 < a1.size) = false := decide_eq_false (by omega)
        clear c11
        (first | rw [c11b0] | (simp only [i64_w, i32_w]; rw [c11b0]) | skip)
        (try simp only [c11b8])
        by_cases c12 : a0_0.toList = ([] : List UInt8)
        · rw [if_pos c12] at H
          have c12b0 : (a0_0.toList == ([] : List UInt8)) = true := beq_iff_eq.mpr c12
          have c12b1 : (a0_0.toList != ([] : List UInt8)) = false := bne_eq_false_iff_eq.mpr c12
          have c12b7 : a0_0.toList.isEmpty = true := List.isEmpty_iff.2 c12
          have c12b8 : (!a0_0.toList.isEmpty) = false := by rw [c12b7]; rfl
          clear c12
          replace H := Option.bind_eq_some_iff.mp H
          obtain ⟨t386, A130, H⟩ := H
          replace H : (if t386 = true then ((name_Right.f a1).bind fun t387 => (decklelaw15_HeaderResult.j0 k a1 t384 (!t387) a0_0 a0_1 a0_2 a0_3 a0_4 a0_5 l0_6)) else (decklelaw15_HeaderResult.j0 k a1 t384 true a0_0 a0_1 a0_2 a0_3 a0_4 a0_5 l0_6)) = some r := H
          have A13 := Aside0.mk A130
          clear A130
          by_cases c14 : t386 = true
          · subst c14
            have H1 : ((name_Right.f a1).bind fun t387 => (decklelaw15_HeaderResult.j0 k a1 t384 (!t387) a0_0 a0_1 a0_2 a0_3 a0_4 a0_5 l0_6)) = some r := by rw [if_pos rfl] at H; exact H
            clear H
            have H := H1
            clear H1
            replace H := Option.bind_eq_some_iff.mp H
            obtain ⟨t387, A150, H⟩ := H
            replace H : (decklelaw15_HeaderResult.j0 k a1 t384 (!t387) a0_0 a0_1 a0_2 a0_3 a0_4 a0_5 l0_6) = some r := H
            have A15 := Aside0.mk A150
            clear A150
            have H' := Aside0.mk H
            clear H
            have hcz16_0 : w9.cell? ⟨gb383, 0, none⟩ = some (.string a0_0) := (blk_cell BK383.out 0).trans rfl
            have hcz16_1 : w9.cell? ⟨gb383, 1, none⟩ = some (.string a0_1) := (blk_cell BK383.out 1).trans rfl
            have hcz16_2 : w9.cell? ⟨gb383, 2, none⟩ = some (.string a0_2) := (blk_cell BK383.out 2).trans rfl
            have hcz16_3 : w9.cell? ⟨gb383, 3, none⟩ = some (.string a0_3) := (blk_cell BK383.out 3).trans rfl
            have hcz16_4 : w9.cell? ⟨gb383, 4, none⟩ = some (.string a0_4) := (blk_cell BK383.out 4).trans rfl
            have hcz16_5 : w9.cell? ⟨gb383, 5, none⟩ = some (.string a0_5) := (blk_cell BK383.out 5).trans rfl
            have hcz16_6 : w9.cell? ⟨gb383, 6, none⟩ = some (.slice A0_6 l0_6.length c0_6) := (blk_cell BK383.out 6).trans rfl
            have hfz16_0 := blk_frozen BK383.out 0
            have hfz16_1 := blk_frozen BK383.out 1
            have hfz16_2 := blk_frozen BK383.out 2
            have hfz16_3 := blk_frozen BK383.out 3
            have hfz16_4 := blk_frozen BK383.out 4
            have hfz16_5 := blk_frozen BK383.out 5
            have hfz16_6 := blk_frozen BK383.out 6
            go_wp2_with (first | (go_at_call 26; (with_reducible refine (header_Right.calls k a0_0 a0_1 a0_2 a0_3 a0_4 a0_5 _ _ l0_6 true _ ?side1 ?side2 A13.out).mono ?_); (case side1 => repeat (first | exact (Kd.C_below HR0_6.out HB.out) | (with_reducible refine Kd.C_alloc ?_ _) | (with_reducible refine Kd.C_drewN ?_ _) | (with_reducible refine Kd.C_drew ?_))); (case side2 => exact HC0_6.out); rintro e w17 ⟨rfl, hb⟩; have n0_ := Aside0.mk (blk_below (g := gb383) (o := .cells #[.string a0_0, .string a0_1, .string a0_2, .string a0_3, .string a0_4, .string a0_5, .slice A0_6 l0_6.length c0_6] 35 (0, 0)) (by (with_reducible repeat (first | refine blk_drewN ?_ _ | refine blk_drew ?_ | refine blk_alloc ?_ _)); exact BK383.out) hb); have n1_ := Aside0.mk (below_step (by repeat (first | (with_reducible first | exact HB.out | apply below_alloc | apply pw_below_drewN | apply below_drew1 | refine below_set ?_ GE383.out) | exact HB.out)) hb); clear BK383; clear HB; have BK383 := n0_; have HB := n1_; clear n0_ n1_; (try clear hb); (try clear hb2); (try clear hk); (try clear hi)) | (go_at_call 16; (with_reducible refine (name_Right.calls a1 t387 _ A15.out).mono ?_); rintro e w18 ⟨rfl, hb⟩; have n0_ := Aside0.mk (blk_below (g := gb383) (o := .cells #[.string a0_0, .string a0_1, .string a0_2, .string a0_3, .string a0_4, .string a0_5, .slice A0_6 l0_6.length c0_6] 35 (0, 0)) (by (with_reducible repeat (first | refine blk_drewN ?_ _ | refine blk_drew ?_ | refine blk_alloc ?_ _)); exact BK383.out) hb); have n1_ := Aside0.mk (below_step (by repeat (first | (with_reducible first | exact HB.out | apply below_alloc | apply pw_below_drewN | apply below_drew1 | refine below_set ?_ GE383.out) | exact HB.out)) hb); clear BK383; clear HB; have BK383 := n0_; have HB := n1_; clear n0_ n1_; (try clear hb); (try clear hb2); (try clear hk); (try clear hi)))
            go_meet
            case rel => exact ⟨_, (!t387), (by first | rfl | (simp; done) | (simp [*]; done)), H', ⟨by first | omega | exact Nat.le_refl _⟩, ⟨by (with_reducible repeat (first | refine blk_drewN ?_ _ | refine blk_drew ?_ | refine blk_alloc ?_ _)); exact BK383.out⟩, ⟨by repeat (first | (with_reducible first | exact HB.out | apply below_alloc | apply pw_below_drewN | apply below_drew1 | refine below_set ?_ GE383.out) | exact HB.out)⟩⟩
          · replace c14 := Bool.eq_false_iff.mpr c14
            subst c14
            have H1 : (decklelaw15_HeaderResult.j0 k a1 t384 true a0_0 a0_1 a0_2 a0_3 a0_4 a0_5 l0_6) = some r := by rw [if_neg (show ¬ (false = true) by decide)] at H; exact H
            clear H
            have H := H1
            clear H1
            have H' := Aside0.mk H
            clear H
            have hcz19_0 : w9.cell? ⟨gb383, 0, none⟩ = some (.string a0_0) := (blk_cell BK383.out 0).trans rfl
            have hcz19_1 : w9.cell? ⟨gb383, 1, none⟩ = some (.string a0_1) := (blk_cell BK383.out 1).trans rfl
            have hcz19_2 : w9.cell? ⟨gb383, 2, none⟩ = some (.string a0_2) := (blk_cell BK383.out 2).trans rfl
            have hcz19_3 : w9.cell? ⟨gb383, 3, none⟩ = some (.string a0_3) := (blk_cell BK383.out 3).trans rfl
            have hcz19_4 : w9.cell? ⟨gb383, 4, none⟩ = some (.string a0_4) := (blk_cell BK383.out 4).trans rfl
            have hcz19_5 : w9.cell? ⟨gb383, 5, none⟩ = some (.string a0_5) := (blk_cell BK383.out 5).trans rfl
            have hcz19_6 : w9.cell? ⟨gb383, 6, none⟩ = some (.slice A0_6 l0_6.length c0_6) := (blk_cell BK383.out 6).trans rfl
            have hfz19_0 := blk_frozen BK383.out 0
            have hfz19_1 := blk_frozen BK383.out 1
            have hfz19_2 := blk_frozen BK383.out 2
            have hfz19_3 := blk_frozen BK383.out 3
            have hfz19_4 := blk_frozen BK383.out 4
            have hfz19_5 := blk_frozen BK383.out 5
            have hfz19_6 := blk_frozen BK383.out 6
            go_wp2_with (first | (go_at_call 26; (with_reducible refine (header_Right.calls k a0_0 a0_1 a0_2 a0_3 a0_4 a0_5 _ _ l0_6 false _ ?side1 ?side2 A13.out).mono ?_); (case side1 => repeat (first | exact (Kd.C_below HR0_6.out HB.out) | (with_reducible refine Kd.C_alloc ?_ _) | (with_reducible refine Kd.C_drewN ?_ _) | (with_reducible refine Kd.C_drew ?_))); (case side2 => exact HC0_6.out); rintro e w20 ⟨rfl, hb⟩; have n0_ := Aside0.mk (blk_below (g := gb383) (o := .cells #[.string a0_0, .string a0_1, .string a0_2, .string a0_3, .string a0_4, .string a0_5, .slice A0_6 l0_6.length c0_6] 35 (0, 0)) (by (with_reducible repeat (first | refine blk_drewN ?_ _ | refine blk_drew ?_ | refine blk_alloc ?_ _)); exact BK383.out) hb); have n1_ := Aside0.mk (below_step (by repeat (first | (with_reducible first | exact HB.out | apply below_alloc | apply pw_below_drewN | apply below_drew1 | refine below_set ?_ GE383.out) | exact HB.out)) hb); clear BK383; clear HB; have BK383 := n0_; have HB := n1_; clear n0_ n1_; (try clear hb); (try clear hb2); (try clear hk); (try clear hi)))
            go_meet
            case rel => exact ⟨_, (true), (by first | rfl | (simp; done) | (simp [*]; done)), H', ⟨by first | omega | exact Nat.le_refl _⟩, ⟨by (with_reducible repeat (first | refine blk_drewN ?_ _ | refine blk_drew ?_ | refine blk_alloc ?_ _)); exact BK383.out⟩, ⟨by repeat (first | (with_reducible first | exact HB.out | apply below_alloc | apply pw_below_drewN | apply below_drew1 | refine below_set ?_ GE383.out) | exact HB.out)⟩⟩
        · rw [if_neg c12] at H
          have c12b0 : (a0_0.toList == ([] : List UInt8)) = false := beq_eq_false_iff_ne.mpr c12
          have c12b1 : (a0_0.toList != ([] : List UInt8)) = true := bne_iff_ne.mpr c12
          have c12b7 : a0_0.toList.isEmpty = false := List.isEmpty_eq_false_iff.2 c12
          have c12b8 : (!a0_0.toList.isEmpty) = true := by rw [c12b7]; rfl
          have H' := Aside0.mk H
          clear H
          have hcz21_0 : w9.cell? ⟨gb383, 0, none⟩ = some (.string a0_0) := (blk_cell BK383.out 0).trans rfl
          have hcz21_1 : w9.cell? ⟨gb383, 1, none⟩ = some (.string a0_1) := (blk_cell BK383.out 1).trans rfl
          have hcz21_2 : w9.cell? ⟨gb383, 2, none⟩ = some (.string a0_2) := (blk_cell BK383.out 2).trans rfl
          have hcz21_3 : w9.cell? ⟨gb383, 3, none⟩ = some (.string a0_3) := (blk_cell BK383.out 3).trans rfl
          have hcz21_4 : w9.cell? ⟨gb383, 4, none⟩ = some (.string a0_4) := (blk_cell BK383.out 4).trans rfl
          have hcz21_5 : w9.cell? ⟨gb383, 5, none⟩ = some (.string a0_5) := (blk_cell BK383.out 5).trans rfl
          have hcz21_6 : w9.cell? ⟨gb383, 6, none⟩ = some (.slice A0_6 l0_6.length c0_6) := (blk_cell BK383.out 6).trans rfl
          have hfz21_0 := blk_frozen BK383.out 0
          have hfz21_1 := blk_frozen BK383.out 1
          have hfz21_2 := blk_frozen BK383.out 2
          have hfz21_3 := blk_frozen BK383.out 3
          have hfz21_4 := blk_frozen BK383.out 4
          have hfz21_5 := blk_frozen BK383.out 5
          have hfz21_6 := blk_frozen BK383.out 6
          go_wp2
          go_meet
          case rel => exact ⟨_, (true), (by first | rfl | (simp; done) | (simp [*]; done)), H', ⟨by first | omega | exact Nat.le_refl _⟩, ⟨by (with_reducible repeat (first | refine blk_drewN ?_ _ | refine blk_drew ?_ | refine blk_alloc ?_ _)); exact BK383.out⟩, ⟨by repeat (first | (with_reducible first | exact HB.out | apply below_alloc | apply pw_below_drewN | apply below_drew1 | refine below_set ?_ GE383.out) | exact HB.out)⟩⟩
    · replace c10 := Bool.eq_false_iff.mpr c10
      subst c10
      have H1 : (decklelaw15_HeaderResult.j0 k a1 t384 true a0_0 a0_1 a0_2 a0_3 a0_4 a0_5 l0_6) = some r := by rw [if_neg (show ¬ (false = true) by decide)] at H; exact H
      clear H
      have H := H1
      clear H1
      have H' := Aside0.mk H
      clear H
      go_wp2
      go_meet
      case rel => exact ⟨_, (true), (by first | rfl | (simp; done) | (simp [*]; done)), H', ⟨by first | omega | exact Nat.le_refl _⟩, ⟨by (with_reducible repeat (first | refine blk_drewN ?_ _ | refine blk_drew ?_ | refine blk_alloc ?_ _)); exact BK383.out⟩, ⟨by repeat (first | (with_reducible first | exact HB.out | apply below_alloc | apply pw_below_drewN | apply below_drew1 | refine below_set ?_ GE383.out) | exact HB.out)⟩⟩
  case rest =>
    clear HC5
    try clear c1
    try clear c2
    try clear p2
    try clear c10
    try clear c11
    try clear c11b0
    try clear c11b1
    try clear c12
    try clear c12b0
    try clear c12b1
    try clear c14
    try clear hcz16_0
    try clear hcz16_1
    try clear hcz16_2
    try clear hcz16_3
    try clear hcz16_4
    try clear hcz16_5
    try clear hcz16_6
    try clear hcz19_0
    try clear hcz19_1
    try clear hcz19_2
    try clear hcz19_3
    try clear hcz19_4
    try clear hcz19_5
    try clear hcz19_6
    try clear hcz21_0
    try clear hcz21_1
    try clear hcz21_2
    try clear hcz21_3
    try clear hcz21_4
    try clear hcz21_5
    try clear hcz21_6
    try clear hcz8_0
    try clear hcz8_1
    try clear hcz8_2
    try clear hcz8_3
    try clear hcz8_4
    try clear hcz8_5
    try clear hcz8_6
    try clear hfz16_0
    try clear hfz16_1
    try clear hfz16_2
    try clear hfz16_3
    try clear hfz16_4
    try clear hfz16_5
    try clear hfz16_6
    try clear hfz19_0
    try clear hfz19_1
    try clear hfz19_2
    try clear hfz19_3
    try clear hfz19_4
    try clear hfz19_5
    try clear hfz19_6
    try clear hfz21_0
    try clear hfz21_1
    try clear hfz21_2
    try clear hfz21_3
    try clear hfz21_4
    try clear hfz21_5
    try clear hfz21_6
    try clear hfz8_0
    try clear hfz8_1
    try clear hfz8_2
    try clear hfz8_3
    try clear hfz8_4
    try clear hfz8_5
    try clear hfz8_6
    obtain ⟨kq, x34_4, rfl, HA, HJ4, BK383, HB⟩ := hcut
    cases kq with
    | zero => exact absurd HA.out (by simp [decklelaw15_HeaderResult.j0])
    | succ kj4 =>
      have H := HA.out
      clear HA
      simp only [decklelaw15_HeaderResult.j0] at H
      by_cases c22 : x34_4 = true
      · subst c22
        have H1 : (some t384) = some r := by rw [if_pos rfl] at H; exact H
        clear H
        have H := H1
        clear H1
        obtain rfl := Option.some.inj H
        go_wp2
        go_ret
        exact ⟨by first | rfl | (simp [errW_none, errW_some] <;> rfl) | (simp [*, errW_none, errW_some] <;> rfl), by repeat (first | (with_reducible first | exact HB.out | apply below_alloc | apply pw_below_drewN | apply below_drew1 | refine below_set ?_ GE383.out) | exact HB.out)⟩
      · replace c22 := Bool.eq_false_iff.mpr c22
        subst c22
        have H1 : ((some (([a1, a0_1, a0_2, a0_3, a0_4, a0_5] : List ByteArray) : List ByteArray)).bind fun y389 => (if y389.length + l0_6.length < 8796093022208 then ((name_Unlike.f (y389 ++ l0_6)).bind fun t395 => (if t384 = true then ((header_Right.f kj4 a1 a0_1 a0_2 a0_3 a0_4 a0_5 l0_6).bind fun t396 => (if (t396 == t395) = true then (if t395 = true then ((header_Text.f a1 a0_1 a0_2 a0_3 a0_4 a0_5 l0_6).bind fun t397 => (if a1.size + 3 ≤ 9223372036854775807 then ((header_Text.f a0_0 a0_1 a0_2 a0_3 a0_4 a0_5 l0_6).bind fun t398 => (if (a1 ++ (⟨#[226, 134, 144]⟩ : ByteArray)).size + t398.size ≤ 9223372036854775807 then (some (t397.toList == ((a1 ++ (⟨#[226, 134, 144]⟩ : ByteArray)) ++ t398).toList)) else (none))) else (none))) else (some true)) else (none))) else (none))) else (none))) = some r := by rw [if_neg (show ¬ (false = true) by decide)] at H; exact H
        clear H
        have H := H1
        clear H1
        obtain ⟨y389, hy389⟩ : ∃ y_ : List ByteArray, y_ = (([a1, a0_1, a0_2, a0_3, a0_4, a0_5] : List ByteArray)) := ⟨_, rfl⟩
        replace H : (if y389.length + l0_6.length < 8796093022208 then ((name_Unlike.f (y389 ++ l0_6)).bind fun t395 => (if t384 = true then ((header_Right.f kj4 a1 a0_1 a0_2 a0_3 a0_4 a0_5 l0_6).bind fun t396 => (if (t396 == t395) = true then (if t395 = true then ((header_Text.f a1 a0_1 a0_2 a0_3 a0_4 a0_5 l0_6).bind fun t397 => (if a1.size + 3 ≤ 9223372036854775807 then ((header_Text.f a0_0 a0_1 a0_2 a0_3 a0_4 a0_5 l0_6).bind fun t398 => (if (a1 ++ (⟨#[226, 134, 144]⟩ : ByteArray)).size + t398.size ≤ 9223372036854775807 then (some (t397.toList == ((a1 ++ (⟨#[226, 134, 144]⟩ : ByteArray)) ++ t398).toList)) else (none))) else (none))) else (some true)) else (none))) else (none))) else (none)) = some r := by first | (rw [hy389]; with_reducible exact H) | (have H2_ := (Option.bind_some _ _).symm.trans H; rw [hy389]; with_reducible exact H2_) | (have H2_ := (Option.bind_some _ _).symm.trans H; with_reducible exact H2_) | with_reducible exact H | (rw [hy389]; exact H) | exact H
        have Ny389 := Aside0.mk hy389
        clear hy389
        by_cases c23 : y389.length + l0_6.length < 8796093022208
        · rw [if_pos c23] at H
          have LMc23 := Aside0.mk c23
          clear c23
          obtain ⟨y392, hy392⟩ : ∃ y_ : List ByteArray, y_ = (y389 ++ l0_6) := ⟨_, rfl⟩
          replace H : ((name_Unlike.f y392).bind fun t395 => (if t384 = true then ((header_Right.f kj4 a1 a0_1 a0_2 a0_3 a0_4 a0_5 l0_6).bind fun t396 => (if (t396 == t395) = true then (if t395 = true then ((header_Text.f a1 a0_1 a0_2 a0_3 a0_4 a0_5 l0_6).bind fun t397 => (if a1.size + 3 ≤ 9223372036854775807 then ((header_Text.f a0_0 a0_1 a0_2 a0_3 a0_4 a0_5 l0_6).bind fun t398 => (if (a1 ++ (⟨#[226, 134, 144]⟩ : ByteArray)).size + t398.size ≤ 9223372036854775807 then (some (t397.toList == ((a1 ++ (⟨#[226, 134, 144]⟩ : ByteArray)) ++ t398).toList)) else (none))) else (none))) else (some true)) else (none))) else (none))) = some r := by first | (rw [hy392]; with_reducible exact H) | (have H2_ := (Option.bind_some _ _).symm.trans H; rw [hy392]; with_reducible exact H2_) | (have H2_ := (Option.bind_some _ _).symm.trans H; with_reducible exact H2_) | with_reducible exact H | (rw [hy392]; exact H) | exact H
          have Ny392 := Aside0.mk hy392
          clear hy392
          replace H := Option.bind_eq_some_iff.mp H
          obtain ⟨t395, A240, H⟩ := H
          replace H : (if t384 = true then ((header_Right.f kj4 a1 a0_1 a0_2 a0_3 a0_4 a0_5 l0_6).bind fun t396 => (if (t396 == t395) = true then (if t395 = true then ((header_Text.f a1 a0_1 a0_2 a0_3 a0_4 a0_5 l0_6).bind fun t397 => (if a1.size + 3 ≤ 9223372036854775807 then ((header_Text.f a0_0 a0_1 a0_2 a0_3 a0_4 a0_5 l0_6).bind fun t398 => (if (a1 ++ (⟨#[226, 134, 144]⟩ : ByteArray)).size + t398.size ≤ 9223372036854775807 then (some (t397.toList == ((a1 ++ (⟨#[226, 134, 144]⟩ : ByteArray)) ++ t398).toList)) else (none))) else (none))) else (some true)) else (none))) else (none)) = some r := H
          have A24 := Aside0.mk A240
          clear A240
          by_cases c25 : t384 = true
          · subst c25
            have H1 : ((header_Right.f kj4 a1 a0_1 a0_2 a0_3 a0_4 a0_5 l0_6).bind fun t396 => (if (t396 == t395) = true then (if t395 = true then ((header_Text.f a1 a0_1 a0_2 a0_3 a0_4 a0_5 l0_6).bind fun t397 => (if a1.size + 3 ≤ 9223372036854775807 then ((header_Text.f a0_0 a0_1 a0_2 a0_3 a0_4 a0_5 l0_6).bind fun t398 => (if (a1 ++ (⟨#[226, 134, 144]⟩ : ByteArray)).size + t398.size ≤ 9223372036854775807 then (some (t397.toList == ((a1 ++ (⟨#[226, 134, 144]⟩ : ByteArray)) ++ t398).toList)) else (none))) else (none))) else (some true)) else (none))) = some r := by rw [if_pos rfl] at H; exact H
            clear H
            have H := H1
            clear H1
            replace H := Option.bind_eq_some_iff.mp H
            obtain ⟨t396, A260, H⟩ := H
            replace H : (if (t396 == t395) = true then (if t395 = true then ((header_Text.f a1 a0_1 a0_2 a0_3 a0_4 a0_5 l0_6).bind fun t397 => (if a1.size + 3 ≤ 9223372036854775807 then ((header_Text.f a0_0 a0_1 a0_2 a0_3 a0_4 a0_5 l0_6).bind fun t398 => (if (a1 ++ (⟨#[226, 134, 144]⟩ : ByteArray)).size + t398.size ≤ 9223372036854775807 then (some (t397.toList == ((a1 ++ (⟨#[226, 134, 144]⟩ : ByteArray)) ++ t398).toList)) else (none))) else (none))) else (some true)) else (none)) = some r := H
            have A26 := Aside0.mk A260
            clear A260
            by_cases c27 : (t396 == t395) = true
            · rw [if_pos c27] at H
              have c27b0 : (t396 == t395) = true := c27
              (try (have c27b1 : decide (t396 = t395) = true := by simpa using c27))
              (try (have c27b2 : (t396 == t395) = true := by simpa using c27))
              clear c27
              by_cases c28 : t395 = true
              · subst c28
                have H1 : ((header_Text.f a1 a0_1 a0_2 a0_3 a0_4 a0_5 l0_6).bind fun t397 => (if a1.size + 3 ≤ 9223372036854775807 then ((header_Text.f a0_0 a0_1 a0_2 a0_3 a0_4 a0_5 l0_6).bind fun t398 => (if (a1 ++ (⟨#[226, 134, 144]⟩ : ByteArray)).size + t398.size ≤ 9223372036854775807 then (some (t397.toList == ((a1 ++ (⟨#[226, 134, 144]⟩ : ByteArray)) ++ t398).toList)) else (none))) else (none))) = some r := by rw [if_pos rfl] at H; exact H
                clear H
                have H := H1
                clear H1
                replace H := Option.bind_eq_some_iff.mp H
                obtain ⟨t397, A290, H⟩ := H
                replace H : (if a1.size + 3 ≤ 9223372036854775807 then ((header_Text.f a0_0 a0_1 a0_2 a0_3 a0_4 a0_5 l0_6).bind fun t398 => (if (a1 ++ (⟨#[226, 134, 144]⟩ : ByteArray)).size + t398.size ≤ 9223372036854775807 then (some (t397.toList == ((a1 ++ (⟨#[226, 134, 144]⟩ : ByteArray)) ++ t398).toList)) else (none))) else (none)) = some r := H
                have A29 := Aside0.mk A290
                clear A290
                by_cases c30 : a1.size + 3 ≤ 9223372036854775807
                · rw [if_pos c30] at H
                  have c30b0 := eq_true c30
                  (try (have c30b9 := c30; simp only [ByteArray.size_append, show (⟨#[40]⟩ : ByteArray).size = 1 from rfl, show (⟨#[41]⟩ : ByteArray).size = 1 from rfl, show (⟨#[32]⟩ : ByteArray).size = 1 from rfl, show (⟨#[59]⟩ : ByteArray).size = 1 from rfl, show (⟨#[226, 134, 144]⟩ : ByteArray).size = 3 from rfl] at c30b9; have c30b6 := eq_false (Nat.not_lt.2 c30b9); replace c30b9 := eq_true c30b9))
                  have c30b1 : decide (a1.size + 3 ≤ 9223372036854775807) = true := decide_eq_true c30
                  try have c30b2 : (9223372036854775807 < a1.size + 3) = False := eq_false (Nat.not_lt.2 c30)
                  replace H := Option.bind_eq_some_iff.mp H
                  obtain ⟨t398, A310, H⟩ := H
                  replace H : (if (a1 ++ (⟨#[226, 134, 144]⟩ : ByteArray)).size + t398.size ≤ 9223372036854775807 then (some (t397.toList == ((a1 ++ (⟨#[226, 134, 144]⟩ : ByteArray)) ++ t398).toList)) else (none)) = some r := H
                  have A31 := Aside0.mk A310
                  clear A310
                  by_cases c32 : (a1 ++ (⟨#[226, 134, 144]⟩ : ByteArray)).size + t398.size ≤ 9223372036854775807
                  · rw [if_pos c32] at H
                    have c32b0 := eq_true c32
                    (try (have c32b9 := c32; simp only [ByteArray.size_append, show (⟨#[40]⟩ : ByteArray).size = 1 from rfl, show (⟨#[41]⟩ : ByteArray).size = 1 from rfl, show (⟨#[32]⟩ : ByteArray).size = 1 from rfl, show (⟨#[59]⟩ : ByteArray).size = 1 from rfl, show (⟨#[226, 134, 144]⟩ : ByteArray).size = 3 from rfl] at c32b9; have c32b6 := eq_false (Nat.not_lt.2 c32b9); replace c32b9 := eq_true c32b9))
                    have c32b1 : decide ((a1 ++ (⟨#[226, 134, 144]⟩ : ByteArray)).size + t398.size ≤ 9223372036854775807) = true := decide_eq_true c32
                    try have c32b2 : (9223372036854775807 < (a1 ++ (⟨#[226, 134, 144]⟩ : ByteArray)).size + t398.size) = False := eq_false (Nat.not_lt.2 c32)
                    obtain rfl := Option.some.inj H
                    have hcz33_0 : wc.cell? ⟨gb383, 0, none⟩ = some (.string a0_0) := (blk_cell BK383.out 0).trans rfl
                    have hcz33_1 : wc.cell? ⟨gb383, 1, none⟩ = some (.string a0_1) := (blk_cell BK383.out 1).trans rfl
                    have hcz33_2 : wc.cell? ⟨gb383, 2, none⟩ = some (.string a0_2) := (blk_cell BK383.out 2).trans rfl
                    have hcz33_3 : wc.cell? ⟨gb383, 3, none⟩ = some (.string a0_3) := (blk_cell BK383.out 3).trans rfl
                    have hcz33_4 : wc.cell? ⟨gb383, 4, none⟩ = some (.string a0_4) := (blk_cell BK383.out 4).trans rfl
                    have hcz33_5 : wc.cell? ⟨gb383, 5, none⟩ = some (.string a0_5) := (blk_cell BK383.out 5).trans rfl
                    have hcz33_6 : wc.cell? ⟨gb383, 6, none⟩ = some (.slice A0_6 l0_6.length c0_6) := (blk_cell BK383.out 6).trans rfl
                    have hfz33_0 := blk_frozen BK383.out 0
                    have hfz33_1 := blk_frozen BK383.out 1
                    have hfz33_2 := blk_frozen BK383.out 2
                    have hfz33_3 := blk_frozen BK383.out 3
                    have hfz33_4 := blk_frozen BK383.out 4
                    have hfz33_5 := blk_frozen BK383.out 5
                    have hfz33_6 := blk_frozen BK383.out 6
                    try go_wp2_with (first | ((with_reducible refine gate_dst (N := 7) rfl ?_); (try (refine gate_guard (by rfl) ?_; dsimp only)); refine box_event ?hg (N := 7) ?hd (cs := #[.string (⟨#[]⟩ : ByteArray), .string (⟨#[]⟩ : ByteArray), .string (⟨#[]⟩ : ByteArray), .string (⟨#[]⟩ : ByteArray), .string (⟨#[]⟩ : ByteArray), .string (⟨#[]⟩ : ByteArray), .slice none 0 0]) (t := 35) ?hr ?_; (case hd => rfl); (case hg => rfl); (case hr => first | (go_simp; done) | (go_simp; rfl)); intro gb388 hg w34 hbox hb; have n0_ := Aside0.mk (blk_below (g := gb383) (o := .cells #[.string a0_0, .string a0_1, .string a0_2, .string a0_3, .string a0_4, .string a0_5, .slice A0_6 l0_6.length c0_6] 35 (0, 0)) (by (with_reducible repeat (first | refine blk_drewN ?_ _ | refine blk_drew ?_ | refine blk_alloc ?_ _)); exact BK383.out) hb); have n1_ := Aside0.mk (below_step (by repeat (first | (with_reducible first | exact HB.out | apply below_alloc | apply pw_below_drewN | apply below_drew1 | refine below_set ?_ GE383.out) | exact HB.out)) hb); have n2_ := Aside0.mk (hbox); have n3_ := Aside0.mk ((by rw [hg]; exact (below_size (by repeat (first | (with_reducible first | exact HB.out | apply below_alloc | apply pw_below_drewN | apply below_drew1 | refine below_set ?_ GE383.out) | exact HB.out))) : w.heap.size ≤ gb388)); have n4_ := Aside0.mk ((by rw [hg]; exact (below_size (by repeat (first | (with_reducible first | exact HB.out | apply below_alloc | apply pw_below_drewN | apply below_drew1 | refine below_set ?_ GE383.out) | exact HB.out))) : w.heap.size ≤ gb388)); have n5_ := Aside0.mk ((by rw [hg]; exact Nat.ne_of_lt (blk_lt (g := gb383) (o := .cells #[.string a0_0, .string a0_1, .string a0_2, .string a0_3, .string a0_4, .string a0_5, .slice A0_6 l0_6.length c0_6] 35 (0, 0)) (by (with_reducible repeat (first | refine blk_drewN ?_ _ | refine blk_drew ?_ | refine blk_alloc ?_ _)); exact BK383.out)) : gb383 ≠ gb388)); have n6_ := Aside0.mk ((by rw [hg]; exact Nat.ne_of_gt (blk_lt (g := gb383) (o := .cells #[.string a0_0, .string a0_1, .string a0_2, .string a0_3, .string a0_4, .string a0_5, .slice A0_6 l0_6.length c0_6] 35 (0, 0)) (by (with_reducible repeat (first | refine blk_drewN ?_ _ | refine blk_drew ?_ | refine blk_alloc ?_ _)); exact BK383.out)) : gb388 ≠ gb383)); clear BK383; clear HB; have BK383 := n0_; have HB := n1_; have BK388 := n2_; have GW388 := n3_; have GE388 := n4_; have NB383_388 := n5_; have NB388_383 := n6_; clear n0_ n1_ n2_ n3_ n4_ n5_ n6_; clear hb hbox hg; have hnb35 := NB388_383.out; have hnc35 := NB383_388.out; have hcz36_0 : w34.cell? ⟨gb388, 0, none⟩ = some (.string (⟨#[]⟩ : ByteArray)) := (blk_cell BK388.out 0).trans rfl; have hcz36_1 : w34.cell? ⟨gb388, 1, none⟩ = some (.string (⟨#[]⟩ : ByteArray)) := (blk_cell BK388.out 1).trans rfl; have hcz36_2 : w34.cell? ⟨gb388, 2, none⟩ = some (.string (⟨#[]⟩ : ByteArray)) := (blk_cell BK388.out 2).trans rfl; have hcz36_3 : w34.cell? ⟨gb388, 3, none⟩ = some (.string (⟨#[]⟩ : ByteArray)) := (blk_cell BK388.out 3).trans rfl; have hcz36_4 : w34.cell? ⟨gb388, 4, none⟩ = some (.string (⟨#[]⟩ : ByteArray)) := (blk_cell BK388.out 4).trans rfl; have hcz36_5 : w34.cell? ⟨gb388, 5, none⟩ = some (.string (⟨#[]⟩ : ByteArray)) := (blk_cell BK388.out 5).trans rfl; have hcz36_6 : w34.cell? ⟨gb388, 6, none⟩ = some (.slice none 0 0) := (blk_cell BK388.out 6).trans rfl; have hfz36_0 := blk_frozen BK388.out 0; have hfz36_1 := blk_frozen BK388.out 1; have hfz36_2 := blk_frozen BK388.out 2; have hfz36_3 := blk_frozen BK388.out 3; have hfz36_4 := blk_frozen BK388.out 4; have hfz36_5 := blk_frozen BK388.out 5; have hfz36_6 := blk_frozen BK388.out 6; have hcz37_0 : w34.cell? ⟨gb383, 0, none⟩ = some (.string a0_0) := (blk_cell BK383.out 0).trans rfl; have hcz37_1 : w34.cell? ⟨gb383, 1, none⟩ = some (.string a0_1) := (blk_cell BK383.out 1).trans rfl; have hcz37_2 : w34.cell? ⟨gb383, 2, none⟩ = some (.string a0_2) := (blk_cell BK383.out 2).trans rfl; have hcz37_3 : w34.cell? ⟨gb383, 3, none⟩ = some (.string a0_3) := (blk_cell BK383.out 3).trans rfl; have hcz37_4 : w34.cell? ⟨gb383, 4, none⟩ = some (.string a0_4) := (blk_cell BK383.out 4).trans rfl; have hcz37_5 : w34.cell? ⟨gb383, 5, none⟩ = some (.string a0_5) := (blk_cell BK383.out 5).trans rfl; have hcz37_6 : w34.cell? ⟨gb383, 6, none⟩ = some (.slice A0_6 l0_6.length c0_6) := (blk_cell BK383.out 6).trans rfl; have hfz37_0 := blk_frozen BK383.out 0; have hfz37_1 := blk_frozen BK383.out 1; have hfz37_2 := blk_frozen BK383.out 2; have hfz37_3 := blk_frozen BK383.out 3; have hfz37_4 := blk_frozen BK383.out 4; have hfz37_5 := blk_frozen BK383.out 5; have hfz37_6 := blk_frozen BK383.out 6) | ((with_reducible refine gate_dst (N := 50) rfl ?_); (try (refine gate_guard (by rfl) ?_; dsimp only)); refine Kd.R_lit Kd.string _ 9 ?hg (N := 50) ?hd (xs := ([a1, a0_1, a0_2, a0_3, a0_4, a0_5] : List ByteArray)) (inner := [.string a1, .string a0_1, .string a0_2, .string a0_3, .string a0_4, .string a0_5]) (ok := fun _ => True) (okp := fun _ => True) ?hr ?hp (fun _ hk => hk) trivial (Below.refl _ _) (Nat.le_refl _) (by simp) ?_; (case hd => rfl); (case hg => rfl); (case hr => first | (go_simp; done) | (go_simp; rfl)); (case hp => exact (Reps.one (show Kd.M Kd.string _ _ _ a1 [.string a1] from rfl) (Reps.one (show Kd.M Kd.string _ _ _ a0_1 [.string a0_1] from rfl) (Reps.one (show Kd.M Kd.string _ _ _ a0_2 [.string a0_2] from rfl) (Reps.one (show Kd.M Kd.string _ _ _ a0_3 [.string a0_3] from rfl) (Reps.one (show Kd.M Kd.string _ _ _ a0_4 [.string a0_4] from rfl) (Reps.one (show Kd.M Kd.string _ _ _ a0_5 [.string a0_5] from rfl) (Reps.none _ _)))))))); intro v390 w38 ho39 hb hg_ hnew_; clear hg_ hnew_; (first | rw [← Ny389.out] at ho39 | (simp only [Int.reduceToNat] at ho39; rw [← Ny389.out] at ho39)); have n0_ := Aside0.mk (Kd.R_lower ho39 (below_size (by repeat (first | (with_reducible first | exact HB.out | apply below_alloc | apply pw_below_drewN | apply below_drew1 | refine below_set ?_ GE383.out | refine below_set ?_ GE388.out) | exact HB.out)))); have n1_ := Aside0.mk (blk_below (g := gb383) (o := .cells #[.string a0_0, .string a0_1, .string a0_2, .string a0_3, .string a0_4, .string a0_5, .slice A0_6 l0_6.length c0_6] 35 (0, 0)) (by (with_reducible repeat (first | refine blk_drewN ?_ _ | refine blk_drew ?_ | refine blk_alloc ?_ _)); refine blk_far ?_ NB383_388.out _; (with_reducible repeat (first | refine blk_drewN ?_ _ | refine blk_drew ?_ | refine blk_alloc ?_ _)); refine blk_far ?_ NB383_388.out _; (with_reducible repeat (first | refine blk_drewN ?_ _ | refine blk_drew ?_ | refine blk_alloc ?_ _)); refine blk_far ?_ NB383_388.out _; (with_reducible repeat (first | refine blk_drewN ?_ _ | refine blk_drew ?_ | refine blk_alloc ?_ _)); refine blk_far ?_ NB383_388.out _; (with_reducible repeat (first | refine blk_drewN ?_ _ | refine blk_drew ?_ | refine blk_alloc ?_ _)); refine blk_far ?_ NB383_388.out _; (with_reducible repeat (first | refine blk_drewN ?_ _ | refine blk_drew ?_ | refine blk_alloc ?_ _)); refine blk_far ?_ NB383_388.out _; (with_reducible repeat (first | refine blk_drewN ?_ _ | refine blk_drew ?_ | refine blk_alloc ?_ _)); refine blk_far ?_ NB383_388.out _; (with_reducible repeat (first | refine blk_drewN ?_ _ | refine blk_drew ?_ | refine blk_alloc ?_ _)); refine blk_far ?_ NB383_388.out _; (with_reducible repeat (first | refine blk_drewN ?_ _ | refine blk_drew ?_ | refine blk_alloc ?_ _)); exact BK383.out) hb); have n2_ := Aside0.mk (blk_below (g := gb388) (o := .cells #[.string a1, .string a0_1, .string a0_2, .string a0_3, .string a0_4, .string a0_5, .slice A0_6 l0_6.length c0_6] 35 (0, 0)) (by (with_reducible repeat (first | refine blk_drewN ?_ _ | refine blk_drew ?_ | refine blk_alloc ?_ _)); refine blk_put (cs := #[.string a0_0, .string a0_1, .string a0_2, .string a0_3, .string a0_4, .string a0_5, .slice A0_6 l0_6.length c0_6]) ?_ 0 _ rfl; (with_reducible repeat (first | refine blk_drewN ?_ _ | refine blk_drew ?_ | refine blk_alloc ?_ _)); refine blk_put (cs := #[.string a0_0, .string a0_1, .string a0_2, .string a0_3, .string a0_4, .string a0_5, .slice none 0 0]) ?_ 6 _ rfl; (with_reducible repeat (first | refine blk_drewN ?_ _ | refine blk_drew ?_ | refine blk_alloc ?_ _)); refine blk_put (cs := #[.string a0_0, .string a0_1, .string a0_2, .string a0_3, .string a0_4, .string (⟨#[]⟩ : ByteArray), .slice none 0 0]) ?_ 5 _ rfl; (with_reducible repeat (first | refine blk_drewN ?_ _ | refine blk_drew ?_ | refine blk_alloc ?_ _)); refine blk_put (cs := #[.string a0_0, .string a0_1, .string a0_2, .string a0_3, .string (⟨#[]⟩ : ByteArray), .string (⟨#[]⟩ : ByteArray), .slice none 0 0]) ?_ 4 _ rfl; (with_reducible repeat (first | refine blk_drewN ?_ _ | refine blk_drew ?_ | refine blk_alloc ?_ _)); refine blk_put (cs := #[.string a0_0, .string a0_1, .string a0_2, .string (⟨#[]⟩ : ByteArray), .string (⟨#[]⟩ : ByteArray), .string (⟨#[]⟩ : ByteArray), .slice none 0 0]) ?_ 3 _ rfl; (with_reducible repeat (first | refine blk_drewN ?_ _ | refine blk_drew ?_ | refine blk_alloc ?_ _)); refine blk_put (cs := #[.string a0_0, .string a0_1, .string (⟨#[]⟩ : ByteArray), .string (⟨#[]⟩ : ByteArray), .string (⟨#[]⟩ : ByteArray), .string (⟨#[]⟩ : ByteArray), .slice none 0 0]) ?_ 2 _ rfl; (with_reducible repeat (first | refine blk_drewN ?_ _ | refine blk_drew ?_ | refine blk_alloc ?_ _)); refine blk_put (cs := #[.string a0_0, .string (⟨#[]⟩ : ByteArray), .string (⟨#[]⟩ : ByteArray), .string (⟨#[]⟩ : ByteArray), .string (⟨#[]⟩ : ByteArray), .string (⟨#[]⟩ : ByteArray), .slice none 0 0]) ?_ 1 _ rfl; (with_reducible repeat (first | refine blk_drewN ?_ _ | refine blk_drew ?_ | refine blk_alloc ?_ _)); refine blk_put (cs := #[.string (⟨#[]⟩ : ByteArray), .string (⟨#[]⟩ : ByteArray), .string (⟨#[]⟩ : ByteArray), .string (⟨#[]⟩ : ByteArray), .string (⟨#[]⟩ : ByteArray), .string (⟨#[]⟩ : ByteArray), .slice none 0 0]) ?_ 0 _ rfl; (with_reducible repeat (first | refine blk_drewN ?_ _ | refine blk_drew ?_ | refine blk_alloc ?_ _)); exact BK388.out) hb); have n3_ := Aside0.mk (below_step (by repeat (first | (with_reducible first | exact HB.out | apply below_alloc | apply pw_below_drewN | apply below_drew1 | refine below_set ?_ GE383.out | refine below_set ?_ GE388.out) | exact HB.out)) hb); clear BK383; clear BK388; clear HB; have HO391 := n0_; have BK383 := n1_; have BK388 := n2_; have HB := n3_; clear n0_ n1_ n2_ n3_; clear hb ho39; have hcz40_0 : w38.cell? ⟨gb383, 0, none⟩ = some (.string a0_0) := (blk_cell BK383.out 0).trans rfl; have hcz40_1 : w38.cell? ⟨gb383, 1, none⟩ = some (.string a0_1) := (blk_cell BK383.out 1).trans rfl; have hcz40_2 : w38.cell? ⟨gb383, 2, none⟩ = some (.string a0_2) := (blk_cell BK383.out 2).trans rfl; have hcz40_3 : w38.cell? ⟨gb383, 3, none⟩ = some (.string a0_3) := (blk_cell BK383.out 3).trans rfl; have hcz40_4 : w38.cell? ⟨gb383, 4, none⟩ = some (.string a0_4) := (blk_cell BK383.out 4).trans rfl; have hcz40_5 : w38.cell? ⟨gb383, 5, none⟩ = some (.string a0_5) := (blk_cell BK383.out 5).trans rfl; have hcz40_6 : w38.cell? ⟨gb383, 6, none⟩ = some (.slice A0_6 l0_6.length c0_6) := (blk_cell BK383.out 6).trans rfl; have hfz40_0 := blk_frozen BK383.out 0; have hfz40_1 := blk_frozen BK383.out 1; have hfz40_2 := blk_frozen BK383.out 2; have hfz40_3 := blk_frozen BK383.out 3; have hfz40_4 := blk_frozen BK383.out 4; have hfz40_5 := blk_frozen BK383.out 5; have hfz40_6 := blk_frozen BK383.out 6) | ((with_reducible refine gate_builtin (b := .append) (xs := #[.tmp 50, .tmp 52]) rfl ?_); (try (refine gate_guard (by rfl) ?_; dsimp only)); at_builtin; refine Kd.R_append_rows Kd.string (w0 := w) w.heap.size rfl (.tmp 50) (.tmp 52) 22 9 (.string ⟨#[]⟩) 16 rfl Try.underlying22 info9 rfl (by decide) (by omega) v390 y389 l0_6 _ _ _ (fun _ => True) (fun _ => False) rfl rfl ?aO ?aR (fun _ _ h => h) (fun _ h => h.elim) ?aF ?aB ?aS ?aL ?_; (case aR => repeat (first | exact (Kd.C_below HR0_6.out HB.out) | (with_reducible refine Kd.C_alloc ?_ _) | (with_reducible refine Kd.C_drewN ?_ _) | (with_reducible refine Kd.C_drew ?_))); (case aB => exact (by repeat (first | (with_reducible first | exact HB.out | apply below_alloc | apply pw_below_drewN | apply below_drew1 | refine below_set ?_ GE383.out | refine below_set ?_ GE388.out) | exact HB.out))); (case aF => exact (fun _ _ => trivial)); (case aO => exact (by (with_reducible repeat (first | apply Kd.R_alloc | apply Kd.R_drewN | apply Kd.R_drew)); exact HO391.out)); (case aS => exact (below_size (by repeat (first | (with_reducible first | exact HB.out | apply below_alloc | apply pw_below_drewN | apply below_drew1 | refine below_set ?_ GE383.out | refine below_set ?_ GE388.out) | exact HB.out)))); (case aL => have := LMc23.out; omega); intro v393 w41 ho hb hg hat; rw [← Ny392.out] at ho; have n0_ := Aside0.mk (blk_grown (g := gb383) (o := .cells #[.string a0_0, .string a0_1, .string a0_2, .string a0_3, .string a0_4, .string a0_5, .slice A0_6 l0_6.length c0_6] 35 (0, 0)) (by (with_reducible repeat (first | refine blk_drewN ?_ _ | refine blk_drew ?_ | refine blk_alloc ?_ _)); exact BK383.out) hg (Kd.R_ne HO391.out BK383.out (by decide))); have n1_ := Aside0.mk (blk_grown (g := gb388) (o := .cells #[.string a1, .string a0_1, .string a0_2, .string a0_3, .string a0_4, .string a0_5, .slice A0_6 l0_6.length c0_6] 35 (0, 0)) (by (with_reducible repeat (first | refine blk_drewN ?_ _ | refine blk_drew ?_ | refine blk_alloc ?_ _)); exact BK388.out) hg (Kd.R_ne HO391.out BK388.out (by decide))); have n2_ := Aside0.mk (hb); have n3_ := Aside0.mk (ho); clear BK383; clear BK388; clear HB; clear HO391; have BK383 := n0_; have BK388 := n1_; have HB := n2_; have HO394 := n3_; clear n0_ n1_ n2_ n3_; clear ho hb hg hat; obtain ⟨Ao42, co42, eo42⟩ := Kd.R_slice HO394.out; subst eo42) | ((with_reducible refine gate_callee (f := 20) rfl ?_); refine goesL_ (some 55) rfl rfl Try.func20 (by kernel_rfl) rfl #[.slice Ao42 y392.length co42] rfl (by (try simp only [List.map_toArray, List.map_cons, List.map_nil]); first | done | rfl | (simp only [List.length_drop, List.length_take]; rfl)) ?_; (with_reducible refine (name_Unlike.calls _ _ y392 true _ ?side1 ?side2 A24.out).mono ?_); (case side1 => repeat (first | exact (Kd.R_reads' HO394.out).2.2 | (with_reducible refine Kd.C_alloc ?_ _) | (with_reducible refine Kd.C_drewN ?_ _) | (with_reducible refine Kd.C_drew ?_))); (case side2 => exact (Kd.R_reads' HO394.out).2.1); rintro e w43 ⟨rfl, hb⟩; refine ⟨_, rfl, ?_⟩; have n0_ := Aside0.mk (Kd.R_below (by (with_reducible repeat (first | apply Kd.R_alloc | apply Kd.R_drewN | apply Kd.R_drew)); exact HO394.out) hb); have n1_ := Aside0.mk (blk_below (g := gb383) (o := .cells #[.string a0_0, .string a0_1, .string a0_2, .string a0_3, .string a0_4, .string a0_5, .slice A0_6 l0_6.length c0_6] 35 (0, 0)) (by (with_reducible repeat (first | refine blk_drewN ?_ _ | refine blk_drew ?_ | refine blk_alloc ?_ _)); exact BK383.out) hb); have n2_ := Aside0.mk (blk_below (g := gb388) (o := .cells #[.string a1, .string a0_1, .string a0_2, .string a0_3, .string a0_4, .string a0_5, .slice A0_6 l0_6.length c0_6] 35 (0, 0)) (by (with_reducible repeat (first | refine blk_drewN ?_ _ | refine blk_drew ?_ | refine blk_alloc ?_ _)); exact BK388.out) hb); have n3_ := Aside0.mk (below_step (by repeat (first | (with_reducible first | exact HB.out | apply below_alloc | apply pw_below_drewN | apply below_drew1 | refine below_set ?_ GE383.out | refine below_set ?_ GE388.out) | exact HB.out)) hb); clear HO394; clear BK383; clear BK388; clear HB; have HO394 := n0_; have BK383 := n1_; have BK388 := n2_; have HB := n3_; clear n0_ n1_ n2_ n3_; (try clear hb); (try clear hb2); (try clear hk); (try clear hi)))
                    have n0_ := Aside0.mk (Kd.R_drew HO394.out)
                    have n1_ := Aside0.mk (blk_drew BK383.out)
                    have n2_ := Aside0.mk (blk_drew BK388.out)
                    have n3_ := Aside0.mk (below_drew1 HB.out)
                    clear HO394
                    clear BK383
                    clear BK388
                    clear HB
                    have HO394 := n0_
                    have BK383 := n1_
                    have BK388 := n2_
                    have HB := n3_
                    clear n0_ n1_ n2_ n3_
                    refine start_ (n := 22) (S := fun w' => w'.cell? ⟨gb388, 0, none⟩ = some (.string a1) ∧ w'.cell? ⟨gb388, 1, none⟩ = some (.string a0_1) ∧ w'.cell? ⟨gb388, 2, none⟩ = some (.string a0_2) ∧ w'.cell? ⟨gb388, 3, none⟩ = some (.string a0_3) ∧ w'.cell? ⟨gb388, 4, none⟩ = some (.string a0_4) ∧ w'.cell? ⟨gb388, 5, none⟩ = some (.string a0_5) ∧ w'.cell? ⟨gb388, 6, none⟩ = some (.slice A0_6 l0_6.length c0_6) ∧ w'.cell? ⟨gb383, 0, none⟩ = some (.string a0_0) ∧ w'.cell? ⟨gb383, 1, none⟩ = some (.string a0_1) ∧ w'.cell? ⟨gb383, 2, none⟩ = some (.string a0_2) ∧ w'.cell? ⟨gb383, 3, none⟩ = some (.string a0_3) ∧ w'.cell? ⟨gb383, 4, none⟩ = some (.string a0_4) ∧ w'.cell? ⟨gb383, 5, none⟩ = some (.string a0_5) ∧ w'.cell? ⟨gb383, 6, none⟩ = some (.slice A0_6 l0_6.length c0_6)) (ds := []) #[false, false, false, false, false, false, false, false, false, false, false, false, false, false, false, false, false, false, false, false, false, false] (by kernel_rfl) rfl rfl ⟨(blk_cell BK388.out 0).trans rfl, (blk_cell BK388.out 1).trans rfl, (blk_cell BK388.out 2).trans rfl, (blk_cell BK388.out 3).trans rfl, (blk_cell BK388.out 4).trans rfl, (blk_cell BK388.out 5).trans rfl, (blk_cell BK388.out 6).trans rfl, (blk_cell BK383.out 0).trans rfl, (blk_cell BK383.out 1).trans rfl, (blk_cell BK383.out 2).trans rfl, (blk_cell BK383.out 3).trans rfl, (blk_cell BK383.out 4).trans rfl, (blk_cell BK383.out 5).trans rfl, (blk_cell BK383.out 6).trans rfl⟩ (fun hHeld => ?_); refine with_tabW decklelaw15_HeaderResult.tab9 decklelaw15_HeaderResult.bits9 (fun HT_ HW_ => ?_)
                    generalize w43.drew = w44 at HO394 BK383 BK388 HB hHeld ⊢
                    refine pure_ (i := 0) (N := some 56) (v := ?_) (a' := ?_) #[true, false, false, false, false, false, false, false, false, false, false, false, false, false, false, false, false, false, false, false, false, false] rfl rfl (any_of HT_.out (by kernel_rfl)) (fun _ _ _ h => h) (Or.inl ⟨by rfl, ?_⟩) ?_ ?_
                    rotate_left
                    · intro w'
                      go_simp
                      with_reducible rfl
                    rotate_left
                    · simp only [Act.put, List.setIfInBounds_toArray, List.set_cons_zero, List.set_cons_succ, i64_w, i32_w]
                      rfl
                    refine pure_ (i := 1) (N := some 57) (v := ?_) (a' := ?_) #[true, true, false, false, false, false, false, false, false, false, false, false, false, false, false, false, false, false, false, false, false, false] rfl rfl (any_of HT_.out (by kernel_rfl)) (fun _ _ _ h => h) (Or.inl ⟨by rfl, ?_⟩) ?_ ?_
                    rotate_left
                    · intro w'
                      go_simp
                      with_reducible rfl
                    rotate_left
                    · simp only [Act.put, List.setIfInBounds_toArray, List.set_cons_zero, List.set_cons_succ, i64_w, i32_w]
                      rfl
                    refine pure_ (i := 4) (N := some 60) (v := ?_) (a' := ?_) #[true, true, false, false, true, false, false, false, false, false, false, false, false, false, false, false, false, false, false, false, false, false] rfl rfl (any_of HT_.out (by kernel_rfl)) (fun _ _ _ h => h) (Or.inl ⟨by rfl, ?_⟩) ?_ ?_
                    rotate_left
                    · intro w'
                      go_simp
                      with_reducible rfl
                    rotate_left
                    · simp only [Act.put, List.setIfInBounds_toArray, List.set_cons_zero, List.set_cons_succ, i64_w, i32_w]
                      rfl
                    refine take_ (i := 2) (N := some 58) (v := ?_) (a' := ?_) #[true, true, true, false, true, false, false, false, false, false, false, false, false, false, false, false, false, false, false, false, false, false] rfl rfl (take_ofW HT_.out HW_.out (by kernel_rfl)) (fun _ _ _ h => h) (Or.inl ⟨by rfl, ?_⟩) hHeld ?_ ?_
                    rotate_left
                    · rintro w' ⟨s0, s1, s2, s3, s4, s5, s6, s7, s8, s9, s10, s11, s12, s13⟩
                      go_simp
                      with_reducible rfl
                    rotate_left
                    · simp only [Act.put, List.setIfInBounds_toArray, List.set_cons_zero, List.set_cons_succ, i64_w, i32_w]
                      rfl
                    refine one_ (i := 3) (N := some 59) #[true, true, true, true, true, false, false, false, false, false, false, false, false, false, false, false, false, false, false, false, false, false] rfl rfl (one_of HT_.out (by kernel_rfl)) (by decide) (fun K hK => ?_)
                    refine goes_ Try.func26 (by kernel_rfl) rfl #[.agg #[.string a1, .string a0_1, .string a0_2, .string a0_3, .string a0_4, .string a0_5, .slice A0_6 l0_6.length c0_6]] (by rfl) rfl rfl (by (try simp only [List.map_toArray, List.map_cons, List.map_nil]); first | done | rfl | (simp only [List.length_drop, List.length_take]; rfl)) ?_
                    with_reducible refine (header_Right.calls kj4 a1 a0_1 a0_2 a0_3 a0_4 a0_5 _ _ l0_6 t396 _ ?side1 ?side2 A26.out).mono ?_
                    (case side1 => repeat (first | exact (Kd.C_below HR0_6.out HB.out) | (with_reducible refine Kd.C_alloc ?_ _) | (with_reducible refine Kd.C_drewN ?_ _) | (with_reducible refine Kd.C_drew ?_)))
                    (case side2 => exact HC0_6.out)
                    rintro e w45 ⟨rfl, hb⟩
                    refine ⟨_, rfl, ?_⟩
                    have n0_ := Aside0.mk (Kd.R_below (by (with_reducible repeat (first | apply Kd.R_alloc | apply Kd.R_drewN | apply Kd.R_drew)); exact HO394.out) hb)
                    have n1_ := Aside0.mk (blk_below (g := gb383) (o := .cells #[.string a0_0, .string a0_1, .string a0_2, .string a0_3, .string a0_4, .string a0_5, .slice A0_6 l0_6.length c0_6] 35 (0, 0)) (by (with_reducible repeat (first | refine blk_drewN ?_ _ | refine blk_drew ?_ | refine blk_alloc ?_ _)); exact BK383.out) hb)
                    have n2_ := Aside0.mk (blk_below (g := gb388) (o := .cells #[.string a1, .string a0_1, .string a0_2, .string a0_3, .string a0_4, .string a0_5, .slice A0_6 l0_6.length c0_6] 35 (0, 0)) (by (with_reducible repeat (first | refine blk_drewN ?_ _ | refine blk_drew ?_ | refine blk_alloc ?_ _)); exact BK388.out) hb)
                    have n3_ := Aside0.mk (below_step (by repeat (first | (with_reducible first | exact HB.out | apply below_alloc | apply pw_below_drewN | apply below_drew1 | refine below_set ?_ GE383.out | refine below_set ?_ GE388.out) | exact HB.out)) hb)
                    clear HO394
                    clear BK383
                    clear BK388
                    clear HB
                    have HO394 := n0_
                    have BK383 := n1_
                    have BK388 := n2_
                    have HB := n3_
                    clear n0_ n1_ n2_ n3_
                    (try clear hb)
                    (try clear hb2)
                    (try clear hk)
                    (try clear hi)
                    refine hK.out _ _ ⟨(blk_cell BK388.out 0).trans rfl, (blk_cell BK388.out 1).trans rfl, (blk_cell BK388.out 2).trans rfl, (blk_cell BK388.out 3).trans rfl, (blk_cell BK388.out 4).trans rfl, (blk_cell BK388.out 5).trans rfl, (blk_cell BK388.out 6).trans rfl, (blk_cell BK383.out 0).trans rfl, (blk_cell BK383.out 1).trans rfl, (blk_cell BK383.out 2).trans rfl, (blk_cell BK383.out 3).trans rfl, (blk_cell BK383.out 4).trans rfl, (blk_cell BK383.out 5).trans rfl, (blk_cell BK383.out 6).trans rfl⟩ (fun hHeld => ?_)
                    clear hK K
                    refine norm_ (a' := ?_) ?_ ?_
                    rotate_left
                    · show Act.put _ (some 59) _ = _
                      simp only [Act.put, List.setIfInBounds_toArray, List.set_cons_zero, List.set_cons_succ, i64_w, i32_w]
                      rfl
                    refine pure_ (i := 5) (N := some 61) (v := ?_) (a' := ?_) #[true, true, true, true, true, true, false, false, false, false, false, false, false, false, false, false, false, false, false, false, false, false] rfl rfl (any_of HT_.out (by kernel_rfl)) (fun _ _ _ h => h) (Or.inl ⟨by rfl, ?_⟩) ?_ ?_
                    rotate_left
                    · intro w'
                      go_simp
                      with_reducible rfl
                    rotate_left
                    · simp only [Act.put, List.setIfInBounds_toArray, List.set_cons_zero, List.set_cons_succ, i64_w, i32_w]
                      rfl
                    refine pure_ (i := 6) (N := some 62) (v := ?_) (a' := ?_) #[true, true, true, true, true, true, true, false, false, false, false, false, false, false, false, false, false, false, false, false, false, false] rfl rfl (any_of HT_.out (by kernel_rfl)) (fun _ _ _ h => h) (Or.inl ⟨by rfl, ?_⟩) ?_ ?_
                    rotate_left
                    · intro w'
                      go_simp
                      with_reducible rfl
                    rotate_left
                    · simp only [Act.put, List.setIfInBounds_toArray, List.set_cons_zero, List.set_cons_succ, i64_w, i32_w]
                      rfl
                    refine pure_ (i := 7) (N := some 63) (v := ?_) (a' := ?_) #[true, true, true, true, true, true, true, true, false, false, false, false, false, false, false, false, false, false, false, false, false, false] rfl rfl (any_of HT_.out (by kernel_rfl)) (fun _ _ _ h => h) (Or.inl ⟨by rfl, ?_⟩) ?_ ?_
                    rotate_left
                    · intro w'
                      go_simp
                      with_reducible rfl
                    rotate_left
                    · simp only [Act.put, List.setIfInBounds_toArray, List.set_cons_zero, List.set_cons_succ, i64_w, i32_w]
                      rfl
                    refine pure_ (i := 8) (N := some 64) (v := ?_) (a' := ?_) #[true, true, true, true, true, true, true, true, true, false, false, false, false, false, false, false, false, false, false, false, false, false] rfl rfl (any_of HT_.out (by kernel_rfl)) (fun _ _ _ h => h) (Or.inl ⟨by rfl, ?_⟩) ?_ ?_
                    rotate_left
                    · intro w'
                      go_simp
                      with_reducible rfl
                    rotate_left
                    · simp only [Act.put, List.setIfInBounds_toArray, List.set_cons_zero, List.set_cons_succ, i64_w, i32_w]
                      rfl
                    refine pure_ (i := 9) (N := some 65) (v := ?_) (a' := ?_) #[true, true, true, true, true, true, true, true, true, true, false, false, false, false, false, false, false, false, false, false, false, false] rfl rfl (any_of HT_.out (by kernel_rfl)) (fun _ _ _ h => h) (Or.inl ⟨by rfl, ?_⟩) ?_ ?_
                    rotate_left
                    · intro w'
                      go_simp
                      with_reducible rfl
                    rotate_left
                    · simp only [Act.put, List.setIfInBounds_toArray, List.set_cons_zero, List.set_cons_succ, i64_w, i32_w]
                      rfl
                    refine pure_ (i := 10) (N := some 66) (v := ?_) (a' := ?_) #[true, true, true, true, true, true, true, true, true, true, true, false, false, false, false, false, false, false, false, false, false, false] rfl rfl (any_of HT_.out (by kernel_rfl)) (fun _ _ _ h => h) (Or.inl ⟨by rfl, ?_⟩) ?_ ?_
                    rotate_left
                    · intro w'
                      go_simp
                      with_reducible rfl
                    rotate_left
                    · simp only [Act.put, List.setIfInBounds_toArray, List.set_cons_zero, List.set_cons_succ, i64_w, i32_w]
                      rfl
                    refine pure_ (i := 13) (N := some 69) (v := ?_) (a' := ?_) #[true, true, true, true, true, true, true, true, true, true, true, false, false, true, false, false, false, false, false, false, false, false] rfl rfl (any_of HT_.out (by kernel_rfl)) (fun _ _ _ h => h) (Or.inl ⟨by rfl, ?_⟩) ?_ ?_
                    rotate_left
                    · intro w'
                      go_simp
                      with_reducible rfl
                    rotate_left
                    · simp only [Act.put, List.setIfInBounds_toArray, List.set_cons_zero, List.set_cons_succ, i64_w, i32_w]
                      rfl
                    refine pure_ (i := 14) (N := some 70) (v := ?_) (a' := ?_) #[true, true, true, true, true, true, true, true, true, true, true, false, false, true, true, false, false, false, false, false, false, false] rfl rfl (any_of HT_.out (by kernel_rfl)) (fun _ _ _ h => h) (Or.inl ⟨by rfl, ?_⟩) ?_ ?_
                    rotate_left
                    · intro w'
                      go_simp
                      with_reducible rfl
                    rotate_left
                    · simp only [Act.put, List.setIfInBounds_toArray, List.set_cons_zero, List.set_cons_succ, i64_w, i32_w]
                      rfl
                    refine take_ (i := 11) (N := some 67) (v := ?_) (a' := ?_) #[true, true, true, true, true, true, true, true, true, true, true, true, false, true, true, false, false, false, false, false, false, false] rfl rfl (take_ofW HT_.out HW_.out (by kernel_rfl)) (fun _ _ _ h => h) (Or.inl ⟨by rfl, ?_⟩) hHeld ?_ ?_
                    rotate_left
                    · rintro w' ⟨s0, s1, s2, s3, s4, s5, s6, s7, s8, s9, s10, s11, s12, s13⟩
                      go_simp
                      with_reducible rfl
                    rotate_left
                    · simp only [Act.put, List.setIfInBounds_toArray, List.set_cons_zero, List.set_cons_succ, i64_w, i32_w]
                      rfl
                    refine take_ (i := 15) (N := some 71) (v := ?_) (a' := ?_) #[true, true, true, true, true, true, true, true, true, true, true, true, false, true, true, true, false, false, false, false, false, false] rfl rfl (take_ofW HT_.out HW_.out (by kernel_rfl)) (fun _ _ _ h => h) (Or.inl ⟨by rfl, ?_⟩) hHeld ?_ ?_
                    rotate_left
                    · rintro w' ⟨s0, s1, s2, s3, s4, s5, s6, s7, s8, s9, s10, s11, s12, s13⟩
                      go_simp
                      with_reducible rfl
                    rotate_left
                    · simp only [Act.put, List.setIfInBounds_toArray, List.set_cons_zero, List.set_cons_succ, i64_w, i32_w]
                      rfl
                    refine one_ (i := 12) (N := some 68) #[true, true, true, true, true, true, true, true, true, true, true, true, true, true, true, true, false, false, false, false, false, false] rfl rfl (one_of HT_.out (by kernel_rfl)) (by decide) (fun K hK => ?_)
                    refine goes_ Try.func28 (by kernel_rfl) rfl #[.agg #[.string a1, .string a0_1, .string a0_2, .string a0_3, .string a0_4, .string a0_5, .slice A0_6 l0_6.length c0_6]] (by rfl) rfl rfl (by (try simp only [List.map_toArray, List.map_cons, List.map_nil]); first | done | rfl | (simp only [List.length_drop, List.length_take]; rfl)) ?_
                    with_reducible refine (header_Text.calls a1 a0_1 a0_2 a0_3 a0_4 a0_5 _ _ l0_6 t397 _ ?side1 ?side2 A29.out).mono ?_
                    (case side1 => repeat (first | exact (Kd.C_below HR0_6.out HB.out) | (with_reducible refine Kd.C_alloc ?_ _) | (with_reducible refine Kd.C_drewN ?_ _) | (with_reducible refine Kd.C_drew ?_)))
                    (case side2 => exact HC0_6.out)
                    rintro e w46 ⟨rfl, hb⟩
                    refine ⟨_, rfl, ?_⟩
                    have n0_ := Aside0.mk (Kd.R_below (by (with_reducible repeat (first | apply Kd.R_alloc | apply Kd.R_drewN | apply Kd.R_drew)); exact HO394.out) hb)
                    have n1_ := Aside0.mk (blk_below (g := gb383) (o := .cells #[.string a0_0, .string a0_1, .string a0_2, .string a0_3, .string a0_4, .string a0_5, .slice A0_6 l0_6.length c0_6] 35 (0, 0)) (by (with_reducible repeat (first | refine blk_drewN ?_ _ | refine blk_drew ?_ | refine blk_alloc ?_ _)); exact BK383.out) hb)
                    have n2_ := Aside0.mk (blk_below (g := gb388) (o := .cells #[.string a1, .string a0_1, .string a0_2, .string a0_3, .string a0_4, .string a0_5, .slice A0_6 l0_6.length c0_6] 35 (0, 0)) (by (with_reducible repeat (first | refine blk_drewN ?_ _ | refine blk_drew ?_ | refine blk_alloc ?_ _)); exact BK388.out) hb)
                    have n3_ := Aside0.mk (below_step (by repeat (first | (with_reducible first | exact HB.out | apply below_alloc | apply pw_below_drewN | apply below_drew1 | refine below_set ?_ GE383.out | refine below_set ?_ GE388.out) | exact HB.out)) hb)
                    clear HO394
                    clear BK383
                    clear BK388
                    clear HB
                    have HO394 := n0_
                    have BK383 := n1_
                    have BK388 := n2_
                    have HB := n3_
                    clear n0_ n1_ n2_ n3_
                    (try clear hb)
                    (try clear hb2)
                    (try clear hk)
                    (try clear hi)
                    refine hK.out _ _ ⟨(blk_cell BK388.out 0).trans rfl, (blk_cell BK388.out 1).trans rfl, (blk_cell BK388.out 2).trans rfl, (blk_cell BK388.out 3).trans rfl, (blk_cell BK388.out 4).trans rfl, (blk_cell BK388.out 5).trans rfl, (blk_cell BK388.out 6).trans rfl, (blk_cell BK383.out 0).trans rfl, (blk_cell BK383.out 1).trans rfl, (blk_cell BK383.out 2).trans rfl, (blk_cell BK383.out 3).trans rfl, (blk_cell BK383.out 4).trans rfl, (blk_cell BK383.out 5).trans rfl, (blk_cell BK383.out 6).trans rfl⟩ (fun hHeld => ?_)
                    clear hK K
                    refine norm_ (a' := ?_) ?_ ?_
                    rotate_left
                    · show Act.put _ (some 68) _ = _
                      simp only [Act.put, List.setIfInBounds_toArray, List.set_cons_zero, List.set_cons_succ, i64_w, i32_w]
                      rfl
                    refine one_ (i := 16) (N := some 72) #[true, true, true, true, true, true, true, true, true, true, true, true, true, true, true, true, true, false, false, false, false, false] rfl rfl (one_of HT_.out (by kernel_rfl)) (by decide) (fun K hK => ?_)
                    refine goes_ Try.func28 (by kernel_rfl) rfl #[.agg #[.string a0_0, .string a0_1, .string a0_2, .string a0_3, .string a0_4, .string a0_5, .slice A0_6 l0_6.length c0_6]] (by rfl) rfl rfl (by (try simp only [List.map_toArray, List.map_cons, List.map_nil]); first | done | rfl | (simp only [List.length_drop, List.length_take]; rfl)) ?_
                    with_reducible refine (header_Text.calls a0_0 a0_1 a0_2 a0_3 a0_4 a0_5 _ _ l0_6 t398 _ ?side1 ?side2 A31.out).mono ?_
                    (case side1 => repeat (first | exact (Kd.C_below HR0_6.out HB.out) | (with_reducible refine Kd.C_alloc ?_ _) | (with_reducible refine Kd.C_drewN ?_ _) | (with_reducible refine Kd.C_drew ?_)))
                    (case side2 => exact HC0_6.out)
                    rintro e w47 ⟨rfl, hb⟩
                    refine ⟨_, rfl, ?_⟩
                    have n0_ := Aside0.mk (Kd.R_below (by (with_reducible repeat (first | apply Kd.R_alloc | apply Kd.R_drewN | apply Kd.R_drew)); exact HO394.out) hb)
                    have n1_ := Aside0.mk (blk_below (g := gb383) (o := .cells #[.string a0_0, .string a0_1, .string a0_2, .string a0_3, .string a0_4, .string a0_5, .slice A0_6 l0_6.length c0_6] 35 (0, 0)) (by (with_reducible repeat (first | refine blk_drewN ?_ _ | refine blk_drew ?_ | refine blk_alloc ?_ _)); exact BK383.out) hb)
                    have n2_ := Aside0.mk (blk_below (g := gb388) (o := .cells #[.string a1, .string a0_1, .string a0_2, .string a0_3, .string a0_4, .string a0_5, .slice A0_6 l0_6.length c0_6] 35 (0, 0)) (by (with_reducible repeat (first | refine blk_drewN ?_ _ | refine blk_drew ?_ | refine blk_alloc ?_ _)); exact BK388.out) hb)
                    have n3_ := Aside0.mk (below_step (by repeat (first | (with_reducible first | exact HB.out | apply below_alloc | apply pw_below_drewN | apply below_drew1 | refine below_set ?_ GE383.out | refine below_set ?_ GE388.out) | exact HB.out)) hb)
                    clear HO394
                    clear BK383
                    clear BK388
                    clear HB
                    have HO394 := n0_
                    have BK383 := n1_
                    have BK388 := n2_
                    have HB := n3_
                    clear n0_ n1_ n2_ n3_
                    (try clear hb)
                    (try clear hb2)
                    (try clear hk)
                    (try clear hi)
                    refine hK.out _ _ ⟨(blk_cell BK388.out 0).trans rfl, (blk_cell BK388.out 1).trans rfl, (blk_cell BK388.out 2).trans rfl, (blk_cell BK388.out 3).trans rfl, (blk_cell BK388.out 4).trans rfl, (blk_cell BK388.out 5).trans rfl, (blk_cell BK388.out 6).trans rfl, (blk_cell BK383.out 0).trans rfl, (blk_cell BK383.out 1).trans rfl, (blk_cell BK383.out 2).trans rfl, (blk_cell BK383.out 3).trans rfl, (blk_cell BK383.out 4).trans rfl, (blk_cell BK383.out 5).trans rfl, (blk_cell BK383.out 6).trans rfl⟩ (fun hHeld => ?_)
                    clear hK K
                    refine norm_ (a' := ?_) ?_ ?_
                    rotate_left
                    · show Act.put _ (some 72) _ = _
                      simp only [Act.put, List.setIfInBounds_toArray, List.set_cons_zero, List.set_cons_succ, i64_w, i32_w]
                      rfl
                    refine pure_ (i := 17) (N := some 73) (v := ?_) (a' := ?_) #[true, true, true, true, true, true, true, true, true, true, true, true, true, true, true, true, true, true, false, false, false, false] rfl rfl (any_of HT_.out (by kernel_rfl)) (fun _ _ _ h => h) (Or.inl ⟨by rfl, ?_⟩) ?_ ?_
                    rotate_left
                    · intro w'
                      go_simp
                      with_reducible rfl
                    rotate_left
                    · simp only [Act.put, List.setIfInBounds_toArray, List.set_cons_zero, List.set_cons_succ, i64_w, i32_w]
                      rfl
                    refine pure_ (i := 18) (N := some 74) (v := ?_) (a' := ?_) #[true, true, true, true, true, true, true, true, true, true, true, true, true, true, true, true, true, true, true, false, false, false] rfl rfl (any_of HT_.out (by kernel_rfl)) (fun _ _ _ h => h) (Or.inl ⟨by rfl, ?_⟩) ?_ ?_
                    rotate_left
                    · intro w'
                      go_simp
                      with_reducible rfl
                    rotate_left
                    · simp only [Act.put, List.setIfInBounds_toArray, List.set_cons_zero, List.set_cons_succ, i64_w, i32_w]
                      rfl
                    refine pure_ (i := 19) (N := some 75) (v := ?_) (a' := ?_) #[true, true, true, true, true, true, true, true, true, true, true, true, true, true, true, true, true, true, true, true, false, false] rfl rfl (any_of HT_.out (by kernel_rfl)) (fun _ _ _ h => h) (Or.inl ⟨by rfl, ?_⟩) ?_ ?_
                    rotate_left
                    · intro w'
                      go_simp
                      with_reducible rfl
                    rotate_left
                    · simp only [Act.put, List.setIfInBounds_toArray, List.set_cons_zero, List.set_cons_succ, i64_w, i32_w]
                      rfl
                    refine pure_ (i := 20) (N := some 76) (v := ?_) (a' := ?_) #[true, true, true, true, true, true, true, true, true, true, true, true, true, true, true, true, true, true, true, true, true, false] rfl rfl (any_of HT_.out (by kernel_rfl)) (fun _ _ _ h => h) (Or.inl ⟨by rfl, ?_⟩) ?_ ?_
                    rotate_left
                    · intro w'
                      go_simp
                      with_reducible rfl
                    rotate_left
                    · simp only [Act.put, List.setIfInBounds_toArray, List.set_cons_zero, List.set_cons_succ, i64_w, i32_w]
                      rfl
                    refine pure_ (i := 21) (N := some 4) (v := ?_) (a' := ?_) #[true, true, true, true, true, true, true, true, true, true, true, true, true, true, true, true, true, true, true, true, true, true] rfl rfl (any_of HT_.out (by kernel_rfl)) (fun _ _ _ h => h) (Or.inl ⟨by rfl, ?_⟩) ?_ ?_
                    rotate_left
                    · intro w'
                      go_simp
                      with_reducible rfl
                    rotate_left
                    · simp only [Act.put, List.setIfInBounds_toArray, List.set_cons_zero, List.set_cons_succ, i64_w, i32_w]
                      rfl
                    refine done_ (done_of HT_.out (by kernel_rfl)) ?_
                    try go_wp2
                    go_ret
                    exact ⟨by first | rfl | (simp [errW_none, errW_some] <;> rfl) | (simp [*, errW_none, errW_some] <;> rfl), by repeat (first | (with_reducible first | exact HB.out | apply below_alloc | apply pw_below_drewN | apply below_drew1 | refine below_set ?_ GE383.out | refine below_set ?_ GE388.out) | exact HB.out)⟩
                  · rw [if_neg c32] at H
                    exact absurd H (by simp)
                · rw [if_neg c30] at H
                  exact absurd H (by simp)
              · replace c28 := Bool.eq_false_iff.mpr c28
                subst c28
                have H1 : (some true) = some r := by rw [if_neg (show ¬ (false = true) by decide)] at H; exact H
                clear H
                have H := H1
                clear H1
                obtain rfl := Option.some.inj H
                have hcz48_0 : wc.cell? ⟨gb383, 0, none⟩ = some (.string a0_0) := (blk_cell BK383.out 0).trans rfl
                have hcz48_1 : wc.cell? ⟨gb383, 1, none⟩ = some (.string a0_1) := (blk_cell BK383.out 1).trans rfl
                have hcz48_2 : wc.cell? ⟨gb383, 2, none⟩ = some (.string a0_2) := (blk_cell BK383.out 2).trans rfl
                have hcz48_3 : wc.cell? ⟨gb383, 3, none⟩ = some (.string a0_3) := (blk_cell BK383.out 3).trans rfl
                have hcz48_4 : wc.cell? ⟨gb383, 4, none⟩ = some (.string a0_4) := (blk_cell BK383.out 4).trans rfl
                have hcz48_5 : wc.cell? ⟨gb383, 5, none⟩ = some (.string a0_5) := (blk_cell BK383.out 5).trans rfl
                have hcz48_6 : wc.cell? ⟨gb383, 6, none⟩ = some (.slice A0_6 l0_6.length c0_6) := (blk_cell BK383.out 6).trans rfl
                have hfz48_0 := blk_frozen BK383.out 0
                have hfz48_1 := blk_frozen BK383.out 1
                have hfz48_2 := blk_frozen BK383.out 2
                have hfz48_3 := blk_frozen BK383.out 3
                have hfz48_4 := blk_frozen BK383.out 4
                have hfz48_5 := blk_frozen BK383.out 5
                have hfz48_6 := blk_frozen BK383.out 6
                try go_wp2_with (first | ((with_reducible refine gate_dst (N := 7) rfl ?_); (try (refine gate_guard (by rfl) ?_; dsimp only)); refine box_event ?hg (N := 7) ?hd (cs := #[.string (⟨#[]⟩ : ByteArray), .string (⟨#[]⟩ : ByteArray), .string (⟨#[]⟩ : ByteArray), .string (⟨#[]⟩ : ByteArray), .string (⟨#[]⟩ : ByteArray), .string (⟨#[]⟩ : ByteArray), .slice none 0 0]) (t := 35) ?hr ?_; (case hd => rfl); (case hg => rfl); (case hr => first | (go_simp; done) | (go_simp; rfl)); intro gb388 hg w49 hbox hb; have n0_ := Aside0.mk (blk_below (g := gb383) (o := .cells #[.string a0_0, .string a0_1, .string a0_2, .string a0_3, .string a0_4, .string a0_5, .slice A0_6 l0_6.length c0_6] 35 (0, 0)) (by (with_reducible repeat (first | refine blk_drewN ?_ _ | refine blk_drew ?_ | refine blk_alloc ?_ _)); exact BK383.out) hb); have n1_ := Aside0.mk (below_step (by repeat (first | (with_reducible first | exact HB.out | apply below_alloc | apply pw_below_drewN | apply below_drew1 | refine below_set ?_ GE383.out) | exact HB.out)) hb); have n2_ := Aside0.mk (hbox); have n3_ := Aside0.mk ((by rw [hg]; exact (below_size (by repeat (first | (with_reducible first | exact HB.out | apply below_alloc | apply pw_below_drewN | apply below_drew1 | refine below_set ?_ GE383.out) | exact HB.out))) : w.heap.size ≤ gb388)); have n4_ := Aside0.mk ((by rw [hg]; exact (below_size (by repeat (first | (with_reducible first | exact HB.out | apply below_alloc | apply pw_below_drewN | apply below_drew1 | refine below_set ?_ GE383.out) | exact HB.out))) : w.heap.size ≤ gb388)); have n5_ := Aside0.mk ((by rw [hg]; exact Nat.ne_of_lt (blk_lt (g := gb383) (o := .cells #[.string a0_0, .string a0_1, .string a0_2, .string a0_3, .string a0_4, .string a0_5, .slice A0_6 l0_6.length c0_6] 35 (0, 0)) (by (with_reducible repeat (first | refine blk_drewN ?_ _ | refine blk_drew ?_ | refine blk_alloc ?_ _)); exact BK383.out)) : gb383 ≠ gb388)); have n6_ := Aside0.mk ((by rw [hg]; exact Nat.ne_of_gt (blk_lt (g := gb383) (o := .cells #[.string a0_0, .string a0_1, .string a0_2, .string a0_3, .string a0_4, .string a0_5, .slice A0_6 l0_6.length c0_6] 35 (0, 0)) (by (with_reducible repeat (first | refine blk_drewN ?_ _ | refine blk_drew ?_ | refine blk_alloc ?_ _)); exact BK383.out)) : gb388 ≠ gb383)); clear BK383; clear HB; have BK383 := n0_; have HB := n1_; have BK388 := n2_; have GW388 := n3_; have GE388 := n4_; have NB383_388 := n5_; have NB388_383 := n6_; clear n0_ n1_ n2_ n3_ n4_ n5_ n6_; clear hb hbox hg; have hnb50 := NB388_383.out; have hnc50 := NB383_388.out; have hcz51_0 : w49.cell? ⟨gb388, 0, none⟩ = some (.string (⟨#[]⟩ : ByteArray)) := (blk_cell BK388.out 0).trans rfl; have hcz51_1 : w49.cell? ⟨gb388, 1, none⟩ = some (.string (⟨#[]⟩ : ByteArray)) := (blk_cell BK388.out 1).trans rfl; have hcz51_2 : w49.cell? ⟨gb388, 2, none⟩ = some (.string (⟨#[]⟩ : ByteArray)) := (blk_cell BK388.out 2).trans rfl; have hcz51_3 : w49.cell? ⟨gb388, 3, none⟩ = some (.string (⟨#[]⟩ : ByteArray)) := (blk_cell BK388.out 3).trans rfl; have hcz51_4 : w49.cell? ⟨gb388, 4, none⟩ = some (.string (⟨#[]⟩ : ByteArray)) := (blk_cell BK388.out 4).trans rfl; have hcz51_5 : w49.cell? ⟨gb388, 5, none⟩ = some (.string (⟨#[]⟩ : ByteArray)) := (blk_cell BK388.out 5).trans rfl; have hcz51_6 : w49.cell? ⟨gb388, 6, none⟩ = some (.slice none 0 0) := (blk_cell BK388.out 6).trans rfl; have hfz51_0 := blk_frozen BK388.out 0; have hfz51_1 := blk_frozen BK388.out 1; have hfz51_2 := blk_frozen BK388.out 2; have hfz51_3 := blk_frozen BK388.out 3; have hfz51_4 := blk_frozen BK388.out 4; have hfz51_5 := blk_frozen BK388.out 5; have hfz51_6 := blk_frozen BK388.out 6; have hcz52_0 : w49.cell? ⟨gb383, 0, none⟩ = some (.string a0_0) := (blk_cell BK383.out 0).trans rfl; have hcz52_1 : w49.cell? ⟨gb383, 1, none⟩ = some (.string a0_1) := (blk_cell BK383.out 1).trans rfl; have hcz52_2 : w49.cell? ⟨gb383, 2, none⟩ = some (.string a0_2) := (blk_cell BK383.out 2).trans rfl; have hcz52_3 : w49.cell? ⟨gb383, 3, none⟩ = some (.string a0_3) := (blk_cell BK383.out 3).trans rfl; have hcz52_4 : w49.cell? ⟨gb383, 4, none⟩ = some (.string a0_4) := (blk_cell BK383.out 4).trans rfl; have hcz52_5 : w49.cell? ⟨gb383, 5, none⟩ = some (.string a0_5) := (blk_cell BK383.out 5).trans rfl; have hcz52_6 : w49.cell? ⟨gb383, 6, none⟩ = some (.slice A0_6 l0_6.length c0_6) := (blk_cell BK383.out 6).trans rfl; have hfz52_0 := blk_frozen BK383.out 0; have hfz52_1 := blk_frozen BK383.out 1; have hfz52_2 := blk_frozen BK383.out 2; have hfz52_3 := blk_frozen BK383.out 3; have hfz52_4 := blk_frozen BK383.out 4; have hfz52_5 := blk_frozen BK383.out 5; have hfz52_6 := blk_frozen BK383.out 6) | ((with_reducible refine gate_dst (N := 50) rfl ?_); (try (refine gate_guard (by rfl) ?_; dsimp only)); refine Kd.R_lit Kd.string _ 9 ?hg (N := 50) ?hd (xs := ([a1, a0_1, a0_2, a0_3, a0_4, a0_5] : List ByteArray)) (inner := [.string a1, .string a0_1, .string a0_2, .string a0_3, .string a0_4, .string a0_5]) (ok := fun _ => True) (okp := fun _ => True) ?hr ?hp (fun _ hk => hk) trivial (Below.refl _ _) (Nat.le_refl _) (by simp) ?_; (case hd => rfl); (case hg => rfl); (case hr => first | (go_simp; done) | (go_simp; rfl)); (case hp => exact (Reps.one (show Kd.M Kd.string _ _ _ a1 [.string a1] from rfl) (Reps.one (show Kd.M Kd.string _ _ _ a0_1 [.string a0_1] from rfl) (Reps.one (show Kd.M Kd.string _ _ _ a0_2 [.string a0_2] from rfl) (Reps.one (show Kd.M Kd.string _ _ _ a0_3 [.string a0_3] from rfl) (Reps.one (show Kd.M Kd.string _ _ _ a0_4 [.string a0_4] from rfl) (Reps.one (show Kd.M Kd.string _ _ _ a0_5 [.string a0_5] from rfl) (Reps.none _ _)))))))); intro v390 w53 ho54 hb hg_ hnew_; clear hg_ hnew_; (first | rw [← Ny389.out] at ho54 | (simp only [Int.reduceToNat] at ho54; rw [← Ny389.out] at ho54)); have n0_ := Aside0.mk (Kd.R_lower ho54 (below_size (by repeat (first | (with_reducible first | exact HB.out | apply below_alloc | apply pw_below_drewN | apply below_drew1 | refine below_set ?_ GE383.out | refine below_set ?_ GE388.out) | exact HB.out)))); have n1_ := Aside0.mk (blk_below (g := gb383) (o := .cells #[.string a0_0, .string a0_1, .string a0_2, .string a0_3, .string a0_4, .string a0_5, .slice A0_6 l0_6.length c0_6] 35 (0, 0)) (by (with_reducible repeat (first | refine blk_drewN ?_ _ | refine blk_drew ?_ | refine blk_alloc ?_ _)); refine blk_far ?_ NB383_388.out _; (with_reducible repeat (first | refine blk_drewN ?_ _ | refine blk_drew ?_ | refine blk_alloc ?_ _)); refine blk_far ?_ NB383_388.out _; (with_reducible repeat (first | refine blk_drewN ?_ _ | refine blk_drew ?_ | refine blk_alloc ?_ _)); refine blk_far ?_ NB383_388.out _; (with_reducible repeat (first | refine blk_drewN ?_ _ | refine blk_drew ?_ | refine blk_alloc ?_ _)); refine blk_far ?_ NB383_388.out _; (with_reducible repeat (first | refine blk_drewN ?_ _ | refine blk_drew ?_ | refine blk_alloc ?_ _)); refine blk_far ?_ NB383_388.out _; (with_reducible repeat (first | refine blk_drewN ?_ _ | refine blk_drew ?_ | refine blk_alloc ?_ _)); refine blk_far ?_ NB383_388.out _; (with_reducible repeat (first | refine blk_drewN ?_ _ | refine blk_drew ?_ | refine blk_alloc ?_ _)); refine blk_far ?_ NB383_388.out _; (with_reducible repeat (first | refine blk_drewN ?_ _ | refine blk_drew ?_ | refine blk_alloc ?_ _)); refine blk_far ?_ NB383_388.out _; (with_reducible repeat (first | refine blk_drewN ?_ _ | refine blk_drew ?_ | refine blk_alloc ?_ _)); exact BK383.out) hb); have n2_ := Aside0.mk (blk_below (g := gb388) (o := .cells #[.string a1, .string a0_1, .string a0_2, .string a0_3, .string a0_4, .string a0_5, .slice A0_6 l0_6.length c0_6] 35 (0, 0)) (by (with_reducible repeat (first | refine blk_drewN ?_ _ | refine blk_drew ?_ | refine blk_alloc ?_ _)); refine blk_put (cs := #[.string a0_0, .string a0_1, .string a0_2, .string a0_3, .string a0_4, .string a0_5, .slice A0_6 l0_6.length c0_6]) ?_ 0 _ rfl; (with_reducible repeat (first | refine blk_drewN ?_ _ | refine blk_drew ?_ | refine blk_alloc ?_ _)); refine blk_put (cs := #[.string a0_0, .string a0_1, .string a0_2, .string a0_3, .string a0_4, .string a0_5, .slice none 0 0]) ?_ 6 _ rfl; (with_reducible repeat (first | refine blk_drewN ?_ _ | refine blk_drew ?_ | refine blk_alloc ?_ _)); refine blk_put (cs := #[.string a0_0, .string a0_1, .string a0_2, .string a0_3, .string a0_4, .string (⟨#[]⟩ : ByteArray), .slice none 0 0]) ?_ 5 _ rfl; (with_reducible repeat (first | refine blk_drewN ?_ _ | refine blk_drew ?_ | refine blk_alloc ?_ _)); refine blk_put (cs := #[.string a0_0, .string a0_1, .string a0_2, .string a0_3, .string (⟨#[]⟩ : ByteArray), .string (⟨#[]⟩ : ByteArray), .slice none 0 0]) ?_ 4 _ rfl; (with_reducible repeat (first | refine blk_drewN ?_ _ | refine blk_drew ?_ | refine blk_alloc ?_ _)); refine blk_put (cs := #[.string a0_0, .string a0_1, .string a0_2, .string (⟨#[]⟩ : ByteArray), .string (⟨#[]⟩ : ByteArray), .string (⟨#[]⟩ : ByteArray), .slice none 0 0]) ?_ 3 _ rfl; (with_reducible repeat (first | refine blk_drewN ?_ _ | refine blk_drew ?_ | refine blk_alloc ?_ _)); refine blk_put (cs := #[.string a0_0, .string a0_1, .string (⟨#[]⟩ : ByteArray), .string (⟨#[]⟩ : ByteArray), .string (⟨#[]⟩ : ByteArray), .string (⟨#[]⟩ : ByteArray), .slice none 0 0]) ?_ 2 _ rfl; (with_reducible repeat (first | refine blk_drewN ?_ _ | refine blk_drew ?_ | refine blk_alloc ?_ _)); refine blk_put (cs := #[.string a0_0, .string (⟨#[]⟩ : ByteArray), .string (⟨#[]⟩ : ByteArray), .string (⟨#[]⟩ : ByteArray), .string (⟨#[]⟩ : ByteArray), .string (⟨#[]⟩ : ByteArray), .slice none 0 0]) ?_ 1 _ rfl; (with_reducible repeat (first | refine blk_drewN ?_ _ | refine blk_drew ?_ | refine blk_alloc ?_ _)); refine blk_put (cs := #[.string (⟨#[]⟩ : ByteArray), .string (⟨#[]⟩ : ByteArray), .string (⟨#[]⟩ : ByteArray), .string (⟨#[]⟩ : ByteArray), .string (⟨#[]⟩ : ByteArray), .string (⟨#[]⟩ : ByteArray), .slice none 0 0]) ?_ 0 _ rfl; (with_reducible repeat (first | refine blk_drewN ?_ _ | refine blk_drew ?_ | refine blk_alloc ?_ _)); exact BK388.out) hb); have n3_ := Aside0.mk (below_step (by repeat (first | (with_reducible first | exact HB.out | apply below_alloc | apply pw_below_drewN | apply below_drew1 | refine below_set ?_ GE383.out | refine below_set ?_ GE388.out) | exact HB.out)) hb); clear BK383; clear BK388; clear HB; have HO391 := n0_; have BK383 := n1_; have BK388 := n2_; have HB := n3_; clear n0_ n1_ n2_ n3_; clear hb ho54; have hcz55_0 : w53.cell? ⟨gb383, 0, none⟩ = some (.string a0_0) := (blk_cell BK383.out 0).trans rfl; have hcz55_1 : w53.cell? ⟨gb383, 1, none⟩ = some (.string a0_1) := (blk_cell BK383.out 1).trans rfl; have hcz55_2 : w53.cell? ⟨gb383, 2, none⟩ = some (.string a0_2) := (blk_cell BK383.out 2).trans rfl; have hcz55_3 : w53.cell? ⟨gb383, 3, none⟩ = some (.string a0_3) := (blk_cell BK383.out 3).trans rfl; have hcz55_4 : w53.cell? ⟨gb383, 4, none⟩ = some (.string a0_4) := (blk_cell BK383.out 4).trans rfl; have hcz55_5 : w53.cell? ⟨gb383, 5, none⟩ = some (.string a0_5) := (blk_cell BK383.out 5).trans rfl; have hcz55_6 : w53.cell? ⟨gb383, 6, none⟩ = some (.slice A0_6 l0_6.length c0_6) := (blk_cell BK383.out 6).trans rfl; have hfz55_0 := blk_frozen BK383.out 0; have hfz55_1 := blk_frozen BK383.out 1; have hfz55_2 := blk_frozen BK383.out 2; have hfz55_3 := blk_frozen BK383.out 3; have hfz55_4 := blk_frozen BK383.out 4; have hfz55_5 := blk_frozen BK383.out 5; have hfz55_6 := blk_frozen BK383.out 6) | ((with_reducible refine gate_builtin (b := .append) (xs := #[.tmp 50, .tmp 52]) rfl ?_); (try (refine gate_guard (by rfl) ?_; dsimp only)); at_builtin; refine Kd.R_append_rows Kd.string (w0 := w) w.heap.size rfl (.tmp 50) (.tmp 52) 22 9 (.string ⟨#[]⟩) 16 rfl Try.underlying22 info9 rfl (by decide) (by omega) v390 y389 l0_6 _ _ _ (fun _ => True) (fun _ => False) rfl rfl ?aO ?aR (fun _ _ h => h) (fun _ h => h.elim) ?aF ?aB ?aS ?aL ?_; (case aR => repeat (first | exact (Kd.C_below HR0_6.out HB.out) | (with_reducible refine Kd.C_alloc ?_ _) | (with_reducible refine Kd.C_drewN ?_ _) | (with_reducible refine Kd.C_drew ?_))); (case aB => exact (by repeat (first | (with_reducible first | exact HB.out | apply below_alloc | apply pw_below_drewN | apply below_drew1 | refine below_set ?_ GE383.out | refine below_set ?_ GE388.out) | exact HB.out))); (case aF => exact (fun _ _ => trivial)); (case aO => exact (by (with_reducible repeat (first | apply Kd.R_alloc | apply Kd.R_drewN | apply Kd.R_drew)); exact HO391.out)); (case aS => exact (below_size (by repeat (first | (with_reducible first | exact HB.out | apply below_alloc | apply pw_below_drewN | apply below_drew1 | refine below_set ?_ GE383.out | refine below_set ?_ GE388.out) | exact HB.out)))); (case aL => have := LMc23.out; omega); intro v393 w56 ho hb hg hat; rw [← Ny392.out] at ho; have n0_ := Aside0.mk (blk_grown (g := gb383) (o := .cells #[.string a0_0, .string a0_1, .string a0_2, .string a0_3, .string a0_4, .string a0_5, .slice A0_6 l0_6.length c0_6] 35 (0, 0)) (by (with_reducible repeat (first | refine blk_drewN ?_ _ | refine blk_drew ?_ | refine blk_alloc ?_ _)); exact BK383.out) hg (Kd.R_ne HO391.out BK383.out (by decide))); have n1_ := Aside0.mk (blk_grown (g := gb388) (o := .cells #[.string a1, .string a0_1, .string a0_2, .string a0_3, .string a0_4, .string a0_5, .slice A0_6 l0_6.length c0_6] 35 (0, 0)) (by (with_reducible repeat (first | refine blk_drewN ?_ _ | refine blk_drew ?_ | refine blk_alloc ?_ _)); exact BK388.out) hg (Kd.R_ne HO391.out BK388.out (by decide))); have n2_ := Aside0.mk (hb); have n3_ := Aside0.mk (ho); clear BK383; clear BK388; clear HB; clear HO391; have BK383 := n0_; have BK388 := n1_; have HB := n2_; have HO394 := n3_; clear n0_ n1_ n2_ n3_; clear ho hb hg hat; obtain ⟨Ao57, co57, eo57⟩ := Kd.R_slice HO394.out; subst eo57) | ((with_reducible refine gate_callee (f := 20) rfl ?_); refine goesL_ (some 55) rfl rfl Try.func20 (by kernel_rfl) rfl #[.slice Ao57 y392.length co57] rfl (by (try simp only [List.map_toArray, List.map_cons, List.map_nil]); first | done | rfl | (simp only [List.length_drop, List.length_take]; rfl)) ?_; (with_reducible refine (name_Unlike.calls _ _ y392 false _ ?side1 ?side2 A24.out).mono ?_); (case side1 => repeat (first | exact (Kd.R_reads' HO394.out).2.2 | (with_reducible refine Kd.C_alloc ?_ _) | (with_reducible refine Kd.C_drewN ?_ _) | (with_reducible refine Kd.C_drew ?_))); (case side2 => exact (Kd.R_reads' HO394.out).2.1); rintro e w58 ⟨rfl, hb⟩; refine ⟨_, rfl, ?_⟩; have n0_ := Aside0.mk (Kd.R_below (by (with_reducible repeat (first | apply Kd.R_alloc | apply Kd.R_drewN | apply Kd.R_drew)); exact HO394.out) hb); have n1_ := Aside0.mk (blk_below (g := gb383) (o := .cells #[.string a0_0, .string a0_1, .string a0_2, .string a0_3, .string a0_4, .string a0_5, .slice A0_6 l0_6.length c0_6] 35 (0, 0)) (by (with_reducible repeat (first | refine blk_drewN ?_ _ | refine blk_drew ?_ | refine blk_alloc ?_ _)); exact BK383.out) hb); have n2_ := Aside0.mk (blk_below (g := gb388) (o := .cells #[.string a1, .string a0_1, .string a0_2, .string a0_3, .string a0_4, .string a0_5, .slice A0_6 l0_6.length c0_6] 35 (0, 0)) (by (with_reducible repeat (first | refine blk_drewN ?_ _ | refine blk_drew ?_ | refine blk_alloc ?_ _)); exact BK388.out) hb); have n3_ := Aside0.mk (below_step (by repeat (first | (with_reducible first | exact HB.out | apply below_alloc | apply pw_below_drewN | apply below_drew1 | refine below_set ?_ GE383.out | refine below_set ?_ GE388.out) | exact HB.out)) hb); clear HO394; clear BK383; clear BK388; clear HB; have HO394 := n0_; have BK383 := n1_; have BK388 := n2_; have HB := n3_; clear n0_ n1_ n2_ n3_; (try clear hb); (try clear hb2); (try clear hk); (try clear hi)))
                have n0_ := Aside0.mk (Kd.R_drew HO394.out)
                have n1_ := Aside0.mk (blk_drew BK383.out)
                have n2_ := Aside0.mk (blk_drew BK388.out)
                have n3_ := Aside0.mk (below_drew1 HB.out)
                clear HO394
                clear BK383
                clear BK388
                clear HB
                have HO394 := n0_
                have BK383 := n1_
                have BK388 := n2_
                have HB := n3_
                clear n0_ n1_ n2_ n3_
                refine start_ (n := 22) (S := fun w' => w'.cell? ⟨gb388, 0, none⟩ = some (.string a1) ∧ w'.cell? ⟨gb388, 1, none⟩ = some (.string a0_1) ∧ w'.cell? ⟨gb388, 2, none⟩ = some (.string a0_2) ∧ w'.cell? ⟨gb388, 3, none⟩ = some (.string a0_3) ∧ w'.cell? ⟨gb388, 4, none⟩ = some (.string a0_4) ∧ w'.cell? ⟨gb388, 5, none⟩ = some (.string a0_5) ∧ w'.cell? ⟨gb388, 6, none⟩ = some (.slice A0_6 l0_6.length c0_6)) (ds := []) #[false, false, false, false, false, false, false, false, false, false, false, false, false, false, false, false, false, false, false, false, false, false] (by kernel_rfl) rfl rfl ⟨(blk_cell BK388.out 0).trans rfl, (blk_cell BK388.out 1).trans rfl, (blk_cell BK388.out 2).trans rfl, (blk_cell BK388.out 3).trans rfl, (blk_cell BK388.out 4).trans rfl, (blk_cell BK388.out 5).trans rfl, (blk_cell BK388.out 6).trans rfl⟩ (fun hHeld => ?_); refine with_tabW decklelaw15_HeaderResult.tab9 decklelaw15_HeaderResult.bits9 (fun HT_ HW_ => ?_)
                generalize w58.drew = w59 at HO394 BK383 BK388 HB hHeld ⊢
                refine pure_ (i := 0) (N := some 56) (v := ?_) (a' := ?_) #[true, false, false, false, false, false, false, false, false, false, false, false, false, false, false, false, false, false, false, false, false, false] rfl rfl (any_of HT_.out (by kernel_rfl)) (fun _ _ _ h => h) (Or.inl ⟨by rfl, ?_⟩) ?_ ?_
                rotate_left
                · intro w'
                  go_simp
                  with_reducible rfl
                rotate_left
                · simp only [Act.put, List.setIfInBounds_toArray, List.set_cons_zero, List.set_cons_succ, i64_w, i32_w]
                  rfl
                refine pure_ (i := 1) (N := some 57) (v := ?_) (a' := ?_) #[true, true, false, false, false, false, false, false, false, false, false, false, false, false, false, false, false, false, false, false, false, false] rfl rfl (any_of HT_.out (by kernel_rfl)) (fun _ _ _ h => h) (Or.inl ⟨by rfl, ?_⟩) ?_ ?_
                rotate_left
                · intro w'
                  go_simp
                  with_reducible rfl
                rotate_left
                · simp only [Act.put, List.setIfInBounds_toArray, List.set_cons_zero, List.set_cons_succ, i64_w, i32_w]
                  rfl
                refine pure_ (i := 4) (N := some 60) (v := ?_) (a' := ?_) #[true, true, false, false, true, false, false, false, false, false, false, false, false, false, false, false, false, false, false, false, false, false] rfl rfl (any_of HT_.out (by kernel_rfl)) (fun _ _ _ h => h) (Or.inl ⟨by rfl, ?_⟩) ?_ ?_
                rotate_left
                · intro w'
                  go_simp
                  with_reducible rfl
                rotate_left
                · simp only [Act.put, List.setIfInBounds_toArray, List.set_cons_zero, List.set_cons_succ, i64_w, i32_w]
                  rfl
                refine take_ (i := 2) (N := some 58) (v := ?_) (a' := ?_) #[true, true, true, false, true, false, false, false, false, false, false, false, false, false, false, false, false, false, false, false, false, false] rfl rfl (take_ofW HT_.out HW_.out (by kernel_rfl)) (fun _ _ _ h => h) (Or.inl ⟨by rfl, ?_⟩) hHeld ?_ ?_
                rotate_left
                · rintro w' ⟨s0, s1, s2, s3, s4, s5, s6⟩
                  go_simp
                  with_reducible rfl
                rotate_left
                · simp only [Act.put, List.setIfInBounds_toArray, List.set_cons_zero, List.set_cons_succ, i64_w, i32_w]
                  rfl
                refine one_ (i := 3) (N := some 59) #[true, true, true, true, true, false, false, false, false, false, false, false, false, false, false, false, false, false, false, false, false, false] rfl rfl (one_of HT_.out (by kernel_rfl)) (by decide) (fun K hK => ?_)
                refine goes_ Try.func26 (by kernel_rfl) rfl #[.agg #[.string a1, .string a0_1, .string a0_2, .string a0_3, .string a0_4, .string a0_5, .slice A0_6 l0_6.length c0_6]] (by rfl) rfl rfl (by (try simp only [List.map_toArray, List.map_cons, List.map_nil]); first | done | rfl | (simp only [List.length_drop, List.length_take]; rfl)) ?_
                with_reducible refine (header_Right.calls kj4 a1 a0_1 a0_2 a0_3 a0_4 a0_5 _ _ l0_6 t396 _ ?side1 ?side2 A26.out).mono ?_
                (case side1 => repeat (first | exact (Kd.C_below HR0_6.out HB.out) | (with_reducible refine Kd.C_alloc ?_ _) | (with_reducible refine Kd.C_drewN ?_ _) | (with_reducible refine Kd.C_drew ?_)))
                (case side2 => exact HC0_6.out)
                rintro e w60 ⟨rfl, hb⟩
                refine ⟨_, rfl, ?_⟩
                have n0_ := Aside0.mk (Kd.R_below (by (with_reducible repeat (first | apply Kd.R_alloc | apply Kd.R_drewN | apply Kd.R_drew)); exact HO394.out) hb)
                have n1_ := Aside0.mk (blk_below (g := gb383) (o := .cells #[.string a0_0, .string a0_1, .string a0_2, .string a0_3, .string a0_4, .string a0_5, .slice A0_6 l0_6.length c0_6] 35 (0, 0)) (by (with_reducible repeat (first | refine blk_drewN ?_ _ | refine blk_drew ?_ | refine blk_alloc ?_ _)); exact BK383.out) hb)
                have n2_ := Aside0.mk (blk_below (g := gb388) (o := .cells #[.string a1, .string a0_1, .string a0_2, .string a0_3, .string a0_4, .string a0_5, .slice A0_6 l0_6.length c0_6] 35 (0, 0)) (by (with_reducible repeat (first | refine blk_drewN ?_ _ | refine blk_drew ?_ | refine blk_alloc ?_ _)); exact BK388.out) hb)
                have n3_ := Aside0.mk (below_step (by repeat (first | (with_reducible first | exact HB.out | apply below_alloc | apply pw_below_drewN | apply below_drew1 | refine below_set ?_ GE383.out | refine below_set ?_ GE388.out) | exact HB.out)) hb)
                clear HO394
                clear BK383
                clear BK388
                clear HB
                have HO394 := n0_
                have BK383 := n1_
                have BK388 := n2_
                have HB := n3_
                clear n0_ n1_ n2_ n3_
                (try clear hb)
                (try clear hb2)
                (try clear hk)
                (try clear hi)
                refine hK.out _ _ ⟨(blk_cell BK388.out 0).trans rfl, (blk_cell BK388.out 1).trans rfl, (blk_cell BK388.out 2).trans rfl, (blk_cell BK388.out 3).trans rfl, (blk_cell BK388.out 4).trans rfl, (blk_cell BK388.out 5).trans rfl, (blk_cell BK388.out 6).trans rfl⟩ (fun hHeld => ?_)
                clear hK K
                refine norm_ (a' := ?_) ?_ ?_
                rotate_left
                · show Act.put _ (some 59) _ = _
                  simp only [Act.put, List.setIfInBounds_toArray, List.set_cons_zero, List.set_cons_succ, i64_w, i32_w]
                  rfl
                refine pure_ (i := 5) (N := some 61) (v := ?_) (a' := ?_) #[true, true, true, true, true, true, false, false, false, false, false, false, false, false, false, false, false, false, false, false, false, false] rfl rfl (any_of HT_.out (by kernel_rfl)) (fun _ _ _ h => h) (Or.inl ⟨by rfl, ?_⟩) ?_ ?_
                rotate_left
                · intro w'
                  go_simp
                  with_reducible rfl
                rotate_left
                · simp only [Act.put, List.setIfInBounds_toArray, List.set_cons_zero, List.set_cons_succ, i64_w, i32_w]
                  rfl
                refine pure_ (i := 6) (N := some 62) (v := ?_) (a' := ?_) #[true, true, true, true, true, true, true, false, false, false, false, false, false, false, false, false, false, false, false, false, false, false] rfl rfl (any_of HT_.out (by kernel_rfl)) (fun _ _ _ h => h) (Or.inl ⟨by rfl, ?_⟩) ?_ ?_
                rotate_left
                · intro w'
                  go_simp
                  with_reducible rfl
                rotate_left
                · simp only [Act.put, List.setIfInBounds_toArray, List.set_cons_zero, List.set_cons_succ, i64_w, i32_w]
                  rfl
                refine pure_ (i := 7) (N := some 63) (v := ?_) (a' := ?_) #[true, true, true, true, true, true, true, true, false, false, false, false, false, false, false, false, false, false, false, false, false, false] rfl rfl (any_of HT_.out (by kernel_rfl)) (fun _ _ _ h => h) (Or.inl ⟨by rfl, ?_⟩) ?_ ?_
                rotate_left
                · intro w'
                  go_simp
                  with_reducible rfl
                rotate_left
                · simp only [Act.put, List.setIfInBounds_toArray, List.set_cons_zero, List.set_cons_succ, i64_w, i32_w]
                  rfl
                refine pure_ (i := 8) (N := some 64) (v := ?_) (a' := ?_) #[true, true, true, true, true, true, true, true, true, false, false, false, false, false, false, false, false, false, false, false, false, false] rfl rfl (any_of HT_.out (by kernel_rfl)) (fun _ _ _ h => h) (Or.inl ⟨by rfl, ?_⟩) ?_ ?_
                rotate_left
                · intro w'
                  go_simp
                  with_reducible rfl
                rotate_left
                · simp only [Act.put, List.setIfInBounds_toArray, List.set_cons_zero, List.set_cons_succ, i64_w, i32_w]
                  rfl
                refine pure_ (i := 9) (N := some 65) (v := ?_) (a' := ?_) #[true, true, true, true, true, true, true, true, true, true, false, false, false, false, false, false, false, false, false, false, false, false] rfl rfl (any_of HT_.out (by kernel_rfl)) (fun _ _ _ h => h) (Or.inl ⟨by rfl, ?_⟩) ?_ ?_
                rotate_left
                · intro w'
                  go_simp
                  with_reducible rfl
                rotate_left
                · simp only [Act.put, List.setIfInBounds_toArray, List.set_cons_zero, List.set_cons_succ, i64_w, i32_w]
                  rfl
                refine pure_ (i := 10) (N := some 66) (v := ?_) (a' := ?_) #[true, true, true, true, true, true, true, true, true, true, true, false, false, false, false, false, false, false, false, false, false, false] rfl rfl (any_of HT_.out (by kernel_rfl)) (fun _ _ _ h => h) (Or.inl ⟨by rfl, ?_⟩) ?_ ?_
                rotate_left
                · intro w'
                  go_simp
                  with_reducible rfl
                rotate_left
                · simp only [Act.put, List.setIfInBounds_toArray, List.set_cons_zero, List.set_cons_succ, i64_w, i32_w]
                  rfl
                refine pure_ (i := 11) (N := some 67) (v := undef) (a' := ?_) #[true, true, true, true, true, true, true, true, true, true, true, true, false, false, false, false, false, false, false, false, false, false] rfl rfl (any_of HT_.out (by kernel_rfl)) (fun _ _ _ h => h) (Or.inr ⟨by rfl, rfl⟩) ?_ ?_
                rotate_left
                · simp only [Act.put, List.setIfInBounds_toArray, List.set_cons_zero, List.set_cons_succ, i64_w, i32_w]
                  rfl
                refine pure_ (i := 12) (N := some 68) (v := undef) (a' := ?_) #[true, true, true, true, true, true, true, true, true, true, true, true, true, false, false, false, false, false, false, false, false, false] rfl rfl (any_of HT_.out (by kernel_rfl)) (fun _ _ _ h => h) (Or.inr ⟨by rfl, rfl⟩) ?_ ?_
                rotate_left
                · simp only [Act.put, List.setIfInBounds_toArray, List.set_cons_zero, List.set_cons_succ, i64_w, i32_w]
                  rfl
                refine pure_ (i := 13) (N := some 69) (v := undef) (a' := ?_) #[true, true, true, true, true, true, true, true, true, true, true, true, true, true, false, false, false, false, false, false, false, false] rfl rfl (any_of HT_.out (by kernel_rfl)) (fun _ _ _ h => h) (Or.inr ⟨by rfl, rfl⟩) ?_ ?_
                rotate_left
                · simp only [Act.put, List.setIfInBounds_toArray, List.set_cons_zero, List.set_cons_succ, i64_w, i32_w]
                  rfl
                refine pure_ (i := 14) (N := some 70) (v := undef) (a' := ?_) #[true, true, true, true, true, true, true, true, true, true, true, true, true, true, true, false, false, false, false, false, false, false] rfl rfl (any_of HT_.out (by kernel_rfl)) (fun _ _ _ h => h) (Or.inr ⟨by rfl, rfl⟩) ?_ ?_
                rotate_left
                · simp only [Act.put, List.setIfInBounds_toArray, List.set_cons_zero, List.set_cons_succ, i64_w, i32_w]
                  rfl
                refine pure_ (i := 15) (N := some 71) (v := undef) (a' := ?_) #[true, true, true, true, true, true, true, true, true, true, true, true, true, true, true, true, false, false, false, false, false, false] rfl rfl (any_of HT_.out (by kernel_rfl)) (fun _ _ _ h => h) (Or.inr ⟨by rfl, rfl⟩) ?_ ?_
                rotate_left
                · simp only [Act.put, List.setIfInBounds_toArray, List.set_cons_zero, List.set_cons_succ, i64_w, i32_w]
                  rfl
                refine pure_ (i := 16) (N := some 72) (v := undef) (a' := ?_) #[true, true, true, true, true, true, true, true, true, true, true, true, true, true, true, true, true, false, false, false, false, false] rfl rfl (any_of HT_.out (by kernel_rfl)) (fun _ _ _ h => h) (Or.inr ⟨by rfl, rfl⟩) ?_ ?_
                rotate_left
                · simp only [Act.put, List.setIfInBounds_toArray, List.set_cons_zero, List.set_cons_succ, i64_w, i32_w]
                  rfl
                refine pure_ (i := 17) (N := some 73) (v := undef) (a' := ?_) #[true, true, true, true, true, true, true, true, true, true, true, true, true, true, true, true, true, true, false, false, false, false] rfl rfl (any_of HT_.out (by kernel_rfl)) (fun _ _ _ h => h) (Or.inr ⟨by rfl, rfl⟩) ?_ ?_
                rotate_left
                · simp only [Act.put, List.setIfInBounds_toArray, List.set_cons_zero, List.set_cons_succ, i64_w, i32_w]
                  rfl
                refine pure_ (i := 18) (N := some 74) (v := undef) (a' := ?_) #[true, true, true, true, true, true, true, true, true, true, true, true, true, true, true, true, true, true, true, false, false, false] rfl rfl (any_of HT_.out (by kernel_rfl)) (fun _ _ _ h => h) (Or.inr ⟨by rfl, rfl⟩) ?_ ?_
                rotate_left
                · simp only [Act.put, List.setIfInBounds_toArray, List.set_cons_zero, List.set_cons_succ, i64_w, i32_w]
                  rfl
                refine pure_ (i := 19) (N := some 75) (v := ?_) (a' := ?_) #[true, true, true, true, true, true, true, true, true, true, true, true, true, true, true, true, true, true, true, true, false, false] rfl rfl (any_of HT_.out (by kernel_rfl)) (fun _ _ _ h => h) (Or.inl ⟨by rfl, ?_⟩) ?_ ?_
                rotate_left
                · intro w'
                  go_simp
                  with_reducible rfl
                rotate_left
                · simp only [Act.put, List.setIfInBounds_toArray, List.set_cons_zero, List.set_cons_succ, i64_w, i32_w]
                  rfl
                refine pure_ (i := 20) (N := some 76) (v := ?_) (a' := ?_) #[true, true, true, true, true, true, true, true, true, true, true, true, true, true, true, true, true, true, true, true, true, false] rfl rfl (any_of HT_.out (by kernel_rfl)) (fun _ _ _ h => h) (Or.inl ⟨by rfl, ?_⟩) ?_ ?_
                rotate_left
                · intro w'
                  go_simp
                  with_reducible rfl
                rotate_left
                · simp only [Act.put, List.setIfInBounds_toArray, List.set_cons_zero, List.set_cons_succ, i64_w, i32_w]
                  rfl
                refine pure_ (i := 21) (N := some 4) (v := ?_) (a' := ?_) #[true, true, true, true, true, true, true, true, true, true, true, true, true, true, true, true, true, true, true, true, true, true] rfl rfl (any_of HT_.out (by kernel_rfl)) (fun _ _ _ h => h) (Or.inl ⟨by rfl, ?_⟩) ?_ ?_
                rotate_left
                · intro w'
                  go_simp
                  with_reducible rfl
                rotate_left
                · simp only [Act.put, List.setIfInBounds_toArray, List.set_cons_zero, List.set_cons_succ, i64_w, i32_w]
                  rfl
                refine done_ (done_of HT_.out (by kernel_rfl)) ?_
                try go_wp2
                go_ret
                exact ⟨by first | rfl | (simp [errW_none, errW_some] <;> rfl) | (simp [*, errW_none, errW_some] <;> rfl), by repeat (first | (with_reducible first | exact HB.out | apply below_alloc | apply pw_below_drewN | apply below_drew1 | refine below_set ?_ GE383.out | refine below_set ?_ GE388.out) | exact HB.out)⟩
            · rw [if_neg c27] at H
              exact absurd H (by simp)
          · replace c25 := Bool.eq_false_iff.mpr c25
            subst c25
            have H1 : (none) = some r := by rw [if_neg (show ¬ (false = true) by decide)] at H; exact H
            clear H
            have H := H1
            clear H1
            exact absurd H (by simp)
        · rw [if_neg c23] at H
          exact absurd H (by simp)

end Go.Proofs.Ytmddkjmcbddhiaa.P
