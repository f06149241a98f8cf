/-
  P24
-/
import Derived.Test.YtmddkjmcbddhiaaDoorP0M
import Derived.Test.YtmddkjmcbddhiaaDoorGContains2M
import Derived.Test.YtmddkjmcbddhiaaDoorGUnlikeM
-- written by wip/tools/print2.py (a program of this session over the kit's print); not trusted: Lean checks it
namespace Go.Proofs.YtmddkjmcbddhiaaDoor.P
open Go.RowKit Go.Proofs.YtmddkjmcbddhiaaDoorW.PrintWords Go.Proofs.YtmddkjmcbddhiaaDoorW.PrintLast Go.Proofs.YtmddkjmcbddhiaaDoorW.PrintMore
attribute [local go_sem] max2_int min2_int max_two min_two max_three min_three max_four min_four   -- for this text's walks alone
set_option linter.unusedVariables false
set_option linter.unusedSimpArgs false

/-! ### slices_Index_string_string: function 88 -/
def slices_Index_string_string.l0 : Nat → List ByteArray → ByteArray → Int → Int → Option (Int)
  | 0, _, _, _, _ => none
  | k + 1, x0, x1, x7, x8 => if x8 < x7 then (if 0 ≤ x8 then (if x8 < (x0.length : Int) then (if x1.toList = (rdOf ByteArray.empty x0 x8).toList then (some x8) else (slices_Index_string_string.l0 k x0 x1 x7 (wrap64 (x8 + 1)))) else (none)) else (none)) else (some (-1))
def slices_Index_string_string.f (k : Nat) (l0 : List ByteArray) (a1 : ByteArray) : Option (Int) := slices_Index_string_string.l0 k l0 a1 (l0.length : Int) 0
theorem slices_Index_string_string.mono_l : ∀ k, (∀ y0 y1 y2 y3, LeO (slices_Index_string_string.l0 k y0 y1 y2 y3) (slices_Index_string_string.l0 (k + 1) y0 y1 y2 y3))
  | 0 => fun _ _ _ _ r h => by simp [slices_Index_string_string.l0] at h
  | k + 1 => by
    have ih0 := slices_Index_string_string.mono_l k
    · intro y0 y1 y2 y3
      unfold slices_Index_string_string.l0
      repeat' first
      | (with_reducible exact ih0 _ _ _ _)
      | (with_reducible exact LeO.refl _)
      | (with_reducible exact LeO.none _)
      | (with_reducible refine LeO.ite ?_ ?_)
      | (with_reducible refine LeO.bind ?_ (fun _ => ?_))
      | exact ih0 _ _ _ _
      | exact LeO.none _
      | refine LeO.ite ?_ ?_
      | refine LeO.bind ?_ (fun _ => ?_)
theorem slices_Index_string_string.mono : ∀ a0 a1 k, LeO (slices_Index_string_string.f k a0 a1) (slices_Index_string_string.f (k + 1) a0 a1) := by
  intro a0 a1 k
  have ih0 := slices_Index_string_string.mono_l k
  unfold slices_Index_string_string.f
  repeat' first
      | (with_reducible exact ih0 _ _ _ _)
      | (with_reducible exact LeO.refl _)
      | (with_reducible exact LeO.none _)
      | (with_reducible refine LeO.ite ?_ ?_)
      | (with_reducible refine LeO.bind ?_ (fun _ => ?_))
      | exact ih0 _ _ _ _
      | exact LeO.none _
      | refine LeO.ite ?_ ?_
      | refine LeO.bind ?_ (fun _ => ?_)
set_option maxHeartbeats 8000000 in
set_option maxRecDepth 100000 in
theorem slices_Index_string_string.calls (k : Nat) (A0 : Option Addr) (c0 : Nat) (l0 : List ByteArray) (a1 : ByteArray) (r : Int) (w : World) (hr0 : Kd.C Kd.string w A0 l0.length l0) (hc0 : l0.length ≤ c0) (h : slices_Index_string_string.f k l0 a1 = some r) :
    Calls Tryd.prog 88 #[.slice A0 l0.length c0, .string a1] w fun e w' => e = .returned (.int .i64 r) ∧ Drawn0 w w' := by
  have HR0 := Aside0.mk hr0
  have HC0 := Aside0.mk hc0
  clear hr0 hc0
  have H : (slices_Index_string_string.l0 k l0 a1 (l0.length : Int) 0) = some r := h
  clear h
  have H' := Aside0.mk H
  clear H
  go_enter Tryd.func88, Tryd.ntmps88
  go_wp2
  go_loopg [8] k (fun kq v8 w' => ∃ (x8_1 : Int), v8 = .int .i64 x8_1 ∧ Aside0 (slices_Index_string_string.l0 kq l0 a1 (l0.length : Int) x8_1 = some r) ∧ Aside0 (kq ≤ k) ∧ Drawn0 w w')
  case atStart => exact ⟨(0), (by first | rfl | (simp; done) | (simp [*]; done)), H', ⟨Nat.le_refl _⟩, by repeat (first | exact Drawn0.refl _ | apply Drawn0.step)⟩
  case round =>
    clear H'
    try clear p2
    obtain ⟨x8_1, rfl, HA, HK1, ⟨m1, rfl⟩⟩ := hrel
    cases gk with
    | zero => exact absurd HA.out (by simp [slices_Index_string_string.l0])
    | succ k1 =>
      have H := HA.out
      clear HA
      simp only [slices_Index_string_string.l0] at H
      by_cases c3 : x8_1 < (l0.length : Int)
      · rw [if_pos c3] at H
        have c3b0 : decide (x8_1 < (l0.length : Int)) = true := decide_eq_true c3
        clear c3
        by_cases c4 : 0 ≤ x8_1
        · rw [if_pos c4] at H
          have c4b0 : decide (0 ≤ x8_1) = true := decide_eq_true c4
          clear c4
          by_cases c5 : x8_1 < (l0.length : Int)
          · rw [if_pos c5] at H
            have c5b0 : decide (x8_1 < (l0.length : Int)) = true := decide_eq_true c5
            clear c5
            by_cases c6 : a1.toList = (rdOf ByteArray.empty l0 x8_1).toList
            · rw [if_pos c6] at H
              have c6b0 : (a1.toList == (rdOf ByteArray.empty l0 x8_1).toList) = true := beq_iff_eq.mpr c6
              have c6b1 : (a1.toList != (rdOf ByteArray.empty l0 x8_1).toList) = false := bne_eq_false_iff_eq.mpr c6
              clear c6
              obtain rfl := Option.some.inj H
              have p303 : 0 ≤ (x8_1 : Int) := of_decide_eq_true (by first | (with_reducible assumption) | assumption)
              have q303 : x8_1 < (l0.length : Int) := of_decide_eq_true (by first | (with_reducible assumption) | assumption)
              obtain ⟨ad303, e303, hx303_0⟩ := Kd.at_string HR0.out x8_1 p303 q303
              cases e303
              replace p303 := eq_true p303
              replace q303 := eq_true q303
              go_wp2
              go_ret
              exact ⟨by first | rfl | (simp; done) | (simp [*]; done), by repeat (first | exact Drawn0.refl _ | apply Drawn0.step)⟩
            · rw [if_neg c6] at H
              have c6b0 : (a1.toList == (rdOf ByteArray.empty l0 x8_1).toList) = false := beq_eq_false_iff_ne.mpr c6
              have c6b1 : (a1.toList != (rdOf ByteArray.empty l0 x8_1).toList) = true := bne_iff_ne.mpr c6
              have H' := Aside0.mk H
              clear H
              have p303 : 0 ≤ (x8_1 : Int) := of_decide_eq_true (by first | (with_reducible assumption) | assumption)
              have q303 : x8_1 < (l0.length : Int) := of_decide_eq_true (by first | (with_reducible assumption) | assumption)
              obtain ⟨ad303, e303, hx303_0⟩ := Kd.at_string HR0.out x8_1 p303 q303
              cases e303
              replace p303 := eq_true p303
              replace q303 := eq_true q303
              go_wp2
              go_roundg k1
              case measure => have := HK1.out; omega
              case rel => exact ⟨(wrap64 (x8_1 + 1)), (by first | rfl | (simp; done) | (simp [*]; done)), H', ⟨by have := HK1.out; omega⟩, by repeat (first | exact Drawn0.refl _ | apply Drawn0.step)⟩
          · rw [if_neg c5] at H
            exact absurd H (by simp)
        · rw [if_neg c4] at H
          exact absurd H (by simp)
      · rw [if_neg c3] at H
        have c3b0 : decide (x8_1 < (l0.length : Int)) = false := decide_eq_false c3
        clear c3
        obtain rfl := Option.some.inj H
        go_wp2
        go_ret
        exact ⟨by first | rfl | (simp; done) | (simp [*]; done), by repeat (first | exact Drawn0.refl _ | apply Drawn0.step)⟩

/-! ### slices_Contains_string_string: function 70 -/
def slices_Contains_string_string.f (k : Nat) (l0 : List ByteArray) (a1 : ByteArray) : Option (Bool) := (slices_Index_string_string.f k l0 a1).bind fun t304 => (some (decide (t304 ≥ 0)))
theorem slices_Contains_string_string.mono : ∀ a0 a1 k, LeO (slices_Contains_string_string.f k a0 a1) (slices_Contains_string_string.f (k + 1) a0 a1) := by
  intro a0 a1 k
  unfold slices_Contains_string_string.f
  repeat' first
      | (with_reducible exact slices_Index_string_string.mono _ _ _)
      | (with_reducible exact LeO.refl _)
      | (with_reducible exact LeO.none _)
      | (with_reducible refine LeO.ite ?_ ?_)
      | (with_reducible refine LeO.bind ?_ (fun _ => ?_))
      | exact slices_Index_string_string.mono _ _ _
      | exact LeO.none _
      | refine LeO.ite ?_ ?_
      | refine LeO.bind ?_ (fun _ => ?_)
set_option maxHeartbeats 8000000 in
set_option maxRecDepth 100000 in
theorem slices_Contains_string_string.calls (k : Nat) (A0 : Option Addr) (c0 : Nat) (l0 : List ByteArray) (a1 : ByteArray) (r : Bool) (w : World) (hr0 : Kd.C Kd.string w A0 l0.length l0) (hc0 : l0.length ≤ c0) (h : slices_Contains_string_string.f k l0 a1 = some r) :
    Calls Tryd.prog 70 #[.slice A0 l0.length c0, .string a1] w fun e w' => e = .returned (.bool r) ∧ Drawn0 w w' := by
  have HR0 := Aside0.mk hr0
  have HC0 := Aside0.mk hc0
  clear hr0 hc0
  have H : ((slices_Index_string_string.f k l0 a1).bind fun t304 => (some (decide (t304 ≥ 0)))) = some r := h
  clear h
  replace H := Option.bind_eq_some_iff.mp H
  obtain ⟨t304, A30, H⟩ := H
  replace H : (some (decide (t304 ≥ 0))) = some r := H
  have A3 := Aside0.mk A30
  clear A30
  obtain rfl := Option.some.inj H
  go_enter Tryd.func70, Tryd.ntmps70
  go_wp2_with (first | ((with_reducible refine gate_callee (f := 88) rfl ?_); refine goesL_ (some 7) rfl rfl Tryd.func88 (by kernel_rfl) rfl #[.slice A0 l0.length c0, .string a1] rfl (by (try simp only [List.map_toArray, List.map_cons, List.map_nil]); first | done | rfl | (simp only [List.length_drop, List.length_take]; rfl)) ?_; (with_reducible refine (slices_Index_string_string.calls k _ _ l0 a1 t304 _ ?side1 ?side2 A3.out).mono ?_); (case side1 => repeat (first | exact HR0.out | (with_reducible refine Kd.C_alloc ?_ _) | (with_reducible refine Kd.C_drewN ?_ _) | (with_reducible refine Kd.C_drew ?_))); (case side2 => exact HC0.out); rintro e w' ⟨rfl, ⟨nd, rfl⟩⟩; refine ⟨_, rfl, ?_⟩))
  go_ret
  exact ⟨by first | rfl | (simp; done) | (simp [*]; done), by repeat (first | exact Drawn0.refl _ | apply Drawn0.step)⟩

/-! ### header_Right: function 39 -/
mutual
def header_Right.j0 : Nat → List ByteArray → Bool → ByteArray → ByteArray → ByteArray → ByteArray → ByteArray → ByteArray → List ByteArray → Option (Bool)
  | 0, _, _, _, _, _, _, _, _, _ => none
  | k + 1, x3, x21, x306000, x306001, x306002, x306003, x306004, x306005, x306006 => if x21 = true then (some false) else (if x306003.toList = ([] : List UInt8) then (if x306001.size + x306004.size ≤ 9223372036854775807 then (header_Right.j1 k x3 ((x306001 ++ x306004).toList != ([] : List UInt8)) x306000 x306001 x306002 x306003 x306004 x306005 x306006) else (none)) else (header_Right.j1 k x3 false x306000 x306001 x306002 x306003 x306004 x306005 x306006))
def header_Right.j1 : Nat → List ByteArray → Bool → ByteArray → ByteArray → ByteArray → ByteArray → ByteArray → ByteArray → List ByteArray → Option (Bool)
  | 0, _, _, _, _, _, _, _, _, _ => none
  | k + 1, x3, x35, x306000, x306001, x306002, x306003, x306004, x306005, x306006 => if x35 = true then (some false) else (if x306004.toList = ([] : List UInt8) then (if x306005.toList = ([] : List UInt8) then ((name_Unlike.f x3).bind fun t314 => (some t314)) else (some false)) else ((name_Unlike.f x3).bind fun t315 => (some t315)))
end
def header_Right.f (k : Nat) (a0_0 : ByteArray) (a0_1 : ByteArray) (a0_2 : ByteArray) (a0_3 : ByteArray) (a0_4 : ByteArray) (a0_5 : ByteArray) (l0_6 : List ByteArray) : Option (Bool) := (some (([a0_0, a0_1, a0_2, a0_3, a0_4, a0_5] : List ByteArray) : List ByteArray)).bind fun y306 => (if y306.length + l0_6.length < 8796093022208 then ((some (y306 ++ l0_6 : List ByteArray)).bind fun y309 => (if a0_2.toList = ([] : List UInt8) then (header_Right.j0 k y309 true a0_0 a0_1 a0_2 a0_3 a0_4 a0_5 l0_6) else ((slices_ContainsFunc_string_string.f y309 (Value.func (.func 68) #[] #[])).bind fun t312 => (if t312 = true then (header_Right.j0 k y309 true a0_0 a0_1 a0_2 a0_3 a0_4 a0_5 l0_6) else ((slices_Contains_string_string.f k l0_6 (⟨#[]⟩ : ByteArray)).bind fun t313 => (header_Right.j0 k y309 t313 a0_0 a0_1 a0_2 a0_3 a0_4 a0_5 l0_6)))))) else (none))
theorem header_Right.mono_l : ∀ k, (∀ y0 y1 y2 y3 y4 y5 y6 y7 y8, LeO (header_Right.j0 k y0 y1 y2 y3 y4 y5 y6 y7 y8) (header_Right.j0 (k + 1) y0 y1 y2 y3 y4 y5 y6 y7 y8)) ∧ (∀ y0 y1 y2 y3 y4 y5 y6 y7 y8, LeO (header_Right.j1 k y0 y1 y2 y3 y4 y5 y6 y7 y8) (header_Right.j1 (k + 1) y0 y1 y2 y3 y4 y5 y6 y7 y8))
  | 0 => ⟨fun _ _ _ _ _ _ _ _ _ r h => by simp [header_Right.j0] at h, fun _ _ _ _ _ _ _ _ _ r h => by simp [header_Right.j1] at h⟩
  | k + 1 => by
    obtain ⟨ih0, ih1⟩ := header_Right.mono_l k
    refine ⟨?_, ?_⟩
    · intro y0 y1 y2 y3 y4 y5 y6 y7 y8
      unfold header_Right.j0
      repeat' first
      | (with_reducible exact ih0 _ _ _ _ _ _ _ _ _)
      | (with_reducible exact ih1 _ _ _ _ _ _ _ _ _)
      | (with_reducible exact slices_Contains_string_string.mono _ _ _)
      | (with_reducible exact LeO.refl _)
      | (with_reducible exact LeO.none _)
      | (with_reducible refine LeO.ite ?_ ?_)
      | (with_reducible refine LeO.bind ?_ (fun _ => ?_))
      | exact ih0 _ _ _ _ _ _ _ _ _
      | exact ih1 _ _ _ _ _ _ _ _ _
      | exact slices_Contains_string_string.mono _ _ _
      | exact LeO.none _
      | refine LeO.ite ?_ ?_
      | refine LeO.bind ?_ (fun _ => ?_)
    · intro y0 y1 y2 y3 y4 y5 y6 y7 y8
      unfold header_Right.j1
      repeat' first
      | (with_reducible exact ih0 _ _ _ _ _ _ _ _ _)
      | (with_reducible exact ih1 _ _ _ _ _ _ _ _ _)
      | (with_reducible exact slices_Contains_string_string.mono _ _ _)
      | (with_reducible exact LeO.refl _)
      | (with_reducible exact LeO.none _)
      | (with_reducible refine LeO.ite ?_ ?_)
      | (with_reducible refine LeO.bind ?_ (fun _ => ?_))
      | exact ih0 _ _ _ _ _ _ _ _ _
      | exact ih1 _ _ _ _ _ _ _ _ _
      | exact slices_Contains_string_string.mono _ _ _
      | exact LeO.none _
      | refine LeO.ite ?_ ?_
      | refine LeO.bind ?_ (fun _ => ?_)
theorem header_Right.mono : ∀ a0 a1 a2 a3 a4 a5 a6 k, LeO (header_Right.f k a0 a1 a2 a3 a4 a5 a6) (header_Right.f (k + 1) a0 a1 a2 a3 a4 a5 a6) := by
  intro a0 a1 a2 a3 a4 a5 a6 k
  obtain ⟨ih0, ih1⟩ := header_Right.mono_l k
  unfold header_Right.f
  repeat' first
      | (with_reducible exact ih0 _ _ _ _ _ _ _ _ _)
      | (with_reducible exact ih1 _ _ _ _ _ _ _ _ _)
      | (with_reducible exact slices_Contains_string_string.mono _ _ _)
      | (with_reducible exact LeO.refl _)
      | (with_reducible exact LeO.none _)
      | (with_reducible refine LeO.ite ?_ ?_)
      | (with_reducible refine LeO.bind ?_ (fun _ => ?_))
      | exact ih0 _ _ _ _ _ _ _ _ _
      | exact ih1 _ _ _ _ _ _ _ _ _
      | exact slices_Contains_string_string.mono _ _ _
      | exact LeO.none _
      | refine LeO.ite ?_ ?_
      | refine LeO.bind ?_ (fun _ => ?_)
set_option maxHeartbeats 8000000 in
set_option maxRecDepth 100000 in
theorem header_Right.calls (k : Nat) (a0_0 : ByteArray) (a0_1 : ByteArray) (a0_2 : ByteArray) (a0_3 : ByteArray) (a0_4 : ByteArray) (a0_5 : ByteArray) (A0_6 : Option Addr) (c0_6 : Nat) (l0_6 : List ByteArray) (r : Bool) (w : World) (hr0_6 : Kd.C Kd.string w A0_6 l0_6.length l0_6) (hc0_6 : l0_6.length ≤ c0_6) (h : header_Right.f k a0_0 a0_1 a0_2 a0_3 a0_4 a0_5 l0_6 = some r) :
    Calls Tryd.prog 39 #[.agg #[.string a0_0, .string a0_1, .string a0_2, .string a0_3, .string a0_4, .string a0_5, .slice A0_6 l0_6.length c0_6]] w fun e w' => e = .returned (.bool r) ∧ Below w.heap.size w w' := by
  have hu42 := Tryd.underlying42
  have HR0_6 := Aside0.mk hr0_6
  have HC0_6 := Aside0.mk hc0_6
  clear hr0_6 hc0_6
  have HB := Aside0.mk (Below.refl w.heap.size w)
  have H : ((some (([a0_0, a0_1, a0_2, a0_3, a0_4, a0_5] : List ByteArray) : List ByteArray)).bind fun y306 => (if y306.length + l0_6.length < 8796093022208 then ((some (y306 ++ l0_6 : List ByteArray)).bind fun y309 => (if a0_2.toList = ([] : List UInt8) then (header_Right.j0 k y309 true a0_0 a0_1 a0_2 a0_3 a0_4 a0_5 l0_6) else ((slices_ContainsFunc_string_string.f y309 (Value.func (.func 68) #[] #[])).bind fun t312 => (if t312 = true then (header_Right.j0 k y309 true a0_0 a0_1 a0_2 a0_3 a0_4 a0_5 l0_6) else ((slices_Contains_string_string.f k l0_6 (⟨#[]⟩ : ByteArray)).bind fun t313 => (header_Right.j0 k y309 t313 a0_0 a0_1 a0_2 a0_3 a0_4 a0_5 l0_6)))))) else (none))) = some r := h
  clear h
  obtain ⟨y306, hy306⟩ : ∃ y_ : List ByteArray, y_ = (([a0_0, a0_1, a0_2, a0_3, a0_4, a0_5] : List ByteArray)) := ⟨_, rfl⟩
  replace H : (if y306.length + l0_6.length < 8796093022208 then ((some (y306 ++ l0_6 : List ByteArray)).bind fun y309 => (if a0_2.toList = ([] : List UInt8) then (header_Right.j0 k y309 true a0_0 a0_1 a0_2 a0_3 a0_4 a0_5 l0_6) else ((slices_ContainsFunc_string_string.f y309 (Value.func (.func 68) #[] #[])).bind fun t312 => (if t312 = true then (header_Right.j0 k y309 true a0_0 a0_1 a0_2 a0_3 a0_4 a0_5 l0_6) else ((slices_Contains_string_string.f k l0_6 (⟨#[]⟩ : ByteArray)).bind fun t313 => (header_Right.j0 k y309 t313 a0_0 a0_1 a0_2 a0_3 a0_4 a0_5 l0_6)))))) else (none)) = some r := by first | (rw [hy306]; with_reducible exact H) | (have H2_ := (Option.bind_some _ _).symm.trans H; rw [hy306]; with_reducible exact H2_) | (have H2_ := (Option.bind_some _ _).symm.trans H; with_reducible exact H2_) | with_reducible exact H | (rw [hy306]; exact H) | exact H
  have Ny306 := Aside0.mk hy306
  clear hy306
  by_cases c2 : y306.length + l0_6.length < 8796093022208
  · rw [if_pos c2] at H
    have LMc2 := Aside0.mk c2
    clear c2
    obtain ⟨y309, hy309⟩ : ∃ y_ : List ByteArray, y_ = (y306 ++ l0_6) := ⟨_, rfl⟩
    replace H : (if a0_2.toList = ([] : List UInt8) then (header_Right.j0 k y309 true a0_0 a0_1 a0_2 a0_3 a0_4 a0_5 l0_6) else ((slices_ContainsFunc_string_string.f y309 (Value.func (.func 68) #[] #[])).bind fun t312 => (if t312 = true then (header_Right.j0 k y309 true a0_0 a0_1 a0_2 a0_3 a0_4 a0_5 l0_6) else ((slices_Contains_string_string.f k l0_6 (⟨#[]⟩ : ByteArray)).bind fun t313 => (header_Right.j0 k y309 t313 a0_0 a0_1 a0_2 a0_3 a0_4 a0_5 l0_6))))) = some r := by first | (rw [hy309]; with_reducible exact H) | (have H2_ := (Option.bind_some _ _).symm.trans H; rw [hy309]; with_reducible exact H2_) | (have H2_ := (Option.bind_some _ _).symm.trans H; with_reducible exact H2_) | with_reducible exact H | (rw [hy309]; exact H) | exact H
    have Ny309 := Aside0.mk hy309
    clear hy309
    have HC3 := Aside0.mk H
    clear H
    go_enter Tryd.func39, Tryd.ntmps39
    go_upto_region 3 with (first | ((with_reducible refine gate_dst (N := 1) rfl ?_); refine box_event ?hg (N := 1) ?hd (cs := #[.string a0_0, .string a0_1, .string a0_2, .string a0_3, .string a0_4, .string a0_5, .slice A0_6 l0_6.length c0_6]) (t := 42) ?hr ?_; (case hd => rfl); (case hg => rfl); (case hr => first | (go_simp; done) | (go_simp; rfl)); intro gb305 hg w4 hbox hb; have n0_ := Aside0.mk (below_step (by repeat (first | (with_reducible first | exact HB.out | apply below_alloc | apply pw_below_drewN | apply below_drew1) | exact HB.out)) hb); have n1_ := Aside0.mk (hbox); have n2_ := Aside0.mk ((by rw [hg]; exact (below_size (by repeat (first | (with_reducible first | exact HB.out | apply below_alloc | apply pw_below_drewN | apply below_drew1) | exact HB.out))) : w.heap.size ≤ gb305)); have n3_ := Aside0.mk ((by rw [hg]; exact (below_size (by repeat (first | (with_reducible first | exact HB.out | apply below_alloc | apply pw_below_drewN | apply below_drew1) | exact HB.out))) : w.heap.size ≤ gb305)); clear HB; have HB := n0_; have BK305 := n1_; have GW305 := n2_; have GE305 := n3_; clear n0_ n1_ n2_ n3_; clear hb hbox hg; have hcz5_0 : w4.cell? ⟨gb305, 0, none⟩ = some (.string a0_0) := (blk_cell BK305.out 0).trans rfl; have hcz5_1 : w4.cell? ⟨gb305, 1, none⟩ = some (.string a0_1) := (blk_cell BK305.out 1).trans rfl; have hcz5_2 : w4.cell? ⟨gb305, 2, none⟩ = some (.string a0_2) := (blk_cell BK305.out 2).trans rfl; have hcz5_3 : w4.cell? ⟨gb305, 3, none⟩ = some (.string a0_3) := (blk_cell BK305.out 3).trans rfl; have hcz5_4 : w4.cell? ⟨gb305, 4, none⟩ = some (.string a0_4) := (blk_cell BK305.out 4).trans rfl; have hcz5_5 : w4.cell? ⟨gb305, 5, none⟩ = some (.string a0_5) := (blk_cell BK305.out 5).trans rfl; have hcz5_6 : w4.cell? ⟨gb305, 6, none⟩ = some (.slice A0_6 l0_6.length c0_6) := (blk_cell BK305.out 6).trans rfl; have hfz5_0 := blk_frozen BK305.out 0; have hfz5_1 := blk_frozen BK305.out 1; have hfz5_2 := blk_frozen BK305.out 2; have hfz5_3 := blk_frozen BK305.out 3; have hfz5_4 := blk_frozen BK305.out 4; have hfz5_5 := blk_frozen BK305.out 5; have hfz5_6 := blk_frozen BK305.out 6) | ((with_reducible refine gate_dst (N := 17) rfl ?_); refine Kd.R_lit Kd.string _ 9 ?hg (N := 17) ?hd (xs := ([a0_0, a0_1, a0_2, a0_3, a0_4, a0_5] : List ByteArray)) (inner := [.string a0_0, .string a0_1, .string a0_2, .string a0_3, .string a0_4, .string a0_5]) (ok := fun _ => True) (okp := fun _ => True) ?hr ?hp (fun _ hk => hk) trivial (Below.refl _ _) (Nat.le_refl _) (by simp) ?_; (case hd => rfl); (case hg => rfl); (case hr => first | (go_simp; done) | (go_simp; rfl)); (case hp => exact (Reps.one (show Kd.M Kd.string _ _ _ a0_0 [.string a0_0] from rfl) (Reps.one (show Kd.M Kd.string _ _ _ a0_1 [.string a0_1] from rfl) (Reps.one (show Kd.M Kd.string _ _ _ a0_2 [.string a0_2] from rfl) (Reps.one (show Kd.M Kd.string _ _ _ a0_3 [.string a0_3] from rfl) (Reps.one (show Kd.M Kd.string _ _ _ a0_4 [.string a0_4] from rfl) (Reps.one (show Kd.M Kd.string _ _ _ a0_5 [.string a0_5] from rfl) (Reps.none _ _)))))))); intro v307 w6 ho7 hb hg_ hnew_; clear hg_ hnew_; (first | rw [← Ny306.out] at ho7 | (simp only [Int.reduceToNat] at ho7; rw [← Ny306.out] at ho7)); have n0_ := Aside0.mk (Kd.R_lower ho7 (below_size (by repeat (first | (with_reducible first | exact HB.out | apply below_alloc | apply pw_below_drewN | apply below_drew1 | refine below_set ?_ GE305.out) | exact HB.out)))); have n1_ := Aside0.mk (blk_below (g := gb305) (o := .cells #[.string a0_0, .string a0_1, .string a0_2, .string a0_3, .string a0_4, .string a0_5, .slice A0_6 l0_6.length c0_6] 42 (0, 0)) (by (with_reducible repeat (first | refine blk_drewN ?_ _ | refine blk_drew ?_ | refine blk_alloc ?_ _)); exact BK305.out) hb); have n2_ := Aside0.mk (below_step (by repeat (first | (with_reducible first | exact HB.out | apply below_alloc | apply pw_below_drewN | apply below_drew1 | refine below_set ?_ GE305.out) | exact HB.out)) hb); clear BK305; clear HB; have HO308 := n0_; have BK305 := n1_; have HB := n2_; clear n0_ n1_ n2_; clear hb ho7; have hcz8_0 : w6.cell? ⟨gb305, 0, none⟩ = some (.string a0_0) := (blk_cell BK305.out 0).trans rfl; have hcz8_1 : w6.cell? ⟨gb305, 1, none⟩ = some (.string a0_1) := (blk_cell BK305.out 1).trans rfl; have hcz8_2 : w6.cell? ⟨gb305, 2, none⟩ = some (.string a0_2) := (blk_cell BK305.out 2).trans rfl; have hcz8_3 : w6.cell? ⟨gb305, 3, none⟩ = some (.string a0_3) := (blk_cell BK305.out 3).trans rfl; have hcz8_4 : w6.cell? ⟨gb305, 4, none⟩ = some (.string a0_4) := (blk_cell BK305.out 4).trans rfl; have hcz8_5 : w6.cell? ⟨gb305, 5, none⟩ = some (.string a0_5) := (blk_cell BK305.out 5).trans rfl; have hcz8_6 : w6.cell? ⟨gb305, 6, none⟩ = some (.slice A0_6 l0_6.length c0_6) := (blk_cell BK305.out 6).trans rfl; have hfz8_0 := blk_frozen BK305.out 0; have hfz8_1 := blk_frozen BK305.out 1; have hfz8_2 := blk_frozen BK305.out 2; have hfz8_3 := blk_frozen BK305.out 3; have hfz8_4 := blk_frozen BK305.out 4; have hfz8_5 := blk_frozen BK305.out 5; have hfz8_6 := blk_frozen BK305.out 6) | ((with_reducible refine gate_builtin (b := .append) (xs := #[.tmp 17, .tmp 19]) rfl ?_); at_builtin; refine Kd.R_append_rows Kd.string (w0 := w) w.heap.size rfl (.tmp 17) (.tmp 19) 33 9 (.string ⟨#[]⟩) 16 rfl Tryd.underlying33 info9 rfl (by decide) (by omega) v307 y306 l0_6 _ _ _ (fun _ => True) (fun _ => False) rfl rfl ?aO ?aR (fun _ _ h => h) (fun _ h => h.elim) ?aF ?aB ?aS ?aL ?_; (case aR => repeat (first | exact (Kd.C_below HR0_6.out HB.out) | (with_reducible refine Kd.C_alloc ?_ _) | (with_reducible refine Kd.C_drewN ?_ _) | (with_reducible refine Kd.C_drew ?_))); (case aB => exact (by repeat (first | (with_reducible first | exact HB.out | apply below_alloc | apply pw_below_drewN | apply below_drew1 | refine below_set ?_ GE305.out) | exact HB.out))); (case aF => exact (fun _ _ => trivial)); (case aO => exact (by (with_reducible repeat (first | apply Kd.R_alloc | apply Kd.R_drewN | apply Kd.R_drew)); exact HO308.out)); (case aS => exact (below_size (by repeat (first | (with_reducible first | exact HB.out | apply below_alloc | apply pw_below_drewN | apply below_drew1 | refine below_set ?_ GE305.out) | exact HB.out)))); (case aL => have := LMc2.out; omega); intro v310 w9 ho hb hg hat; rw [← Ny309.out] at ho; have n0_ := Aside0.mk (blk_grown (g := gb305) (o := .cells #[.string a0_0, .string a0_1, .string a0_2, .string a0_3, .string a0_4, .string a0_5, .slice A0_6 l0_6.length c0_6] 42 (0, 0)) (by (with_reducible repeat (first | refine blk_drewN ?_ _ | refine blk_drew ?_ | refine blk_alloc ?_ _)); exact BK305.out) hg (Kd.R_ne HO308.out BK305.out (by decide))); have n1_ := Aside0.mk (hb); have n2_ := Aside0.mk (ho); clear BK305; clear HB; clear HO308; have BK305 := n0_; have HB := n1_; have HO311 := n2_; clear n0_ n1_ n2_; clear ho hb hg hat))
    (try simp only [Act.put, List.setIfInBounds_toArray, List.set_cons_zero, List.set_cons_succ])
    go_cut [21] (fun v21 wc => ∃ (kq : Nat) (x21_2 : Bool), v21 = .bool x21_2 ∧ Aside0 (header_Right.j0 kq y309 x21_2 a0_0 a0_1 a0_2 a0_3 a0_4 a0_5 l0_6 = some r) ∧ Aside0 (kq ≤ k) ∧ Aside0 (Kd.R Kd.string 9 wc w.heap.size (fun _ => True) v310 y309) ∧ Aside0 (wc.heap[gb305]? = some (.cells #[.string a0_0, .string a0_1, .string a0_2, .string a0_3, .string a0_4, .string a0_5, (.slice A0_6 l0_6.length c0_6)] 42 (0, 0))) ∧ Aside0 (Below w.heap.size w wc))
    case first =>
      have H := HC3.out
      clear HC3
      by_cases c10 : a0_2.toList = ([] : List UInt8)
      · rw [if_pos c10] at H
        have c10b0 : (a0_2.toList == ([] : List UInt8)) = true := beq_iff_eq.mpr c10
        have c10b1 : (a0_2.toList != ([] : List UInt8)) = false := bne_eq_false_iff_eq.mpr c10
        clear c10
        (first | rw [c10b0] | (simp only [i64_w, i32_w]; rw [c10b0]) | skip)
        have H' := Aside0.mk H
        clear H
        have hcz11_0 : w9.cell? ⟨gb305, 0, none⟩ = some (.string a0_0) := (blk_cell BK305.out 0).trans rfl
        have hcz11_1 : w9.cell? ⟨gb305, 1, none⟩ = some (.string a0_1) := (blk_cell BK305.out 1).trans rfl
        have hcz11_2 : w9.cell? ⟨gb305, 2, none⟩ = some (.string a0_2) := (blk_cell BK305.out 2).trans rfl
        have hcz11_3 : w9.cell? ⟨gb305, 3, none⟩ = some (.string a0_3) := (blk_cell BK305.out 3).trans rfl
        have hcz11_4 : w9.cell? ⟨gb305, 4, none⟩ = some (.string a0_4) := (blk_cell BK305.out 4).trans rfl
        have hcz11_5 : w9.cell? ⟨gb305, 5, none⟩ = some (.string a0_5) := (blk_cell BK305.out 5).trans rfl
        have hcz11_6 : w9.cell? ⟨gb305, 6, none⟩ = some (.slice A0_6 l0_6.length c0_6) := (blk_cell BK305.out 6).trans rfl
        have hfz11_0 := blk_frozen BK305.out 0
        have hfz11_1 := blk_frozen BK305.out 1
        have hfz11_2 := blk_frozen BK305.out 2
        have hfz11_3 := blk_frozen BK305.out 3
        have hfz11_4 := blk_frozen BK305.out 4
        have hfz11_5 := blk_frozen BK305.out 5
        have hfz11_6 := blk_frozen BK305.out 6
        go_wp2
        go_meet
        case rel => exact ⟨_, (true), (by first | rfl | (simp; done) | (simp [*]; done) | (congr 1; cases (a0_1 ++ a0_4).toList <;> rfl) | (simp; cases (a0_1 ++ a0_4).toList <;> rfl)), H', ⟨by first | omega | exact Nat.le_refl _⟩, ⟨by (with_reducible repeat (first | apply Kd.R_alloc | apply Kd.R_drewN | apply Kd.R_drew)); exact HO311.out⟩, ⟨by (with_reducible repeat (first | refine blk_drewN ?_ _ | refine blk_drew ?_ | refine blk_alloc ?_ _)); exact BK305.out⟩, ⟨by repeat (first | (with_reducible first | exact HB.out | apply below_alloc | apply pw_below_drewN | apply below_drew1 | refine below_set ?_ GE305.out) | exact HB.out)⟩⟩
      · rw [if_neg c10] at H
        have c10b0 : (a0_2.toList == ([] : List UInt8)) = false := beq_eq_false_iff_ne.mpr c10
        have c10b1 : (a0_2.toList != ([] : List UInt8)) = true := bne_iff_ne.mpr c10
        (first | rw [c10b0] | (simp only [i64_w, i32_w]; rw [c10b0]) | skip)
        replace H := Option.bind_eq_some_iff.mp H
        obtain ⟨t312, A120, H⟩ := H
        replace H : (if t312 = true then (header_Right.j0 k y309 true a0_0 a0_1 a0_2 a0_3 a0_4 a0_5 l0_6) else ((slices_Contains_string_string.f k l0_6 (⟨#[]⟩ : ByteArray)).bind fun t313 => (header_Right.j0 k y309 t313 a0_0 a0_1 a0_2 a0_3 a0_4 a0_5 l0_6))) = some r := H
        have A12 := Aside0.mk A120
        clear A120
        by_cases c13 : t312 = true
        · subst c13
          have H1 : (header_Right.j0 k y309 true a0_0 a0_1 a0_2 a0_3 a0_4 a0_5 l0_6) = some r := by rw [if_pos rfl] at H; exact H
          clear H
          have H := H1
          clear H1
          have H' := Aside0.mk H
          clear H
          have hcz14_0 : w9.cell? ⟨gb305, 0, none⟩ = some (.string a0_0) := (blk_cell BK305.out 0).trans rfl
          have hcz14_1 : w9.cell? ⟨gb305, 1, none⟩ = some (.string a0_1) := (blk_cell BK305.out 1).trans rfl
          have hcz14_2 : w9.cell? ⟨gb305, 2, none⟩ = some (.string a0_2) := (blk_cell BK305.out 2).trans rfl
          have hcz14_3 : w9.cell? ⟨gb305, 3, none⟩ = some (.string a0_3) := (blk_cell BK305.out 3).trans rfl
          have hcz14_4 : w9.cell? ⟨gb305, 4, none⟩ = some (.string a0_4) := (blk_cell BK305.out 4).trans rfl
          have hcz14_5 : w9.cell? ⟨gb305, 5, none⟩ = some (.string a0_5) := (blk_cell BK305.out 5).trans rfl
          have hcz14_6 : w9.cell? ⟨gb305, 6, none⟩ = some (.slice A0_6 l0_6.length c0_6) := (blk_cell BK305.out 6).trans rfl
          have hfz14_0 := blk_frozen BK305.out 0
          have hfz14_1 := blk_frozen BK305.out 1
          have hfz14_2 := blk_frozen BK305.out 2
          have hfz14_3 := blk_frozen BK305.out 3
          have hfz14_4 := blk_frozen BK305.out 4
          have hfz14_5 := blk_frozen BK305.out 5
          have hfz14_6 := blk_frozen BK305.out 6
          obtain ⟨Ao15, co15, eo15⟩ := Kd.R_slice HO311.out
          subst eo15
          go_wp2_with (first | (go_at_call 58; (with_reducible refine (slices_ContainsFunc_string_string.calls _ _ y309 (Value.func (.func 68) #[] #[]) true _ ?side1 ?side2 ?side3 A12.out).mono ?_); (case side1 => repeat (first | exact (Kd.R_reads' HO311.out).2.2 | (with_reducible refine Kd.C_alloc ?_ _) | (with_reducible refine Kd.C_drewN ?_ _) | (with_reducible refine Kd.C_drew ?_))); (case side2 => exact (Kd.R_reads' HO311.out).2.1); (case side3 => nofun); rintro e w16 ⟨rfl, hb⟩; have n0_ := Aside0.mk (Kd.R_below (by (with_reducible repeat (first | apply Kd.R_alloc | apply Kd.R_drewN | apply Kd.R_drew)); exact HO311.out) hb); have n1_ := Aside0.mk (blk_below (g := gb305) (o := .cells #[.string a0_0, .string a0_1, .string a0_2, .string a0_3, .string a0_4, .string a0_5, .slice A0_6 l0_6.length c0_6] 42 (0, 0)) (by (with_reducible repeat (first | refine blk_drewN ?_ _ | refine blk_drew ?_ | refine blk_alloc ?_ _)); exact BK305.out) hb); have n2_ := Aside0.mk (below_step (by repeat (first | (with_reducible first | exact HB.out | apply below_alloc | apply pw_below_drewN | apply below_drew1 | refine below_set ?_ GE305.out) | exact HB.out)) hb); clear HO311; clear BK305; clear HB; have HO311 := n0_; have BK305 := n1_; have HB := n2_; clear n0_ n1_ n2_; (try clear hb); (try clear hb2); (try clear hk); (try clear hi)))
          go_meet
          case rel => exact ⟨_, (true), (by first | rfl | (simp; done) | (simp [*]; done) | (congr 1; cases (a0_1 ++ a0_4).toList <;> rfl) | (simp; cases (a0_1 ++ a0_4).toList <;> rfl)), H', ⟨by first | omega | exact Nat.le_refl _⟩, ⟨by (with_reducible repeat (first | apply Kd.R_alloc | apply Kd.R_drewN | apply Kd.R_drew)); exact HO311.out⟩, ⟨by (with_reducible repeat (first | refine blk_drewN ?_ _ | refine blk_drew ?_ | refine blk_alloc ?_ _)); exact BK305.out⟩, ⟨by repeat (first | (with_reducible first | exact HB.out | apply below_alloc | apply pw_below_drewN | apply below_drew1 | refine below_set ?_ GE305.out) | exact HB.out)⟩⟩
        · replace c13 := Bool.eq_false_iff.mpr c13
          subst c13
          have H1 : ((slices_Contains_string_string.f k l0_6 (⟨#[]⟩ : ByteArray)).bind fun t313 => (header_Right.j0 k y309 t313 a0_0 a0_1 a0_2 a0_3 a0_4 a0_5 l0_6)) = some r := by rw [if_neg (show ¬ (false = true) by decide)] at H; exact H
          clear H
          have H := H1
          clear H1
          replace H := Option.bind_eq_some_iff.mp H
          obtain ⟨t313, A170, H⟩ := H
          replace H : (header_Right.j0 k y309 t313 a0_0 a0_1 a0_2 a0_3 a0_4 a0_5 l0_6) = some r := H
          have A17 := Aside0.mk A170
          clear A170
          have H' := Aside0.mk H
          clear H
          have hcz18_0 : w9.cell? ⟨gb305, 0, none⟩ = some (.string a0_0) := (blk_cell BK305.out 0).trans rfl
          have hcz18_1 : w9.cell? ⟨gb305, 1, none⟩ = some (.string a0_1) := (blk_cell BK305.out 1).trans rfl
          have hcz18_2 : w9.cell? ⟨gb305, 2, none⟩ = some (.string a0_2) := (blk_cell BK305.out 2).trans rfl
          have hcz18_3 : w9.cell? ⟨gb305, 3, none⟩ = some (.string a0_3) := (blk_cell BK305.out 3).trans rfl
          have hcz18_4 : w9.cell? ⟨gb305, 4, none⟩ = some (.string a0_4) := (blk_cell BK305.out 4).trans rfl
          have hcz18_5 : w9.cell? ⟨gb305, 5, none⟩ = some (.string a0_5) := (blk_cell BK305.out 5).trans rfl
          have hcz18_6 : w9.cell? ⟨gb305, 6, none⟩ = some (.slice A0_6 l0_6.length c0_6) := (blk_cell BK305.out 6).trans rfl
          have hfz18_0 := blk_frozen BK305.out 0
          have hfz18_1 := blk_frozen BK305.out 1
          have hfz18_2 := blk_frozen BK305.out 2
          have hfz18_3 := blk_frozen BK305.out 3
          have hfz18_4 := blk_frozen BK305.out 4
          have hfz18_5 := blk_frozen BK305.out 5
          have hfz18_6 := blk_frozen BK305.out 6
          obtain ⟨Ao19, co19, eo19⟩ := Kd.R_slice HO311.out
          subst eo19
          go_wp2_with (first | (go_at_call 58; (with_reducible refine (slices_ContainsFunc_string_string.calls _ _ y309 (Value.func (.func 68) #[] #[]) false _ ?side1 ?side2 ?side3 A12.out).mono ?_); (case side1 => repeat (first | exact (Kd.R_reads' HO311.out).2.2 | (with_reducible refine Kd.C_alloc ?_ _) | (with_reducible refine Kd.C_drewN ?_ _) | (with_reducible refine Kd.C_drew ?_))); (case side2 => exact (Kd.R_reads' HO311.out).2.1); (case side3 => nofun); rintro e w20 ⟨rfl, hb⟩; have n0_ := Aside0.mk (Kd.R_below (by (with_reducible repeat (first | apply Kd.R_alloc | apply Kd.R_drewN | apply Kd.R_drew)); exact HO311.out) hb); have n1_ := Aside0.mk (blk_below (g := gb305) (o := .cells #[.string a0_0, .string a0_1, .string a0_2, .string a0_3, .string a0_4, .string a0_5, .slice A0_6 l0_6.length c0_6] 42 (0, 0)) (by (with_reducible repeat (first | refine blk_drewN ?_ _ | refine blk_drew ?_ | refine blk_alloc ?_ _)); exact BK305.out) hb); have n2_ := Aside0.mk (below_step (by repeat (first | (with_reducible first | exact HB.out | apply below_alloc | apply pw_below_drewN | apply below_drew1 | refine below_set ?_ GE305.out) | exact HB.out)) hb); clear HO311; clear BK305; clear HB; have HO311 := n0_; have BK305 := n1_; have HB := n2_; clear n0_ n1_ n2_; (try clear hb); (try clear hb2); (try clear hk); (try clear hi); have hcz21_0 : w20.cell? ⟨gb305, 0, none⟩ = some (.string a0_0) := (blk_cell BK305.out 0).trans rfl; have hcz21_1 : w20.cell? ⟨gb305, 1, none⟩ = some (.string a0_1) := (blk_cell BK305.out 1).trans rfl; have hcz21_2 : w20.cell? ⟨gb305, 2, none⟩ = some (.string a0_2) := (blk_cell BK305.out 2).trans rfl; have hcz21_3 : w20.cell? ⟨gb305, 3, none⟩ = some (.string a0_3) := (blk_cell BK305.out 3).trans rfl; have hcz21_4 : w20.cell? ⟨gb305, 4, none⟩ = some (.string a0_4) := (blk_cell BK305.out 4).trans rfl; have hcz21_5 : w20.cell? ⟨gb305, 5, none⟩ = some (.string a0_5) := (blk_cell BK305.out 5).trans rfl; have hcz21_6 : w20.cell? ⟨gb305, 6, none⟩ = some (.slice A0_6 l0_6.length c0_6) := (blk_cell BK305.out 6).trans rfl; have hfz21_0 := blk_frozen BK305.out 0; have hfz21_1 := blk_frozen BK305.out 1; have hfz21_2 := blk_frozen BK305.out 2; have hfz21_3 := blk_frozen BK305.out 3; have hfz21_4 := blk_frozen BK305.out 4; have hfz21_5 := blk_frozen BK305.out 5; have hfz21_6 := blk_frozen BK305.out 6) | (go_at_call 70; (with_reducible refine (slices_Contains_string_string.calls k _ _ l0_6 (⟨#[]⟩ : ByteArray) t313 _ ?side1 ?side2 A17.out).mono ?_); (case side1 => repeat (first | exact (Kd.C_below HR0_6.out HB.out) | (with_reducible refine Kd.C_alloc ?_ _) | (with_reducible refine Kd.C_drewN ?_ _) | (with_reducible refine Kd.C_drew ?_))); (case side2 => exact HC0_6.out); rintro e w' ⟨rfl, ⟨nd, rfl⟩⟩))
          go_meet
          case rel => exact ⟨_, (t313), (by first | rfl | (simp; done) | (simp [*]; done) | (congr 1; cases (a0_1 ++ a0_4).toList <;> rfl) | (simp; cases (a0_1 ++ a0_4).toList <;> rfl)), H', ⟨by first | omega | exact Nat.le_refl _⟩, ⟨by (with_reducible repeat (first | apply Kd.R_alloc | apply Kd.R_drewN | apply Kd.R_drew)); exact HO311.out⟩, ⟨by (with_reducible repeat (first | refine blk_drewN ?_ _ | refine blk_drew ?_ | refine blk_alloc ?_ _)); exact BK305.out⟩, ⟨by repeat (first | (with_reducible first | exact HB.out | apply below_alloc | apply pw_below_drewN | apply below_drew1 | refine below_set ?_ GE305.out) | exact HB.out)⟩⟩
    case rest =>
      clear HC3
      try clear c1
      try clear c2
      try clear p2
      try clear c3
      try clear c10
      try clear c10b0
      try clear c10b1
      try clear c13
      try clear hcz11_0
      try clear hcz11_1
      try clear hcz11_2
      try clear hcz11_3
      try clear hcz11_4
      try clear hcz11_5
      try clear hcz11_6
      try clear hcz14_0
      try clear hcz14_1
      try clear hcz14_2
      try clear hcz14_3
      try clear hcz14_4
      try clear hcz14_5
      try clear hcz14_6
      try clear hcz18_0
      try clear hcz18_1
      try clear hcz18_2
      try clear hcz18_3
      try clear hcz18_4
      try clear hcz18_5
      try clear hcz18_6
      try clear hcz21_0
      try clear hcz21_1
      try clear hcz21_2
      try clear hcz21_3
      try clear hcz21_4
      try clear hcz21_5
      try clear hcz21_6
      try clear hcz5_0
      try clear hcz5_1
      try clear hcz5_2
      try clear hcz5_3
      try clear hcz5_4
      try clear hcz5_5
      try clear hcz5_6
      try clear hcz8_0
      try clear hcz8_1
      try clear hcz8_2
      try clear hcz8_3
      try clear hcz8_4
      try clear hcz8_5
      try clear hcz8_6
      try clear hfz11_0
      try clear hfz11_1
      try clear hfz11_2
      try clear hfz11_3
      try clear hfz11_4
      try clear hfz11_5
      try clear hfz11_6
      try clear hfz14_0
      try clear hfz14_1
      try clear hfz14_2
      try clear hfz14_3
      try clear hfz14_4
      try clear hfz14_5
      try clear hfz14_6
      try clear hfz18_0
      try clear hfz18_1
      try clear hfz18_2
      try clear hfz18_3
      try clear hfz18_4
      try clear hfz18_5
      try clear hfz18_6
      try clear hfz21_0
      try clear hfz21_1
      try clear hfz21_2
      try clear hfz21_3
      try clear hfz21_4
      try clear hfz21_5
      try clear hfz21_6
      try clear hfz5_0
      try clear hfz5_1
      try clear hfz5_2
      try clear hfz5_3
      try clear hfz5_4
      try clear hfz5_5
      try clear hfz5_6
      try clear hfz8_0
      try clear hfz8_1
      try clear hfz8_2
      try clear hfz8_3
      try clear hfz8_4
      try clear hfz8_5
      try clear hfz8_6
      obtain ⟨kq, x21_2, rfl, HA, HJ2, HO_3, BK305, HB⟩ := hcut
      cases kq with
      | zero => exact absurd HA.out (by simp [header_Right.j0])
      | succ kj2 =>
        have H := HA.out
        clear HA
        simp only [header_Right.j0] at H
        by_cases c22 : x21_2 = true
        · subst c22
          have H1 : (some false) = some r := by rw [if_pos rfl] at H; exact H
          clear H
          have H := H1
          clear H1
          obtain rfl := Option.some.inj H
          go_wp2
          go_ret
          exact ⟨by first | rfl | (simp [errW_none, errW_some] <;> rfl) | (simp [*, errW_none, errW_some] <;> rfl), by repeat (first | (with_reducible first | exact HB.out | apply below_alloc | apply pw_below_drewN | apply below_drew1 | refine below_set ?_ GE305.out) | exact HB.out)⟩
        · replace c22 := Bool.eq_false_iff.mpr c22
          subst c22
          have H1 : (if a0_3.toList = ([] : List UInt8) then (if a0_1.size + a0_4.size ≤ 9223372036854775807 then (header_Right.j1 kj2 y309 ((a0_1 ++ a0_4).toList != ([] : List UInt8)) a0_0 a0_1 a0_2 a0_3 a0_4 a0_5 l0_6) else (none)) else (header_Right.j1 kj2 y309 false a0_0 a0_1 a0_2 a0_3 a0_4 a0_5 l0_6)) = some r := by rw [if_neg (show ¬ (false = true) by decide)] at H; exact H
          clear H
          have H := H1
          clear H1
          have HC23 := Aside0.mk H
          clear H
          go_upto_region 5 with (fail)
          go_cut [35] (fun v35 wc => ∃ (kq : Nat) (x35_22 : Bool), v35 = .bool x35_22 ∧ Aside0 (header_Right.j1 kq y309 x35_22 a0_0 a0_1 a0_2 a0_3 a0_4 a0_5 l0_6 = some r) ∧ Aside0 (kq ≤ kj2) ∧ Aside0 (Kd.R Kd.string 9 wc w.heap.size (fun _ => True) v310 y309) ∧ Aside0 (wc.heap[gb305]? = some (.cells #[.string a0_0, .string a0_1, .string a0_2, .string a0_3, .string a0_4, .string a0_5, (.slice A0_6 l0_6.length c0_6)] 42 (0, 0))) ∧ Aside0 (Below w.heap.size w wc))
          case first =>
            have H := HC23.out
            clear HC23
            by_cases c24 : a0_3.toList = ([] : List UInt8)
            · rw [if_pos c24] at H
              have c24b0 : (a0_3.toList == ([] : List UInt8)) = true := beq_iff_eq.mpr c24
              have c24b1 : (a0_3.toList != ([] : List UInt8)) = false := bne_eq_false_iff_eq.mpr c24
              clear c24
              (first | rw [c24b0] | (simp only [i64_w, i32_w]; rw [c24b0]) | skip)
              by_cases c25 : a0_1.size + a0_4.size ≤ 9223372036854775807
              · rw [if_pos c25] at H
                have c25b0 := eq_true c25
                have c25b1 : decide (a0_1.size + a0_4.size ≤ 9223372036854775807) = true := decide_eq_true c25
                try have c25b2 : (9223372036854775807 < a0_1.size + a0_4.size) = False := eq_false (Nat.not_lt.2 c25)
                have H' := Aside0.mk H
                clear H
                have hcz26_0 : wc.cell? ⟨gb305, 0, none⟩ = some (.string a0_0) := (blk_cell BK305.out 0).trans rfl
                have hcz26_1 : wc.cell? ⟨gb305, 1, none⟩ = some (.string a0_1) := (blk_cell BK305.out 1).trans rfl
                have hcz26_2 : wc.cell? ⟨gb305, 2, none⟩ = some (.string a0_2) := (blk_cell BK305.out 2).trans rfl
                have hcz26_3 : wc.cell? ⟨gb305, 3, none⟩ = some (.string a0_3) := (blk_cell BK305.out 3).trans rfl
                have hcz26_4 : wc.cell? ⟨gb305, 4, none⟩ = some (.string a0_4) := (blk_cell BK305.out 4).trans rfl
                have hcz26_5 : wc.cell? ⟨gb305, 5, none⟩ = some (.string a0_5) := (blk_cell BK305.out 5).trans rfl
                have hcz26_6 : wc.cell? ⟨gb305, 6, none⟩ = some (.slice A0_6 l0_6.length c0_6) := (blk_cell BK305.out 6).trans rfl
                have hfz26_0 := blk_frozen BK305.out 0
                have hfz26_1 := blk_frozen BK305.out 1
                have hfz26_2 := blk_frozen BK305.out 2
                have hfz26_3 := blk_frozen BK305.out 3
                have hfz26_4 := blk_frozen BK305.out 4
                have hfz26_5 := blk_frozen BK305.out 5
                have hfz26_6 := blk_frozen BK305.out 6
                go_wp2
                go_meet
                case rel => exact ⟨_, (((a0_1 ++ a0_4).toList != ([] : List UInt8))), (by first | rfl | (simp; done) | (simp [*]; done) | (congr 1; cases (a0_1 ++ a0_4).toList <;> rfl) | (simp; cases (a0_1 ++ a0_4).toList <;> rfl)), H', ⟨by have := HJ2.out; first | omega | exact Nat.le_refl _⟩, ⟨by (with_reducible repeat (first | apply Kd.R_alloc | apply Kd.R_drewN | apply Kd.R_drew)); exact HO_3.out⟩, ⟨by (with_reducible repeat (first | refine blk_drewN ?_ _ | refine blk_drew ?_ | refine blk_alloc ?_ _)); exact BK305.out⟩, ⟨by repeat (first | (with_reducible first | exact HB.out | apply below_alloc | apply pw_below_drewN | apply below_drew1 | refine below_set ?_ GE305.out) | exact HB.out)⟩⟩
              · rw [if_neg c25] at H
                exact absurd H (by simp)
            · rw [if_neg c24] at H
              have c24b0 : (a0_3.toList == ([] : List UInt8)) = false := beq_eq_false_iff_ne.mpr c24
              have c24b1 : (a0_3.toList != ([] : List UInt8)) = true := bne_iff_ne.mpr c24
              (first | rw [c24b0] | (simp only [i64_w, i32_w]; rw [c24b0]) | skip)
              have H' := Aside0.mk H
              clear H
              have hcz27_0 : wc.cell? ⟨gb305, 0, none⟩ = some (.string a0_0) := (blk_cell BK305.out 0).trans rfl
              have hcz27_1 : wc.cell? ⟨gb305, 1, none⟩ = some (.string a0_1) := (blk_cell BK305.out 1).trans rfl
              have hcz27_2 : wc.cell? ⟨gb305, 2, none⟩ = some (.string a0_2) := (blk_cell BK305.out 2).trans rfl
              have hcz27_3 : wc.cell? ⟨gb305, 3, none⟩ = some (.string a0_3) := (blk_cell BK305.out 3).trans rfl
              have hcz27_4 : wc.cell? ⟨gb305, 4, none⟩ = some (.string a0_4) := (blk_cell BK305.out 4).trans rfl
              have hcz27_5 : wc.cell? ⟨gb305, 5, none⟩ = some (.string a0_5) := (blk_cell BK305.out 5).trans rfl
              have hcz27_6 : wc.cell? ⟨gb305, 6, none⟩ = some (.slice A0_6 l0_6.length c0_6) := (blk_cell BK305.out 6).trans rfl
              have hfz27_0 := blk_frozen BK305.out 0
              have hfz27_1 := blk_frozen BK305.out 1
              have hfz27_2 := blk_frozen BK305.out 2
              have hfz27_3 := blk_frozen BK305.out 3
              have hfz27_4 := blk_frozen BK305.out 4
              have hfz27_5 := blk_frozen BK305.out 5
              have hfz27_6 := blk_frozen BK305.out 6
              go_wp2
              go_meet
              case rel => exact ⟨_, (false), (by first | rfl | (simp; done) | (simp [*]; done) | (congr 1; cases (a0_1 ++ a0_4).toList <;> rfl) | (simp; cases (a0_1 ++ a0_4).toList <;> rfl)), H', ⟨by have := HJ2.out; first | omega | exact Nat.le_refl _⟩, ⟨by (with_reducible repeat (first | apply Kd.R_alloc | apply Kd.R_drewN | apply Kd.R_drew)); exact HO_3.out⟩, ⟨by (with_reducible repeat (first | refine blk_drewN ?_ _ | refine blk_drew ?_ | refine blk_alloc ?_ _)); exact BK305.out⟩, ⟨by repeat (first | (with_reducible first | exact HB.out | apply below_alloc | apply pw_below_drewN | apply below_drew1 | refine below_set ?_ GE305.out) | exact HB.out)⟩⟩
          case rest =>
            clear HC23
            try clear c1
            try clear c2
            try clear p2
            try clear c3
            try clear c10
            try clear c10b0
            try clear c10b1
            try clear c13
            try clear c22
            try clear c24
            try clear c24b0
            try clear c24b1
            try clear c25
            try clear c25b0
            try clear c25b1
            try clear c25b2
            try clear hcz11_0
            try clear hcz11_1
            try clear hcz11_2
            try clear hcz11_3
            try clear hcz11_4
            try clear hcz11_5
            try clear hcz11_6
            try clear hcz14_0
            try clear hcz14_1
            try clear hcz14_2
            try clear hcz14_3
            try clear hcz14_4
            try clear hcz14_5
            try clear hcz14_6
            try clear hcz18_0
            try clear hcz18_1
            try clear hcz18_2
            try clear hcz18_3
            try clear hcz18_4
            try clear hcz18_5
            try clear hcz18_6
            try clear hcz21_0
            try clear hcz21_1
            try clear hcz21_2
            try clear hcz21_3
            try clear hcz21_4
            try clear hcz21_5
            try clear hcz21_6
            try clear hcz26_0
            try clear hcz26_1
            try clear hcz26_2
            try clear hcz26_3
            try clear hcz26_4
            try clear hcz26_5
            try clear hcz26_6
            try clear hcz27_0
            try clear hcz27_1
            try clear hcz27_2
            try clear hcz27_3
            try clear hcz27_4
            try clear hcz27_5
            try clear hcz27_6
            try clear hcz5_0
            try clear hcz5_1
            try clear hcz5_2
            try clear hcz5_3
            try clear hcz5_4
            try clear hcz5_5
            try clear hcz5_6
            try clear hcz8_0
            try clear hcz8_1
            try clear hcz8_2
            try clear hcz8_3
            try clear hcz8_4
            try clear hcz8_5
            try clear hcz8_6
            try clear hfz11_0
            try clear hfz11_1
            try clear hfz11_2
            try clear hfz11_3
            try clear hfz11_4
            try clear hfz11_5
            try clear hfz11_6
            try clear hfz14_0
            try clear hfz14_1
            try clear hfz14_2
            try clear hfz14_3
            try clear hfz14_4
            try clear hfz14_5
            try clear hfz14_6
            try clear hfz18_0
            try clear hfz18_1
            try clear hfz18_2
            try clear hfz18_3
            try clear hfz18_4
            try clear hfz18_5
            try clear hfz18_6
            try clear hfz21_0
            try clear hfz21_1
            try clear hfz21_2
            try clear hfz21_3
            try clear hfz21_4
            try clear hfz21_5
            try clear hfz21_6
            try clear hfz26_0
            try clear hfz26_1
            try clear hfz26_2
            try clear hfz26_3
            try clear hfz26_4
            try clear hfz26_5
            try clear hfz26_6
            try clear hfz27_0
            try clear hfz27_1
            try clear hfz27_2
            try clear hfz27_3
            try clear hfz27_4
            try clear hfz27_5
            try clear hfz27_6
            try clear hfz5_0
            try clear hfz5_1
            try clear hfz5_2
            try clear hfz5_3
            try clear hfz5_4
            try clear hfz5_5
            try clear hfz5_6
            try clear hfz8_0
            try clear hfz8_1
            try clear hfz8_2
            try clear hfz8_3
            try clear hfz8_4
            try clear hfz8_5
            try clear hfz8_6
            try clear p2
            obtain ⟨kq, x35_22, rfl, HA, HJ22, HO_3, BK305, HB⟩ := hcut
            cases kq with
            | zero => exact absurd HA.out (by simp [header_Right.j1])
            | succ kj22 =>
              have H := HA.out
              clear HA
              simp only [header_Right.j1] at H
              by_cases c28 : x35_22 = true
              · subst c28
                have H1 : (some false) = some r := by rw [if_pos rfl] at H; exact H
                clear H
                have H := H1
                clear H1
                obtain rfl := Option.some.inj H
                go_wp2
                go_ret
                exact ⟨by first | rfl | (simp [errW_none, errW_some] <;> rfl) | (simp [*, errW_none, errW_some] <;> rfl), by repeat (first | (with_reducible first | exact HB.out | apply below_alloc | apply pw_below_drewN | apply below_drew1 | refine below_set ?_ GE305.out) | exact HB.out)⟩
              · replace c28 := Bool.eq_false_iff.mpr c28
                subst c28
                have H1 : (if a0_4.toList = ([] : List UInt8) then (if a0_5.toList = ([] : List UInt8) then ((name_Unlike.f y309).bind fun t314 => (some t314)) else (some false)) else ((name_Unlike.f y309).bind fun t315 => (some t315))) = some r := by rw [if_neg (show ¬ (false = true) by decide)] at H; exact H
                clear H
                have H := H1
                clear H1
                by_cases c29 : a0_4.toList = ([] : List UInt8)
                · rw [if_pos c29] at H
                  have c29b0 : (a0_4.toList == ([] : List UInt8)) = true := beq_iff_eq.mpr c29
                  have c29b1 : (a0_4.toList != ([] : List UInt8)) = false := bne_eq_false_iff_eq.mpr c29
                  clear c29
                  by_cases c30 : a0_5.toList = ([] : List UInt8)
                  · rw [if_pos c30] at H
                    have c30b0 : (a0_5.toList == ([] : List UInt8)) = true := beq_iff_eq.mpr c30
                    have c30b1 : (a0_5.toList != ([] : List UInt8)) = false := bne_eq_false_iff_eq.mpr c30
                    clear c30
                    replace H := Option.bind_eq_some_iff.mp H
                    obtain ⟨t314, A310, H⟩ := H
                    replace H : (some t314) = some r := H
                    have A31 := Aside0.mk A310
                    clear A310
                    obtain rfl := Option.some.inj H
                    have hcz32_0 : wc.cell? ⟨gb305, 0, none⟩ = some (.string a0_0) := (blk_cell BK305.out 0).trans rfl
                    have hcz32_1 : wc.cell? ⟨gb305, 1, none⟩ = some (.string a0_1) := (blk_cell BK305.out 1).trans rfl
                    have hcz32_2 : wc.cell? ⟨gb305, 2, none⟩ = some (.string a0_2) := (blk_cell BK305.out 2).trans rfl
                    have hcz32_3 : wc.cell? ⟨gb305, 3, none⟩ = some (.string a0_3) := (blk_cell BK305.out 3).trans rfl
                    have hcz32_4 : wc.cell? ⟨gb305, 4, none⟩ = some (.string a0_4) := (blk_cell BK305.out 4).trans rfl
                    have hcz32_5 : wc.cell? ⟨gb305, 5, none⟩ = some (.string a0_5) := (blk_cell BK305.out 5).trans rfl
                    have hcz32_6 : wc.cell? ⟨gb305, 6, none⟩ = some (.slice A0_6 l0_6.length c0_6) := (blk_cell BK305.out 6).trans rfl
                    have hfz32_0 := blk_frozen BK305.out 0
                    have hfz32_1 := blk_frozen BK305.out 1
                    have hfz32_2 := blk_frozen BK305.out 2
                    have hfz32_3 := blk_frozen BK305.out 3
                    have hfz32_4 := blk_frozen BK305.out 4
                    have hfz32_5 := blk_frozen BK305.out 5
                    have hfz32_6 := blk_frozen BK305.out 6
                    obtain ⟨Ao33, co33, eo33⟩ := Kd.R_slice HO_3.out
                    subst eo33
                    go_wp2_with (first | ((with_reducible refine gate_callee (f := 36) rfl ?_); refine goesL_ (some 56) rfl rfl Tryd.func36 (by kernel_rfl) rfl #[.slice Ao33 y309.length co33] rfl (by (try simp only [List.map_toArray, List.map_cons, List.map_nil]); first | done | rfl | (simp only [List.length_drop, List.length_take]; rfl)) ?_; (with_reducible refine (name_Unlike.calls _ _ y309 t314 _ ?side1 ?side2 A31.out).mono ?_); (case side1 => repeat (first | exact (Kd.R_reads' HO_3.out).2.2 | (with_reducible refine Kd.C_alloc ?_ _) | (with_reducible refine Kd.C_drewN ?_ _) | (with_reducible refine Kd.C_drew ?_))); (case side2 => exact (Kd.R_reads' HO_3.out).2.1); rintro e w34 ⟨rfl, hb⟩; refine ⟨_, rfl, ?_⟩; have n0_ := Aside0.mk (Kd.R_below (by (with_reducible repeat (first | apply Kd.R_alloc | apply Kd.R_drewN | apply Kd.R_drew)); exact HO_3.out) hb); have n1_ := Aside0.mk (blk_below (g := gb305) (o := .cells #[.string a0_0, .string a0_1, .string a0_2, .string a0_3, .string a0_4, .string a0_5, .slice A0_6 l0_6.length c0_6] 42 (0, 0)) (by (with_reducible repeat (first | refine blk_drewN ?_ _ | refine blk_drew ?_ | refine blk_alloc ?_ _)); exact BK305.out) hb); have n2_ := Aside0.mk (below_step (by repeat (first | (with_reducible first | exact HB.out | apply below_alloc | apply pw_below_drewN | apply below_drew1 | refine below_set ?_ GE305.out) | exact HB.out)) hb); clear HO_3; clear BK305; clear HB; have HO_3 := n0_; have BK305 := n1_; have HB := n2_; clear n0_ n1_ n2_; (try clear hb); (try clear hb2); (try clear hk); (try clear hi)))
                    go_ret
                    exact ⟨by first | rfl | (simp [errW_none, errW_some] <;> rfl) | (simp [*, errW_none, errW_some] <;> rfl), by repeat (first | (with_reducible first | exact HB.out | apply below_alloc | apply pw_below_drewN | apply below_drew1 | refine below_set ?_ GE305.out) | exact HB.out)⟩
                  · rw [if_neg c30] at H
                    have c30b0 : (a0_5.toList == ([] : List UInt8)) = false := beq_eq_false_iff_ne.mpr c30
                    have c30b1 : (a0_5.toList != ([] : List UInt8)) = true := bne_iff_ne.mpr c30
                    obtain rfl := Option.some.inj H
                    have hcz35_0 : wc.cell? ⟨gb305, 0, none⟩ = some (.string a0_0) := (blk_cell BK305.out 0).trans rfl
                    have hcz35_1 : wc.cell? ⟨gb305, 1, none⟩ = some (.string a0_1) := (blk_cell BK305.out 1).trans rfl
                    have hcz35_2 : wc.cell? ⟨gb305, 2, none⟩ = some (.string a0_2) := (blk_cell BK305.out 2).trans rfl
                    have hcz35_3 : wc.cell? ⟨gb305, 3, none⟩ = some (.string a0_3) := (blk_cell BK305.out 3).trans rfl
                    have hcz35_4 : wc.cell? ⟨gb305, 4, none⟩ = some (.string a0_4) := (blk_cell BK305.out 4).trans rfl
                    have hcz35_5 : wc.cell? ⟨gb305, 5, none⟩ = some (.string a0_5) := (blk_cell BK305.out 5).trans rfl
                    have hcz35_6 : wc.cell? ⟨gb305, 6, none⟩ = some (.slice A0_6 l0_6.length c0_6) := (blk_cell BK305.out 6).trans rfl
                    have hfz35_0 := blk_frozen BK305.out 0
                    have hfz35_1 := blk_frozen BK305.out 1
                    have hfz35_2 := blk_frozen BK305.out 2
                    have hfz35_3 := blk_frozen BK305.out 3
                    have hfz35_4 := blk_frozen BK305.out 4
                    have hfz35_5 := blk_frozen BK305.out 5
                    have hfz35_6 := blk_frozen BK305.out 6
                    go_wp2
                    go_ret
                    exact ⟨by first | rfl | (simp [errW_none, errW_some] <;> rfl) | (simp [*, errW_none, errW_some] <;> rfl), by repeat (first | (with_reducible first | exact HB.out | apply below_alloc | apply pw_below_drewN | apply below_drew1 | refine below_set ?_ GE305.out) | exact HB.out)⟩
                · rw [if_neg c29] at H
                  have c29b0 : (a0_4.toList == ([] : List UInt8)) = false := beq_eq_false_iff_ne.mpr c29
                  have c29b1 : (a0_4.toList != ([] : List UInt8)) = true := bne_iff_ne.mpr c29
                  replace H := Option.bind_eq_some_iff.mp H
                  obtain ⟨t315, A360, H⟩ := H
                  replace H : (some t315) = some r := H
                  have A36 := Aside0.mk A360
                  clear A360
                  obtain rfl := Option.some.inj H
                  have hcz37_0 : wc.cell? ⟨gb305, 0, none⟩ = some (.string a0_0) := (blk_cell BK305.out 0).trans rfl
                  have hcz37_1 : wc.cell? ⟨gb305, 1, none⟩ = some (.string a0_1) := (blk_cell BK305.out 1).trans rfl
                  have hcz37_2 : wc.cell? ⟨gb305, 2, none⟩ = some (.string a0_2) := (blk_cell BK305.out 2).trans rfl
                  have hcz37_3 : wc.cell? ⟨gb305, 3, none⟩ = some (.string a0_3) := (blk_cell BK305.out 3).trans rfl
                  have hcz37_4 : wc.cell? ⟨gb305, 4, none⟩ = some (.string a0_4) := (blk_cell BK305.out 4).trans rfl
                  have hcz37_5 : wc.cell? ⟨gb305, 5, none⟩ = some (.string a0_5) := (blk_cell BK305.out 5).trans rfl
                  have hcz37_6 : wc.cell? ⟨gb305, 6, none⟩ = some (.slice A0_6 l0_6.length c0_6) := (blk_cell BK305.out 6).trans rfl
                  have hfz37_0 := blk_frozen BK305.out 0
                  have hfz37_1 := blk_frozen BK305.out 1
                  have hfz37_2 := blk_frozen BK305.out 2
                  have hfz37_3 := blk_frozen BK305.out 3
                  have hfz37_4 := blk_frozen BK305.out 4
                  have hfz37_5 := blk_frozen BK305.out 5
                  have hfz37_6 := blk_frozen BK305.out 6
                  obtain ⟨Ao38, co38, eo38⟩ := Kd.R_slice HO_3.out
                  subst eo38
                  go_wp2_with (first | ((with_reducible refine gate_callee (f := 36) rfl ?_); refine goesL_ (some 56) rfl rfl Tryd.func36 (by kernel_rfl) rfl #[.slice Ao38 y309.length co38] rfl (by (try simp only [List.map_toArray, List.map_cons, List.map_nil]); first | done | rfl | (simp only [List.length_drop, List.length_take]; rfl)) ?_; (with_reducible refine (name_Unlike.calls _ _ y309 t315 _ ?side1 ?side2 A36.out).mono ?_); (case side1 => repeat (first | exact (Kd.R_reads' HO_3.out).2.2 | (with_reducible refine Kd.C_alloc ?_ _) | (with_reducible refine Kd.C_drewN ?_ _) | (with_reducible refine Kd.C_drew ?_))); (case side2 => exact (Kd.R_reads' HO_3.out).2.1); rintro e w39 ⟨rfl, hb⟩; refine ⟨_, rfl, ?_⟩; have n0_ := Aside0.mk (Kd.R_below (by (with_reducible repeat (first | apply Kd.R_alloc | apply Kd.R_drewN | apply Kd.R_drew)); exact HO_3.out) hb); have n1_ := Aside0.mk (blk_below (g := gb305) (o := .cells #[.string a0_0, .string a0_1, .string a0_2, .string a0_3, .string a0_4, .string a0_5, .slice A0_6 l0_6.length c0_6] 42 (0, 0)) (by (with_reducible repeat (first | refine blk_drewN ?_ _ | refine blk_drew ?_ | refine blk_alloc ?_ _)); exact BK305.out) hb); have n2_ := Aside0.mk (below_step (by repeat (first | (with_reducible first | exact HB.out | apply below_alloc | apply pw_below_drewN | apply below_drew1 | refine below_set ?_ GE305.out) | exact HB.out)) hb); clear HO_3; clear BK305; clear HB; have HO_3 := n0_; have BK305 := n1_; have HB := n2_; clear n0_ n1_ n2_; (try clear hb); (try clear hb2); (try clear hk); (try clear hi)))
                  go_ret
                  exact ⟨by first | rfl | (simp [errW_none, errW_some] <;> rfl) | (simp [*, errW_none, errW_some] <;> rfl), by repeat (first | (with_reducible first | exact HB.out | apply below_alloc | apply pw_below_drewN | apply below_drew1 | refine below_set ?_ GE305.out) | exact HB.out)⟩
  · rw [if_neg c2] at H
    exact absurd H (by simp)

end Go.Proofs.YtmddkjmcbddhiaaDoor.P
