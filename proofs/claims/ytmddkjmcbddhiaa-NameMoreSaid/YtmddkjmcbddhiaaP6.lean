-- written by wip/tools/print2.py (a program of this session over the kit's print); not trusted: Lean checks it
import Derived.Test.YtmddkjmcbddhiaaP0
import Derived.Test.YtmddkjmcbddhiaaP2
import Derived.Test.YtmddkjmcbddhiaaP3
import Derived.Test.YtmddkjmcbddhiaaGTake
namespace Go.Proofs.Ytmddkjmcbddhiaa.P
open Go.RowKit Go.Proofs.YtmddkjmcbddhiaaW.PrintWords Go.Proofs.YtmddkjmcbddhiaaW.PrintLast Go.Proofs.YtmddkjmcbddhiaaW.PrintMore
attribute [local go_sem] max2_int min2_int max_two min_two max_three min_three max_four min_four   -- for this text's walks alone
set_option linter.unusedVariables false
set_option linter.unusedSimpArgs false

/-! ### decklelaw08_NameMore: function 5 -/
mutual
def decklelaw08_NameMore.j0 : Nat → ByteArray → Int → Bool → Bool → Option (Bool)
  | 0, _, _, _, _ => none
  | k + 1, x0, x1, x5, x20 => if x20 = true then (some x5) else ((some (([x1] : List Int) : List Int)).bind fun y173 => (if x0.size + (strOfNums y173).size ≤ 9223372036854775807 then (if x1 ≥ 65 then (if x1 ≤ 90 then (decklelaw08_NameMore.j1 k x0 x5 (x0 ++ (strOfNums y173)) true) else (if x1 ≥ 97 then (if x1 ≤ 122 then (decklelaw08_NameMore.j1 k x0 x5 (x0 ++ (strOfNums y173)) true) else (if x1 = 95 then (decklelaw08_NameMore.j1 k x0 x5 (x0 ++ (strOfNums y173)) true) else (if x1 ≥ 48 then (decklelaw08_NameMore.j1 k x0 x5 (x0 ++ (strOfNums y173)) (decide (x1 ≤ 57))) else (decklelaw08_NameMore.j1 k x0 x5 (x0 ++ (strOfNums y173)) false)))) else (if x1 = 95 then (decklelaw08_NameMore.j1 k x0 x5 (x0 ++ (strOfNums y173)) true) else (if x1 ≥ 48 then (decklelaw08_NameMore.j1 k x0 x5 (x0 ++ (strOfNums y173)) (decide (x1 ≤ 57))) else (decklelaw08_NameMore.j1 k x0 x5 (x0 ++ (strOfNums y173)) false))))) else (if x1 ≥ 97 then (if x1 ≤ 122 then (decklelaw08_NameMore.j1 k x0 x5 (x0 ++ (strOfNums y173)) true) else (if x1 = 95 then (decklelaw08_NameMore.j1 k x0 x5 (x0 ++ (strOfNums y173)) true) else (if x1 ≥ 48 then (decklelaw08_NameMore.j1 k x0 x5 (x0 ++ (strOfNums y173)) (decide (x1 ≤ 57))) else (decklelaw08_NameMore.j1 k x0 x5 (x0 ++ (strOfNums y173)) false)))) else (if x1 = 95 then (decklelaw08_NameMore.j1 k x0 x5 (x0 ++ (strOfNums y173)) true) else (if x1 ≥ 48 then (decklelaw08_NameMore.j1 k x0 x5 (x0 ++ (strOfNums y173)) (decide (x1 ≤ 57))) else (decklelaw08_NameMore.j1 k x0 x5 (x0 ++ (strOfNums y173)) false))))) else (none)))
def decklelaw08_NameMore.j1 : Nat → ByteArray → Bool → ByteArray → Bool → Option (Bool)
  | 0, _, _, _, _ => none
  | k + 1, x0, x5, x6, x7 => if x7 = true then (if x5 = true then (if (x0.size : Int) ≥ 32 then ((name_System.f x0).bind fun t176 => (some (!t176))) else ((name_Right.f x6).bind fun t177 => (if t177 = true then ((name_System.f x0).bind fun t178 => (some (!t178))) else (some false)))) else (some false)) else (if x5 = true then ((name_Right.f x6).bind fun t179 => (if t179 = true then (some false) else ((name_System.f x0).bind fun t180 => (some (!t180))))) else (some false))
end
def decklelaw08_NameMore.f (k : Nat) (a0 : ByteArray) (a1 : Int) : Option (Bool) := (decklelaw08_small.f).bind fun t171 => ((name_Right.f a0).bind fun t172 => (if t172 = true then (if (a0.size : Int) > 300 then (decklelaw08_NameMore.j0 k a0 a1 t171 true) else (decklelaw08_NameMore.j0 k a0 a1 t171 (decide (a1 ≥ 128)))) else (decklelaw08_NameMore.j0 k a0 a1 t171 true)))
theorem decklelaw08_NameMore.mono_l : ∀ k, (∀ y0 y1 y2 y3, LeO (decklelaw08_NameMore.j0 k y0 y1 y2 y3) (decklelaw08_NameMore.j0 (k + 1) y0 y1 y2 y3)) ∧ (∀ y0 y1 y2 y3, LeO (decklelaw08_NameMore.j1 k y0 y1 y2 y3) (decklelaw08_NameMore.j1 (k + 1) y0 y1 y2 y3))
  | 0 => ⟨fun _ _ _ _ r h => by simp [decklelaw08_NameMore.j0] at h, fun _ _ _ _ r h => by simp [decklelaw08_NameMore.j1] at h⟩
  | k + 1 => by
    obtain ⟨ih0, ih1⟩ := decklelaw08_NameMore.mono_l k
    refine ⟨?_, ?_⟩
    · intro y0 y1 y2 y3
      unfold decklelaw08_NameMore.j0
      repeat' first
      | (with_reducible exact ih0 _ _ _ _)
      | (with_reducible exact ih1 _ _ _ _)
      | (with_reducible exact LeO.refl _)
      | (with_reducible exact LeO.none _)
      | (with_reducible refine LeO.ite ?_ ?_)
      | (with_reducible refine LeO.bind ?_ (fun _ => ?_))
      | exact ih0 _ _ _ _
      | exact ih1 _ _ _ _
      | exact LeO.none _
      | refine LeO.ite ?_ ?_
      | refine LeO.bind ?_ (fun _ => ?_)
    · intro y0 y1 y2 y3
      unfold decklelaw08_NameMore.j1
      repeat' first
      | (with_reducible exact ih0 _ _ _ _)
      | (with_reducible exact ih1 _ _ _ _)
      | (with_reducible exact LeO.refl _)
      | (with_reducible exact LeO.none _)
      | (with_reducible refine LeO.ite ?_ ?_)
      | (with_reducible refine LeO.bind ?_ (fun _ => ?_))
      | exact ih0 _ _ _ _
      | exact ih1 _ _ _ _
      | exact LeO.none _
      | refine LeO.ite ?_ ?_
      | refine LeO.bind ?_ (fun _ => ?_)
theorem decklelaw08_NameMore.mono : ∀ a0 a1 k, LeO (decklelaw08_NameMore.f k a0 a1) (decklelaw08_NameMore.f (k + 1) a0 a1) := by
  intro a0 a1 k
  obtain ⟨ih0, ih1⟩ := decklelaw08_NameMore.mono_l k
  unfold decklelaw08_NameMore.f
  repeat' first
      | (with_reducible exact ih0 _ _ _ _)
      | (with_reducible exact ih1 _ _ _ _)
      | (with_reducible exact LeO.refl _)
      | (with_reducible exact LeO.none _)
      | (with_reducible refine LeO.ite ?_ ?_)
      | (with_reducible refine LeO.bind ?_ (fun _ => ?_))
      | exact ih0 _ _ _ _
      | exact ih1 _ _ _ _
      | exact LeO.none _
      | refine LeO.ite ?_ ?_
      | refine LeO.bind ?_ (fun _ => ?_)
set_option maxHeartbeats 8000000 in
set_option maxRecDepth 100000 in
theorem decklelaw08_NameMore.calls (k : Nat) (a0 : ByteArray) (a1 : Int) (r : Bool) (w : World) (h : decklelaw08_NameMore.f k a0 a1 = some r) :
    Calls Try.prog 5 #[.string a0, .int .u8 a1] w fun e w' => e = .returned (.bool r) ∧ Below w.heap.size w w' := by
  have HB := Aside0.mk (Below.refl w.heap.size w)
  have H : ((decklelaw08_small.f).bind fun t171 => ((name_Right.f a0).bind fun t172 => (if t172 = true then (if (a0.size : Int) > 300 then (decklelaw08_NameMore.j0 k a0 a1 t171 true) else (decklelaw08_NameMore.j0 k a0 a1 t171 (decide (a1 ≥ 128)))) else (decklelaw08_NameMore.j0 k a0 a1 t171 true)))) = some r := h
  clear h
  replace H := Option.bind_eq_some_iff.mp H
  obtain ⟨t171, A30, H⟩ := H
  replace H : ((name_Right.f a0).bind fun t172 => (if t172 = true then (if (a0.size : Int) > 300 then (decklelaw08_NameMore.j0 k a0 a1 t171 true) else (decklelaw08_NameMore.j0 k a0 a1 t171 (decide (a1 ≥ 128)))) else (decklelaw08_NameMore.j0 k a0 a1 t171 true))) = some r := H
  have A3 := Aside0.mk A30
  clear A30
  have HC4 := Aside0.mk H
  clear H
  go_enter Try.func5, Try.ntmps5
  go_upto_region 2 with (first | ((with_reducible refine gate_callee (f := 13) rfl ?_); refine goesL_ (some 8) rfl rfl Try.func13 (by kernel_rfl) rfl #[] rfl (by (try simp only [List.map_toArray, List.map_cons, List.map_nil]); first | done | rfl | (simp only [List.length_drop, List.length_take]; rfl)) ?_; (with_reducible refine (decklelaw08_small.calls  t171 _ A3.out).mono ?_); rintro e w5 ⟨rfl, hb⟩; refine ⟨_, rfl, ?_⟩; have n0_ := Aside0.mk (below_step (by repeat (first | (with_reducible first | exact HB.out | apply below_alloc | apply pw_below_drewN | apply below_drew1) | exact HB.out)) hb); clear HB; have HB := n0_; clear n0_; (try clear hb); (try clear hb2); (try clear hk); (try clear hi)))
  (try simp only [Act.put, List.setIfInBounds_toArray, List.set_cons_zero, List.set_cons_succ])
  go_cut [20] (fun v20 wc => ∃ (kq : Nat) (x20_3 : Bool), v20 = .bool x20_3 ∧ Aside0 (decklelaw08_NameMore.j0 kq a0 a1 t171 x20_3 = some r) ∧ Aside0 (kq ≤ k) ∧ Aside0 (Below w.heap.size w wc))
  case first =>
    have H := HC4.out
    clear HC4
    replace H := Option.bind_eq_some_iff.mp H
    obtain ⟨t172, A60, H⟩ := H
    replace H : (if t172 = true then (if (a0.size : Int) > 300 then (decklelaw08_NameMore.j0 k a0 a1 t171 true) else (decklelaw08_NameMore.j0 k a0 a1 t171 (decide (a1 ≥ 128)))) else (decklelaw08_NameMore.j0 k a0 a1 t171 true)) = some r := H
    have A6 := Aside0.mk A60
    clear A60
    by_cases c7 : t172 = true
    · subst c7
      have H1 : (if (a0.size : Int) > 300 then (decklelaw08_NameMore.j0 k a0 a1 t171 true) else (decklelaw08_NameMore.j0 k a0 a1 t171 (decide (a1 ≥ 128)))) = some r := by rw [if_pos rfl] at H; exact H
      clear H
      have H := H1
      clear H1
      by_cases c8 : (a0.size : Int) > 300
      · rw [if_pos c8] at H
        have c8b0 : decide (300 < (a0.size : Int)) = true := decide_eq_true c8
        have c8b1 : decide (300 < a0.size) = true := decide_eq_true (by omega)
        clear c8
        (first | rw [c8b0] | (simp only [i64_w, i32_w]; rw [c8b0]) | skip)
        have H' := Aside0.mk H
        clear H
        go_wp2_with (first | ((with_reducible refine gate_callee (f := 16) rfl ?_); refine goesL_ (some 10) rfl rfl Try.func16 (by kernel_rfl) rfl #[.string a0] rfl (by (try simp only [List.map_toArray, List.map_cons, List.map_nil]); first | done | rfl | (simp only [List.length_drop, List.length_take]; rfl)) ?_; (with_reducible refine (name_Right.calls a0 true _ A6.out).mono ?_); rintro e w9 ⟨rfl, hb⟩; refine ⟨_, rfl, ?_⟩; have n0_ := Aside0.mk (below_step (by repeat (first | (with_reducible first | exact HB.out | apply below_alloc | apply pw_below_drewN | apply below_drew1) | exact HB.out)) hb); clear HB; have HB := n0_; clear n0_; (try clear hb); (try clear hb2); (try clear hk); (try clear hi)))
        go_meet
        case rel => exact ⟨_, (true), (by first | rfl | (simp; done) | (simp [*]; done)), H', ⟨by first | omega | exact Nat.le_refl _⟩, ⟨by repeat (first | (with_reducible first | exact HB.out | apply below_alloc | apply pw_below_drewN | apply below_drew1) | exact HB.out)⟩⟩
      · rw [if_neg c8] at H
        have c8b0 : decide (300 < (a0.size : Int)) = false := decide_eq_false c8
        have c8b1 : decide (300 < a0.size) = false := decide_eq_false (by omega)
        clear c8
        (first | rw [c8b0] | (simp only [i64_w, i32_w]; rw [c8b0]) | skip)
        have H' := Aside0.mk H
        clear H
        go_wp2_with (first | ((with_reducible refine gate_callee (f := 16) rfl ?_); refine goesL_ (some 10) rfl rfl Try.func16 (by kernel_rfl) rfl #[.string a0] rfl (by (try simp only [List.map_toArray, List.map_cons, List.map_nil]); first | done | rfl | (simp only [List.length_drop, List.length_take]; rfl)) ?_; (with_reducible refine (name_Right.calls a0 true _ A6.out).mono ?_); rintro e w10 ⟨rfl, hb⟩; refine ⟨_, rfl, ?_⟩; have n0_ := Aside0.mk (below_step (by repeat (first | (with_reducible first | exact HB.out | apply below_alloc | apply pw_below_drewN | apply below_drew1) | exact HB.out)) hb); clear HB; have HB := n0_; clear n0_; (try clear hb); (try clear hb2); (try clear hk); (try clear hi)))
        go_meet
        case rel => exact ⟨_, (decide (a1 ≥ 128)), (by first | rfl | (simp; done) | (simp [*]; done)), H', ⟨by first | omega | exact Nat.le_refl _⟩, ⟨by repeat (first | (with_reducible first | exact HB.out | apply below_alloc | apply pw_below_drewN | apply below_drew1) | exact HB.out)⟩⟩
    · replace c7 := Bool.eq_false_iff.mpr c7
      subst c7
      have H1 : (decklelaw08_NameMore.j0 k a0 a1 t171 true) = some r := by rw [if_neg (show ¬ (false = true) by decide)] at H; exact H
      clear H
      have H := H1
      clear H1
      have H' := Aside0.mk H
      clear H
      go_wp2_with (first | ((with_reducible refine gate_callee (f := 16) rfl ?_); refine goesL_ (some 10) rfl rfl Try.func16 (by kernel_rfl) rfl #[.string a0] rfl (by (try simp only [List.map_toArray, List.map_cons, List.map_nil]); first | done | rfl | (simp only [List.length_drop, List.length_take]; rfl)) ?_; (with_reducible refine (name_Right.calls a0 false _ A6.out).mono ?_); rintro e w11 ⟨rfl, hb⟩; refine ⟨_, rfl, ?_⟩; have n0_ := Aside0.mk (below_step (by repeat (first | (with_reducible first | exact HB.out | apply below_alloc | apply pw_below_drewN | apply below_drew1) | exact HB.out)) hb); clear HB; have HB := n0_; clear n0_; (try clear hb); (try clear hb2); (try clear hk); (try clear hi)))
      go_meet
      case rel => exact ⟨_, (true), (by first | rfl | (simp; done) | (simp [*]; done)), H', ⟨by first | omega | exact Nat.le_refl _⟩, ⟨by repeat (first | (with_reducible first | exact HB.out | apply below_alloc | apply pw_below_drewN | apply below_drew1) | exact HB.out)⟩⟩
  case rest =>
    clear HC4
    try clear c1
    try clear p2
    try clear c5
    try clear c7
    try clear c8
    try clear c8b0
    try clear c8b1
    obtain ⟨kq, x20_3, rfl, HA, HJ3, HB⟩ := hcut
    cases kq with
    | zero => exact absurd HA.out (by simp [decklelaw08_NameMore.j0])
    | succ kj3 =>
      have H := HA.out
      clear HA
      simp only [decklelaw08_NameMore.j0] at H
      by_cases c12 : x20_3 = true
      · subst c12
        have H1 : (some t171) = some r := by rw [if_pos rfl] at H; exact H
        clear H
        have H := H1
        clear H1
        obtain rfl := Option.some.inj H
        go_wp2
        go_ret
        exact ⟨by first | rfl | (simp [errW_none, errW_some] <;> rfl) | (simp [*, errW_none, errW_some] <;> rfl), by repeat (first | (with_reducible first | exact HB.out | apply below_alloc | apply pw_below_drewN | apply below_drew1) | exact HB.out)⟩
      · replace c12 := Bool.eq_false_iff.mpr c12
        subst c12
        have H1 : ((some (([a1] : List Int) : List Int)).bind fun y173 => (if a0.size + (strOfNums y173).size ≤ 9223372036854775807 then (if a1 ≥ 65 then (if a1 ≤ 90 then (decklelaw08_NameMore.j1 kj3 a0 t171 (a0 ++ (strOfNums y173)) true) else (if a1 ≥ 97 then (if a1 ≤ 122 then (decklelaw08_NameMore.j1 kj3 a0 t171 (a0 ++ (strOfNums y173)) true) else (if a1 = 95 then (decklelaw08_NameMore.j1 kj3 a0 t171 (a0 ++ (strOfNums y173)) true) else (if a1 ≥ 48 then (decklelaw08_NameMore.j1 kj3 a0 t171 (a0 ++ (strOfNums y173)) (decide (a1 ≤ 57))) else (decklelaw08_NameMore.j1 kj3 a0 t171 (a0 ++ (strOfNums y173)) false)))) else (if a1 = 95 then (decklelaw08_NameMore.j1 kj3 a0 t171 (a0 ++ (strOfNums y173)) true) else (if a1 ≥ 48 then (decklelaw08_NameMore.j1 kj3 a0 t171 (a0 ++ (strOfNums y173)) (decide (a1 ≤ 57))) else (decklelaw08_NameMore.j1 kj3 a0 t171 (a0 ++ (strOfNums y173)) false))))) else (if a1 ≥ 97 then (if a1 ≤ 122 then (decklelaw08_NameMore.j1 kj3 a0 t171 (a0 ++ (strOfNums y173)) true) else (if a1 = 95 then (decklelaw08_NameMore.j1 kj3 a0 t171 (a0 ++ (strOfNums y173)) true) else (if a1 ≥ 48 then (decklelaw08_NameMore.j1 kj3 a0 t171 (a0 ++ (strOfNums y173)) (decide (a1 ≤ 57))) else (decklelaw08_NameMore.j1 kj3 a0 t171 (a0 ++ (strOfNums y173)) false)))) else (if a1 = 95 then (decklelaw08_NameMore.j1 kj3 a0 t171 (a0 ++ (strOfNums y173)) true) else (if a1 ≥ 48 then (decklelaw08_NameMore.j1 kj3 a0 t171 (a0 ++ (strOfNums y173)) (decide (a1 ≤ 57))) else (decklelaw08_NameMore.j1 kj3 a0 t171 (a0 ++ (strOfNums y173)) false))))) else (none))) = some r := by rw [if_neg (show ¬ (false = true) by decide)] at H; exact H
        clear H
        have H := H1
        clear H1
        obtain ⟨y173, hy173⟩ : ∃ y_ : List Int, y_ = (([a1] : List Int)) := ⟨_, rfl⟩
        replace H : (if a0.size + (strOfNums y173).size ≤ 9223372036854775807 then (if a1 ≥ 65 then (if a1 ≤ 90 then (decklelaw08_NameMore.j1 kj3 a0 t171 (a0 ++ (strOfNums y173)) true) else (if a1 ≥ 97 then (if a1 ≤ 122 then (decklelaw08_NameMore.j1 kj3 a0 t171 (a0 ++ (strOfNums y173)) true) else (if a1 = 95 then (decklelaw08_NameMore.j1 kj3 a0 t171 (a0 ++ (strOfNums y173)) true) else (if a1 ≥ 48 then (decklelaw08_NameMore.j1 kj3 a0 t171 (a0 ++ (strOfNums y173)) (decide (a1 ≤ 57))) else (decklelaw08_NameMore.j1 kj3 a0 t171 (a0 ++ (strOfNums y173)) false)))) else (if a1 = 95 then (decklelaw08_NameMore.j1 kj3 a0 t171 (a0 ++ (strOfNums y173)) true) else (if a1 ≥ 48 then (decklelaw08_NameMore.j1 kj3 a0 t171 (a0 ++ (strOfNums y173)) (decide (a1 ≤ 57))) else (decklelaw08_NameMore.j1 kj3 a0 t171 (a0 ++ (strOfNums y173)) false))))) else (if a1 ≥ 97 then (if a1 ≤ 122 then (decklelaw08_NameMore.j1 kj3 a0 t171 (a0 ++ (strOfNums y173)) true) else (if a1 = 95 then (decklelaw08_NameMore.j1 kj3 a0 t171 (a0 ++ (strOfNums y173)) true) else (if a1 ≥ 48 then (decklelaw08_NameMore.j1 kj3 a0 t171 (a0 ++ (strOfNums y173)) (decide (a1 ≤ 57))) else (decklelaw08_NameMore.j1 kj3 a0 t171 (a0 ++ (strOfNums y173)) false)))) else (if a1 = 95 then (decklelaw08_NameMore.j1 kj3 a0 t171 (a0 ++ (strOfNums y173)) true) else (if a1 ≥ 48 then (decklelaw08_NameMore.j1 kj3 a0 t171 (a0 ++ (strOfNums y173)) (decide (a1 ≤ 57))) else (decklelaw08_NameMore.j1 kj3 a0 t171 (a0 ++ (strOfNums y173)) false))))) else (none)) = some r := by first | (rw [hy173]; with_reducible exact H) | (have H2_ := (Option.bind_some _ _).symm.trans H; rw [hy173]; with_reducible exact H2_) | (have H2_ := (Option.bind_some _ _).symm.trans H; with_reducible exact H2_) | with_reducible exact H | (rw [hy173]; exact H) | exact H
        have Ny173 := Aside0.mk hy173
        clear hy173
        by_cases c13 : a0.size + (strOfNums y173).size ≤ 9223372036854775807
        · rw [if_pos c13] at H
          have c13b0 := eq_true c13
          have c13b1 : decide (a0.size + (strOfNums y173).size ≤ 9223372036854775807) = true := decide_eq_true c13
          try have c13b2 : (9223372036854775807 < a0.size + (strOfNums y173).size) = False := eq_false (Nat.not_lt.2 c13)
          have HC14 := Aside0.mk H
          clear H
          go_upto_region 5 with (first | ((with_reducible refine gate_dst (N := 24) rfl ?_); (try (refine gate_guard (by rfl) ?_; dsimp only)); refine Kd.R_lit (Kd.int .u8) _ 5 ?hg (N := 24) ?hd (xs := ([a1] : List Int)) (inner := [.int .u8 a1]) (ok := fun _ => True) (okp := fun _ => True) ?hr ?hp (fun _ hk => hk) trivial (Below.refl _ _) (Nat.le_refl _) (by simp) ?_; (case hd => rfl); (case hg => rfl); (case hr => first | (go_simp; done) | (go_simp; rfl)); (case hp => exact (Reps.one (show Kd.M (Kd.int .u8) _ _ _ a1 [.int .u8 a1] from rfl) (Reps.none _ _))); intro v174 w15 ho16 hb hg_ hnew_; clear hg_ hnew_; (first | rw [← Ny173.out] at ho16 | (simp only [Int.reduceToNat] at ho16; rw [← Ny173.out] at ho16)); have n0_ := Aside0.mk (Kd.R_lower ho16 (below_size (by repeat (first | (with_reducible first | exact HB.out | apply below_alloc | apply pw_below_drewN | apply below_drew1) | exact HB.out)))); have n1_ := Aside0.mk (below_step (by repeat (first | (with_reducible first | exact HB.out | apply below_alloc | apply pw_below_drewN | apply below_drew1) | exact HB.out)) hb); clear HB; have HO175 := n0_; have HB := n1_; clear n0_ n1_; clear hb ho16; have hcv17 := own_string (P := Try.prog) Try.underlying30 Try.underlying5 Try.underlying9 (Kd.own_of_R HO175.out)))
          (try simp only [Act.put, List.setIfInBounds_toArray, List.set_cons_zero, List.set_cons_succ])
          go_cut [7] (fun v7 wc => ∃ (kq : Nat) (x7_13 : Bool), v7 = .bool x7_13 ∧ Aside0 (decklelaw08_NameMore.j1 kq a0 t171 (a0 ++ (strOfNums y173)) x7_13 = some r) ∧ Aside0 (kq ≤ kj3) ∧ Aside0 (Below w.heap.size w wc))
          case first =>
            have H := HC14.out
            clear HC14
            by_cases c18 : a1 ≥ 65
            · rw [if_pos c18] at H
              have c18b0 : decide (65 ≤ a1) = true := decide_eq_true c18
              clear c18
              (first | rw [c18b0] | (simp only [i64_w, i32_w]; rw [c18b0]) | skip)
              by_cases c19 : a1 ≤ 90
              · rw [if_pos c19] at H
                have c19b0 : decide (a1 ≤ 90) = true := decide_eq_true c19
                clear c19
                have H' := Aside0.mk H
                clear H
                go_wp2
                go_meet
                case rel => exact ⟨_, (true), (by first | rfl | (simp; done) | (simp [*]; done)), H', ⟨by have := HJ3.out; first | omega | exact Nat.le_refl _⟩, ⟨by repeat (first | (with_reducible first | exact HB.out | apply below_alloc | apply pw_below_drewN | apply below_drew1) | exact HB.out)⟩⟩
              · rw [if_neg c19] at H
                have c19b0 : decide (a1 ≤ 90) = false := decide_eq_false c19
                clear c19
                by_cases c20 : a1 ≥ 97
                · rw [if_pos c20] at H
                  have c20b0 : decide (97 ≤ a1) = true := decide_eq_true c20
                  clear c20
                  by_cases c21 : a1 ≤ 122
                  · rw [if_pos c21] at H
                    have c21b0 : decide (a1 ≤ 122) = true := decide_eq_true c21
                    clear c21
                    have H' := Aside0.mk H
                    clear H
                    go_wp2
                    go_meet
                    case rel => exact ⟨_, (true), (by first | rfl | (simp; done) | (simp [*]; done)), H', ⟨by have := HJ3.out; first | omega | exact Nat.le_refl _⟩, ⟨by repeat (first | (with_reducible first | exact HB.out | apply below_alloc | apply pw_below_drewN | apply below_drew1) | exact HB.out)⟩⟩
                  · rw [if_neg c21] at H
                    have c21b0 : decide (a1 ≤ 122) = false := decide_eq_false c21
                    clear c21
                    by_cases c22 : a1 = 95
                    · rw [if_pos c22] at H
                      have c22b0 : (a1 == 95) = true := beq_iff_eq.mpr c22
                      have c22b1 : (a1 != 95) = false := bne_eq_false_iff_eq.mpr c22
                      clear c22
                      have H' := Aside0.mk H
                      clear H
                      go_wp2
                      go_meet
                      case rel => exact ⟨_, (true), (by first | rfl | (simp; done) | (simp [*]; done)), H', ⟨by have := HJ3.out; first | omega | exact Nat.le_refl _⟩, ⟨by repeat (first | (with_reducible first | exact HB.out | apply below_alloc | apply pw_below_drewN | apply below_drew1) | exact HB.out)⟩⟩
                    · rw [if_neg c22] at H
                      have c22b0 : (a1 == 95) = false := beq_eq_false_iff_ne.mpr c22
                      have c22b1 : (a1 != 95) = true := bne_iff_ne.mpr c22
                      by_cases c23 : a1 ≥ 48
                      · rw [if_pos c23] at H
                        have c23b0 : decide (48 ≤ a1) = true := decide_eq_true c23
                        clear c23
                        have H' := Aside0.mk H
                        clear H
                        go_wp2
                        go_meet
                        case rel => exact ⟨_, (decide (a1 ≤ 57)), (by first | rfl | (simp; done) | (simp [*]; done)), H', ⟨by have := HJ3.out; first | omega | exact Nat.le_refl _⟩, ⟨by repeat (first | (with_reducible first | exact HB.out | apply below_alloc | apply pw_below_drewN | apply below_drew1) | exact HB.out)⟩⟩
                      · rw [if_neg c23] at H
                        have c23b0 : decide (48 ≤ a1) = false := decide_eq_false c23
                        clear c23
                        have H' := Aside0.mk H
                        clear H
                        go_wp2
                        go_meet
                        case rel => exact ⟨_, (false), (by first | rfl | (simp; done) | (simp [*]; done)), H', ⟨by have := HJ3.out; first | omega | exact Nat.le_refl _⟩, ⟨by repeat (first | (with_reducible first | exact HB.out | apply below_alloc | apply pw_below_drewN | apply below_drew1) | exact HB.out)⟩⟩
                · rw [if_neg c20] at H
                  have c20b0 : decide (97 ≤ a1) = false := decide_eq_false c20
                  clear c20
                  by_cases c24 : a1 = 95
                  · rw [if_pos c24] at H
                    have c24b0 : (a1 == 95) = true := beq_iff_eq.mpr c24
                    have c24b1 : (a1 != 95) = false := bne_eq_false_iff_eq.mpr c24
                    clear c24
                    have H' := Aside0.mk H
                    clear H
                    go_wp2
                    go_meet
                    case rel => exact ⟨_, (true), (by first | rfl | (simp; done) | (simp [*]; done)), H', ⟨by have := HJ3.out; first | omega | exact Nat.le_refl _⟩, ⟨by repeat (first | (with_reducible first | exact HB.out | apply below_alloc | apply pw_below_drewN | apply below_drew1) | exact HB.out)⟩⟩
                  · rw [if_neg c24] at H
                    have c24b0 : (a1 == 95) = false := beq_eq_false_iff_ne.mpr c24
                    have c24b1 : (a1 != 95) = true := bne_iff_ne.mpr c24
                    by_cases c25 : a1 ≥ 48
                    · rw [if_pos c25] at H
                      have c25b0 : decide (48 ≤ a1) = true := decide_eq_true c25
                      clear c25
                      have H' := Aside0.mk H
                      clear H
                      go_wp2
                      go_meet
                      case rel => exact ⟨_, (decide (a1 ≤ 57)), (by first | rfl | (simp; done) | (simp [*]; done)), H', ⟨by have := HJ3.out; first | omega | exact Nat.le_refl _⟩, ⟨by repeat (first | (with_reducible first | exact HB.out | apply below_alloc | apply pw_below_drewN | apply below_drew1) | exact HB.out)⟩⟩
                    · rw [if_neg c25] at H
                      have c25b0 : decide (48 ≤ a1) = false := decide_eq_false c25
                      clear c25
                      have H' := Aside0.mk H
                      clear H
                      go_wp2
                      go_meet
                      case rel => exact ⟨_, (false), (by first | rfl | (simp; done) | (simp [*]; done)), H', ⟨by have := HJ3.out; first | omega | exact Nat.le_refl _⟩, ⟨by repeat (first | (with_reducible first | exact HB.out | apply below_alloc | apply pw_below_drewN | apply below_drew1) | exact HB.out)⟩⟩
            · rw [if_neg c18] at H
              have c18b0 : decide (65 ≤ a1) = false := decide_eq_false c18
              clear c18
              (first | rw [c18b0] | (simp only [i64_w, i32_w]; rw [c18b0]) | skip)
              by_cases c26 : a1 ≥ 97
              · rw [if_pos c26] at H
                have c26b0 : decide (97 ≤ a1) = true := decide_eq_true c26
                clear c26
                by_cases c27 : a1 ≤ 122
                · rw [if_pos c27] at H
                  have c27b0 : decide (a1 ≤ 122) = true := decide_eq_true c27
                  clear c27
                  have H' := Aside0.mk H
                  clear H
                  go_wp2
                  go_meet
                  case rel => exact ⟨_, (true), (by first | rfl | (simp; done) | (simp [*]; done)), H', ⟨by have := HJ3.out; first | omega | exact Nat.le_refl _⟩, ⟨by repeat (first | (with_reducible first | exact HB.out | apply below_alloc | apply pw_below_drewN | apply below_drew1) | exact HB.out)⟩⟩
                · rw [if_neg c27] at H
                  have c27b0 : decide (a1 ≤ 122) = false := decide_eq_false c27
                  clear c27
                  by_cases c28 : a1 = 95
                  · rw [if_pos c28] at H
                    have c28b0 : (a1 == 95) = true := beq_iff_eq.mpr c28
                    have c28b1 : (a1 != 95) = false := bne_eq_false_iff_eq.mpr c28
                    clear c28
                    have H' := Aside0.mk H
                    clear H
                    go_wp2
                    go_meet
                    case rel => exact ⟨_, (true), (by first | rfl | (simp; done) | (simp [*]; done)), H', ⟨by have := HJ3.out; first | omega | exact Nat.le_refl _⟩, ⟨by repeat (first | (with_reducible first | exact HB.out | apply below_alloc | apply pw_below_drewN | apply below_drew1) | exact HB.out)⟩⟩
                  · rw [if_neg c28] at H
                    have c28b0 : (a1 == 95) = false := beq_eq_false_iff_ne.mpr c28
                    have c28b1 : (a1 != 95) = true := bne_iff_ne.mpr c28
                    by_cases c29 : a1 ≥ 48
                    · rw [if_pos c29] at H
                      have c29b0 : decide (48 ≤ a1) = true := decide_eq_true c29
                      clear c29
                      have H' := Aside0.mk H
                      clear H
                      go_wp2
                      go_meet
                      case rel => exact ⟨_, (decide (a1 ≤ 57)), (by first | rfl | (simp; done) | (simp [*]; done)), H', ⟨by have := HJ3.out; first | omega | exact Nat.le_refl _⟩, ⟨by repeat (first | (with_reducible first | exact HB.out | apply below_alloc | apply pw_below_drewN | apply below_drew1) | exact HB.out)⟩⟩
                    · rw [if_neg c29] at H
                      have c29b0 : decide (48 ≤ a1) = false := decide_eq_false c29
                      clear c29
                      have H' := Aside0.mk H
                      clear H
                      go_wp2
                      go_meet
                      case rel => exact ⟨_, (false), (by first | rfl | (simp; done) | (simp [*]; done)), H', ⟨by have := HJ3.out; first | omega | exact Nat.le_refl _⟩, ⟨by repeat (first | (with_reducible first | exact HB.out | apply below_alloc | apply pw_below_drewN | apply below_drew1) | exact HB.out)⟩⟩
              · rw [if_neg c26] at H
                have c26b0 : decide (97 ≤ a1) = false := decide_eq_false c26
                clear c26
                by_cases c30 : a1 = 95
                · rw [if_pos c30] at H
                  have c30b0 : (a1 == 95) = true := beq_iff_eq.mpr c30
                  have c30b1 : (a1 != 95) = false := bne_eq_false_iff_eq.mpr c30
                  clear c30
                  have H' := Aside0.mk H
                  clear H
                  go_wp2
                  go_meet
                  case rel => exact ⟨_, (true), (by first | rfl | (simp; done) | (simp [*]; done)), H', ⟨by have := HJ3.out; first | omega | exact Nat.le_refl _⟩, ⟨by repeat (first | (with_reducible first | exact HB.out | apply below_alloc | apply pw_below_drewN | apply below_drew1) | exact HB.out)⟩⟩
                · rw [if_neg c30] at H
                  have c30b0 : (a1 == 95) = false := beq_eq_false_iff_ne.mpr c30
                  have c30b1 : (a1 != 95) = true := bne_iff_ne.mpr c30
                  by_cases c31 : a1 ≥ 48
                  · rw [if_pos c31] at H
                    have c31b0 : decide (48 ≤ a1) = true := decide_eq_true c31
                    clear c31
                    have H' := Aside0.mk H
                    clear H
                    go_wp2
                    go_meet
                    case rel => exact ⟨_, (decide (a1 ≤ 57)), (by first | rfl | (simp; done) | (simp [*]; done)), H', ⟨by have := HJ3.out; first | omega | exact Nat.le_refl _⟩, ⟨by repeat (first | (with_reducible first | exact HB.out | apply below_alloc | apply pw_below_drewN | apply below_drew1) | exact HB.out)⟩⟩
                  · rw [if_neg c31] at H
                    have c31b0 : decide (48 ≤ a1) = false := decide_eq_false c31
                    clear c31
                    have H' := Aside0.mk H
                    clear H
                    go_wp2
                    go_meet
                    case rel => exact ⟨_, (false), (by first | rfl | (simp; done) | (simp [*]; done)), H', ⟨by have := HJ3.out; first | omega | exact Nat.le_refl _⟩, ⟨by repeat (first | (with_reducible first | exact HB.out | apply below_alloc | apply pw_below_drewN | apply below_drew1) | exact HB.out)⟩⟩
          case rest =>
            clear HC14
            try clear c1
            try clear hcv1
            try clear c2
            try clear p2
            try clear c3
            try clear c5
            try clear c7
            try clear c8
            try clear c8b0
            try clear c8b1
            try clear c12
            try clear c13
            try clear c13b0
            try clear c13b1
            try clear c13b2
            try clear c16
            try clear hcv17
            try clear c18
            try clear c18b0
            try clear c19
            try clear c19b0
            try clear c20
            try clear c20b0
            try clear c21
            try clear c21b0
            try clear c22
            try clear c22b0
            try clear c22b1
            try clear c23
            try clear c23b0
            try clear c24
            try clear c24b0
            try clear c24b1
            try clear c25
            try clear c25b0
            try clear c26
            try clear c26b0
            try clear c27
            try clear c27b0
            try clear c28
            try clear c28b0
            try clear c28b1
            try clear c29
            try clear c29b0
            try clear c30
            try clear c30b0
            try clear c30b1
            try clear c31
            try clear c31b0
            try clear p2
            obtain ⟨kq, x7_13, rfl, HA, HJ13, HB⟩ := hcut
            cases kq with
            | zero => exact absurd HA.out (by simp [decklelaw08_NameMore.j1])
            | succ kj13 =>
              have H := HA.out
              clear HA
              simp only [decklelaw08_NameMore.j1] at H
              by_cases c32 : x7_13 = true
              · subst c32
                have H1 : (if t171 = true then (if (a0.size : Int) ≥ 32 then ((name_System.f a0).bind fun t176 => (some (!t176))) else ((name_Right.f (a0 ++ (strOfNums y173))).bind fun t177 => (if t177 = true then ((name_System.f a0).bind fun t178 => (some (!t178))) else (some false)))) else (some false)) = some r := by rw [if_pos rfl] at H; exact H
                clear H
                have H := H1
                clear H1
                by_cases c33 : t171 = true
                · subst c33
                  have H1 : (if (a0.size : Int) ≥ 32 then ((name_System.f a0).bind fun t176 => (some (!t176))) else ((name_Right.f (a0 ++ (strOfNums y173))).bind fun t177 => (if t177 = true then ((name_System.f a0).bind fun t178 => (some (!t178))) else (some false)))) = some r := by rw [if_pos rfl] at H; exact H
                  clear H
                  have H := H1
                  clear H1
                  by_cases c34 : (a0.size : Int) ≥ 32
                  · rw [if_pos c34] at H
                    have c34b0 : decide (32 ≤ (a0.size : Int)) = true := decide_eq_true c34
                    have c34b1 : decide (32 ≤ a0.size) = true := decide_eq_true (by omega)
                    clear c34
                    replace H := Option.bind_eq_some_iff.mp H
                    obtain ⟨t176, A350, H⟩ := H
                    replace H : (some (!t176)) = some r := H
                    have A35 := Aside0.mk A350
                    clear A350
                    obtain rfl := Option.some.inj H
                    go_wp2_with (first | (go_at_call 18; (with_reducible refine (name_System.calls a0 t176 _ A35.out).mono ?_); rintro e w' ⟨rfl, ⟨nd, rfl⟩⟩))
                    go_ret
                    exact ⟨by first | rfl | (simp [errW_none, errW_some] <;> rfl) | (simp [*, errW_none, errW_some] <;> rfl), by repeat (first | (with_reducible first | exact HB.out | apply below_alloc | apply pw_below_drewN | apply below_drew1) | exact HB.out)⟩
                  · rw [if_neg c34] at H
                    have c34b0 : decide (32 ≤ (a0.size : Int)) = false := decide_eq_false c34
                    have c34b1 : decide (32 ≤ a0.size) = false := decide_eq_false (by omega)
                    clear c34
                    replace H := Option.bind_eq_some_iff.mp H
                    obtain ⟨t177, A360, H⟩ := H
                    replace H : (if t177 = true then ((name_System.f a0).bind fun t178 => (some (!t178))) else (some false)) = some r := H
                    have A36 := Aside0.mk A360
                    clear A360
                    by_cases c37 : t177 = true
                    · subst c37
                      have H1 : ((name_System.f a0).bind fun t178 => (some (!t178))) = some r := by rw [if_pos rfl] at H; exact H
                      clear H
                      have H := H1
                      clear H1
                      replace H := Option.bind_eq_some_iff.mp H
                      obtain ⟨t178, A380, H⟩ := H
                      replace H : (some (!t178)) = some r := H
                      have A38 := Aside0.mk A380
                      clear A380
                      obtain rfl := Option.some.inj H
                      go_wp2_with (first | (go_at_call 16; (with_reducible refine (name_Right.calls (a0 ++ (strOfNums y173)) true _ A36.out).mono ?_); rintro e w39 ⟨rfl, hb⟩; have n0_ := Aside0.mk (below_step (by repeat (first | (with_reducible first | exact HB.out | apply below_alloc | apply pw_below_drewN | apply below_drew1) | exact HB.out)) hb); clear HB; have HB := n0_; clear n0_; (try clear hb); (try clear hb2); (try clear hk); (try clear hi)) | (go_at_call 18; (with_reducible refine (name_System.calls a0 t178 _ A38.out).mono ?_); rintro e w' ⟨rfl, ⟨nd, rfl⟩⟩))
                      go_ret
                      exact ⟨by first | rfl | (simp [errW_none, errW_some] <;> rfl) | (simp [*, errW_none, errW_some] <;> rfl), by repeat (first | (with_reducible first | exact HB.out | apply below_alloc | apply pw_below_drewN | apply below_drew1) | exact HB.out)⟩
                    · replace c37 := Bool.eq_false_iff.mpr c37
                      subst c37
                      have H1 : (some false) = some r := by rw [if_neg (show ¬ (false = true) by decide)] at H; exact H
                      clear H
                      have H := H1
                      clear H1
                      obtain rfl := Option.some.inj H
                      go_wp2_with (first | (go_at_call 16; (with_reducible refine (name_Right.calls (a0 ++ (strOfNums y173)) false _ A36.out).mono ?_); rintro e w40 ⟨rfl, hb⟩; have n0_ := Aside0.mk (below_step (by repeat (first | (with_reducible first | exact HB.out | apply below_alloc | apply pw_below_drewN | apply below_drew1) | exact HB.out)) hb); clear HB; have HB := n0_; clear n0_; (try clear hb); (try clear hb2); (try clear hk); (try clear hi)))
                      go_ret
                      exact ⟨by first | rfl | (simp [errW_none, errW_some] <;> rfl) | (simp [*, errW_none, errW_some] <;> rfl), by repeat (first | (with_reducible first | exact HB.out | apply below_alloc | apply pw_below_drewN | apply below_drew1) | exact HB.out)⟩
                · replace c33 := Bool.eq_false_iff.mpr c33
                  subst c33
                  have H1 : (some false) = some r := by rw [if_neg (show ¬ (false = true) by decide)] at H; exact H
                  clear H
                  have H := H1
                  clear H1
                  obtain rfl := Option.some.inj H
                  go_wp2
                  go_ret
                  exact ⟨by first | rfl | (simp [errW_none, errW_some] <;> rfl) | (simp [*, errW_none, errW_some] <;> rfl), by repeat (first | (with_reducible first | exact HB.out | apply below_alloc | apply pw_below_drewN | apply below_drew1) | exact HB.out)⟩
              · replace c32 := Bool.eq_false_iff.mpr c32
                subst c32
                have H1 : (if t171 = true then ((name_Right.f (a0 ++ (strOfNums y173))).bind fun t179 => (if t179 = true then (some false) else ((name_System.f a0).bind fun t180 => (some (!t180))))) else (some false)) = some r := by rw [if_neg (show ¬ (false = true) by decide)] at H; exact H
                clear H
                have H := H1
                clear H1
                by_cases c41 : t171 = true
                · subst c41
                  have H1 : ((name_Right.f (a0 ++ (strOfNums y173))).bind fun t179 => (if t179 = true then (some false) else ((name_System.f a0).bind fun t180 => (some (!t180))))) = some r := by rw [if_pos rfl] at H; exact H
                  clear H
                  have H := H1
                  clear H1
                  replace H := Option.bind_eq_some_iff.mp H
                  obtain ⟨t179, A420, H⟩ := H
                  replace H : (if t179 = true then (some false) else ((name_System.f a0).bind fun t180 => (some (!t180)))) = some r := H
                  have A42 := Aside0.mk A420
                  clear A420
                  by_cases c43 : t179 = true
                  · subst c43
                    have H1 : (some false) = some r := by rw [if_pos rfl] at H; exact H
                    clear H
                    have H := H1
                    clear H1
                    obtain rfl := Option.some.inj H
                    go_wp2_with (first | (go_at_call 16; (with_reducible refine (name_Right.calls (a0 ++ (strOfNums y173)) true _ A42.out).mono ?_); rintro e w44 ⟨rfl, hb⟩; have n0_ := Aside0.mk (below_step (by repeat (first | (with_reducible first | exact HB.out | apply below_alloc | apply pw_below_drewN | apply below_drew1) | exact HB.out)) hb); clear HB; have HB := n0_; clear n0_; (try clear hb); (try clear hb2); (try clear hk); (try clear hi)))
                    go_ret
                    exact ⟨by first | rfl | (simp [errW_none, errW_some] <;> rfl) | (simp [*, errW_none, errW_some] <;> rfl), by repeat (first | (with_reducible first | exact HB.out | apply below_alloc | apply pw_below_drewN | apply below_drew1) | exact HB.out)⟩
                  · replace c43 := Bool.eq_false_iff.mpr c43
                    subst c43
                    have H1 : ((name_System.f a0).bind fun t180 => (some (!t180))) = some r := by rw [if_neg (show ¬ (false = true) by decide)] at H; exact H
                    clear H
                    have H := H1
                    clear H1
                    replace H := Option.bind_eq_some_iff.mp H
                    obtain ⟨t180, A450, H⟩ := H
                    replace H : (some (!t180)) = some r := H
                    have A45 := Aside0.mk A450
                    clear A450
                    obtain rfl := Option.some.inj H
                    go_wp2_with (first | (go_at_call 16; (with_reducible refine (name_Right.calls (a0 ++ (strOfNums y173)) false _ A42.out).mono ?_); rintro e w46 ⟨rfl, hb⟩; have n0_ := Aside0.mk (below_step (by repeat (first | (with_reducible first | exact HB.out | apply below_alloc | apply pw_below_drewN | apply below_drew1) | exact HB.out)) hb); clear HB; have HB := n0_; clear n0_; (try clear hb); (try clear hb2); (try clear hk); (try clear hi)) | (go_at_call 18; (with_reducible refine (name_System.calls a0 t180 _ A45.out).mono ?_); rintro e w' ⟨rfl, ⟨nd, rfl⟩⟩))
                    go_ret
                    exact ⟨by first | rfl | (simp [errW_none, errW_some] <;> rfl) | (simp [*, errW_none, errW_some] <;> rfl), by repeat (first | (with_reducible first | exact HB.out | apply below_alloc | apply pw_below_drewN | apply below_drew1) | exact HB.out)⟩
                · replace c41 := Bool.eq_false_iff.mpr c41
                  subst c41
                  have H1 : (some false) = some r := by rw [if_neg (show ¬ (false = true) by decide)] at H; exact H
                  clear H
                  have H := H1
                  clear H1
                  obtain rfl := Option.some.inj H
                  go_wp2
                  go_ret
                  exact ⟨by first | rfl | (simp [errW_none, errW_some] <;> rfl) | (simp [*, errW_none, errW_some] <;> rfl), by repeat (first | (with_reducible first | exact HB.out | apply below_alloc | apply pw_below_drewN | apply below_drew1) | exact HB.out)⟩
        · rw [if_neg c13] at H
          exact absurd H (by simp)

/-- THE ONE PURE STATEMENT of decklelaw08_NameMore: yours. -/
def decklelaw08_NameMore.Pure : Prop := ∀ (a0 : ByteArray) (a1 : Int), a0.size ≤ 140737488351232 → (Lit.int .u8 a1).wf = true → ∃ k, decklelaw08_NameMore.f k a0 a1 = some true
theorem decklelaw08_NameMore.walk (P : decklelaw08_NameMore.Pure) (a0 : ByteArray) (a1 : Int) (w : World) (w0 : a0.size ≤ 140737488351232) (w1 : (Lit.int .u8 a1).wf = true) :
    Calls Try.prog 5 #[.string a0, .int .u8 a1] w fun e w' => e = .returned (.bool true) ∧ Below w.heap.size w w' := by
  obtain ⟨k, h⟩ := P a0 a1 w0 w1
  refine (decklelaw08_NameMore.calls k a0 a1 true w h).mono ?_
  rintro e w' ⟨rfl, hd⟩
  exact ⟨rfl, hd⟩

-- NOT PRINTED: function 6 (decklelaw08_NameUnlike)

/-! ### decklelaw08_NameSystem: function 7 -/
def decklelaw08_NameSystem.j0 : Nat → ByteArray → ByteArray → Bool → Bool → Option (Bool)
  | 0, _, _, _, _ => none
  | k + 1, x0, x1, x5, x21 => if x21 = true then (some x5) else ((name_Take.f x0).bind fun bt224 => (if x5 = true then ((name_Right.f x0).bind fun t226 => (if t226 = true then (some false) else (if bt224.1.toList = ([] : List UInt8) then (if bt224.2.toList = x0.toList then (if (x0.size : Int) = 5 then (if 0 ≤ 4 then (if 4 ≤ (x0.size : Int) then ((name_System.f (x0.extract 0 4)).bind fun t227 => (if t227 = true then (some false) else (if x1.toList = ([] : List UInt8) then (if 3 ≤ (x0.size : Int) then ((name_Right.f (x0.extract 3 x0.size)).bind fun t228 => (some t228)) else (none)) else (if x0.size + x1.size ≤ 9223372036854775807 then ((name_System.f (x0 ++ x1)).bind fun t229 => (if t229 = true then (some false) else (if 3 ≤ (x0.size : Int) then ((name_Right.f (x0.extract 3 x0.size)).bind fun t230 => (some t230)) else (none)))) else (none))))) else (none)) else (none)) else (some false)) else (some false)) else (some false)))) else (some false)))
def decklelaw08_NameSystem.f (k : Nat) (a0 : ByteArray) (a1 : ByteArray) : Option (Bool) := (decklelaw08_small.f).bind fun t222 => (if (a0.size : Int) > 100 then (decklelaw08_NameSystem.j0 k a0 a1 t222 true) else (if (a1.size : Int) > 100 then (decklelaw08_NameSystem.j0 k a0 a1 t222 true) else ((name_System.f a0).bind fun t223 => (decklelaw08_NameSystem.j0 k a0 a1 t222 (!t223)))))
theorem decklelaw08_NameSystem.mono_l : ∀ k, (∀ y0 y1 y2 y3, LeO (decklelaw08_NameSystem.j0 k y0 y1 y2 y3) (decklelaw08_NameSystem.j0 (k + 1) y0 y1 y2 y3))
  | 0 => fun _ _ _ _ r h => by simp [decklelaw08_NameSystem.j0] at h
  | k + 1 => by
    have ih0 := decklelaw08_NameSystem.mono_l k
    · intro y0 y1 y2 y3
      unfold decklelaw08_NameSystem.j0
      repeat' first
      | (with_reducible exact ih0 _ _ _ _)
      | (with_reducible exact LeO.refl _)
      | (with_reducible exact LeO.none _)
      | (with_reducible refine LeO.ite ?_ ?_)
      | (with_reducible refine LeO.bind ?_ (fun _ => ?_))
      | exact ih0 _ _ _ _
      | exact LeO.none _
      | refine LeO.ite ?_ ?_
      | refine LeO.bind ?_ (fun _ => ?_)
theorem decklelaw08_NameSystem.mono : ∀ a0 a1 k, LeO (decklelaw08_NameSystem.f k a0 a1) (decklelaw08_NameSystem.f (k + 1) a0 a1) := by
  intro a0 a1 k
  have ih0 := decklelaw08_NameSystem.mono_l k
  unfold decklelaw08_NameSystem.f
  repeat' first
      | (with_reducible exact ih0 _ _ _ _)
      | (with_reducible exact LeO.refl _)
      | (with_reducible exact LeO.none _)
      | (with_reducible refine LeO.ite ?_ ?_)
      | (with_reducible refine LeO.bind ?_ (fun _ => ?_))
      | exact ih0 _ _ _ _
      | exact LeO.none _
      | refine LeO.ite ?_ ?_
      | refine LeO.bind ?_ (fun _ => ?_)
set_option maxHeartbeats 8000000 in
set_option maxRecDepth 100000 in
theorem decklelaw08_NameSystem.calls (k : Nat) (a0 : ByteArray) (a1 : ByteArray) (r : Bool) (w : World) (h : decklelaw08_NameSystem.f k a0 a1 = some r) :
    Calls Try.prog 7 #[.string a0, .string a1] w fun e w' => e = .returned (.bool r) ∧ Below w.heap.size w w' := by
  have HB := Aside0.mk (Below.refl w.heap.size w)
  have H : ((decklelaw08_small.f).bind fun t222 => (if (a0.size : Int) > 100 then (decklelaw08_NameSystem.j0 k a0 a1 t222 true) else (if (a1.size : Int) > 100 then (decklelaw08_NameSystem.j0 k a0 a1 t222 true) else ((name_System.f a0).bind fun t223 => (decklelaw08_NameSystem.j0 k a0 a1 t222 (!t223)))))) = some r := h
  clear h
  replace H := Option.bind_eq_some_iff.mp H
  obtain ⟨t222, A30, H⟩ := H
  replace H : (if (a0.size : Int) > 100 then (decklelaw08_NameSystem.j0 k a0 a1 t222 true) else (if (a1.size : Int) > 100 then (decklelaw08_NameSystem.j0 k a0 a1 t222 true) else ((name_System.f a0).bind fun t223 => (decklelaw08_NameSystem.j0 k a0 a1 t222 (!t223))))) = some r := H
  have A3 := Aside0.mk A30
  clear A30
  have HC4 := Aside0.mk H
  clear H
  go_enter Try.func7, Try.ntmps7
  go_upto_region 2 with (first | ((with_reducible refine gate_callee (f := 13) rfl ?_); refine goesL_ (some 8) rfl rfl Try.func13 (by kernel_rfl) rfl #[] rfl (by (try simp only [List.map_toArray, List.map_cons, List.map_nil]); first | done | rfl | (simp only [List.length_drop, List.length_take]; rfl)) ?_; (with_reducible refine (decklelaw08_small.calls  t222 _ A3.out).mono ?_); rintro e w5 ⟨rfl, hb⟩; refine ⟨_, rfl, ?_⟩; have n0_ := Aside0.mk (below_step (by repeat (first | (with_reducible first | exact HB.out | apply below_alloc | apply pw_below_drewN | apply below_drew1) | exact HB.out)) hb); clear HB; have HB := n0_; clear n0_; (try clear hb); (try clear hb2); (try clear hk); (try clear hi)))
  (try simp only [Act.put, List.setIfInBounds_toArray, List.set_cons_zero, List.set_cons_succ])
  go_cut [21] (fun v21 wc => ∃ (kq : Nat) (x21_3 : Bool), v21 = .bool x21_3 ∧ Aside0 (decklelaw08_NameSystem.j0 kq a0 a1 t222 x21_3 = some r) ∧ Aside0 (kq ≤ k) ∧ Aside0 (Below w.heap.size w wc))
  case first =>
    have H := HC4.out
    clear HC4
    by_cases c6 : (a0.size : Int) > 100
    · rw [if_pos c6] at H
      have c6b0 : decide (100 < (a0.size : Int)) = true := decide_eq_true c6
      have c6b1 : decide (100 < a0.size) = true := decide_eq_true (by omega)
      clear c6
      (first | rw [c6b0] | (simp only [i64_w, i32_w]; rw [c6b0]) | skip)
      have H' := Aside0.mk H
      clear H
      go_wp2
      go_meet
      case rel => exact ⟨_, (true), (by first | rfl | (simp; done) | (simp [*]; done)), H', ⟨by first | omega | exact Nat.le_refl _⟩, ⟨by repeat (first | (with_reducible first | exact HB.out | apply below_alloc | apply pw_below_drewN | apply below_drew1) | exact HB.out)⟩⟩
    · rw [if_neg c6] at H
      have c6b0 : decide (100 < (a0.size : Int)) = false := decide_eq_false c6
      have c6b1 : decide (100 < a0.size) = false := decide_eq_false (by omega)
      clear c6
      (first | rw [c6b0] | (simp only [i64_w, i32_w]; rw [c6b0]) | skip)
      by_cases c7 : (a1.size : Int) > 100
      · rw [if_pos c7] at H
        have c7b0 : decide (100 < (a1.size : Int)) = true := decide_eq_true c7
        have c7b1 : decide (100 < a1.size) = true := decide_eq_true (by omega)
        clear c7
        have H' := Aside0.mk H
        clear H
        go_wp2
        go_meet
        case rel => exact ⟨_, (true), (by first | rfl | (simp; done) | (simp [*]; done)), H', ⟨by first | omega | exact Nat.le_refl _⟩, ⟨by repeat (first | (with_reducible first | exact HB.out | apply below_alloc | apply pw_below_drewN | apply below_drew1) | exact HB.out)⟩⟩
      · rw [if_neg c7] at H
        have c7b0 : decide (100 < (a1.size : Int)) = false := decide_eq_false c7
        have c7b1 : decide (100 < a1.size) = false := decide_eq_false (by omega)
        clear c7
        replace H := Option.bind_eq_some_iff.mp H
        obtain ⟨t223, A80, H⟩ := H
        replace H : (decklelaw08_NameSystem.j0 k a0 a1 t222 (!t223)) = some r := H
        have A8 := Aside0.mk A80
        clear A80
        have H' := Aside0.mk H
        clear H
        go_wp2_with (first | (go_at_call 18; (with_reducible refine (name_System.calls a0 t223 _ A8.out).mono ?_); rintro e w' ⟨rfl, ⟨nd, rfl⟩⟩))
        go_meet
        case rel => exact ⟨_, (!t223), (by first | rfl | (simp; done) | (simp [*]; done)), H', ⟨by first | omega | exact Nat.le_refl _⟩, ⟨by repeat (first | (with_reducible first | exact HB.out | apply below_alloc | apply pw_below_drewN | apply below_drew1) | exact HB.out)⟩⟩
  case rest =>
    clear HC4
    try clear c1
    try clear p2
    try clear c6
    try clear c6b0
    try clear c6b1
    try clear c7
    try clear c7b0
    try clear c7b1
    obtain ⟨kq, x21_3, rfl, HA, HJ3, HB⟩ := hcut
    cases kq with
    | zero => exact absurd HA.out (by simp [decklelaw08_NameSystem.j0])
    | succ kj3 =>
      have H := HA.out
      clear HA
      simp only [decklelaw08_NameSystem.j0] at H
      by_cases c9 : x21_3 = true
      · subst c9
        have H1 : (some t222) = some r := by rw [if_pos rfl] at H; exact H
        clear H
        have H := H1
        clear H1
        obtain rfl := Option.some.inj H
        go_wp2
        go_ret
        exact ⟨by first | rfl | (simp [errW_none, errW_some] <;> rfl) | (simp [*, errW_none, errW_some] <;> rfl), by repeat (first | (with_reducible first | exact HB.out | apply below_alloc | apply pw_below_drewN | apply below_drew1) | exact HB.out)⟩
      · replace c9 := Bool.eq_false_iff.mpr c9
        subst c9
        have H1 : ((name_Take.f a0).bind fun bt224 => (if t222 = true then ((name_Right.f a0).bind fun t226 => (if t226 = true then (some false) else (if bt224.1.toList = ([] : List UInt8) then (if bt224.2.toList = a0.toList then (if (a0.size : Int) = 5 then (if 0 ≤ 4 then (if 4 ≤ (a0.size : Int) then ((name_System.f (a0.extract 0 4)).bind fun t227 => (if t227 = true then (some false) else (if a1.toList = ([] : List UInt8) then (if 3 ≤ (a0.size : Int) then ((name_Right.f (a0.extract 3 a0.size)).bind fun t228 => (some t228)) else (none)) else (if a0.size + a1.size ≤ 9223372036854775807 then ((name_System.f (a0 ++ a1)).bind fun t229 => (if t229 = true then (some false) else (if 3 ≤ (a0.size : Int) then ((name_Right.f (a0.extract 3 a0.size)).bind fun t230 => (some t230)) else (none)))) else (none))))) else (none)) else (none)) else (some false)) else (some false)) else (some false)))) else (some false))) = some r := by rw [if_neg (show ¬ (false = true) by decide)] at H; exact H
        clear H
        have H := H1
        clear H1
        replace H := Option.bind_eq_some_iff.mp H
        obtain ⟨⟨t224, t225⟩, A100, H⟩ := H
        replace H : (if t222 = true then ((name_Right.f a0).bind fun t226 => (if t226 = true then (some false) else (if t224.toList = ([] : List UInt8) then (if t225.toList = a0.toList then (if (a0.size : Int) = 5 then (if 0 ≤ 4 then (if 4 ≤ (a0.size : Int) then ((name_System.f (a0.extract 0 4)).bind fun t227 => (if t227 = true then (some false) else (if a1.toList = ([] : List UInt8) then (if 3 ≤ (a0.size : Int) then ((name_Right.f (a0.extract 3 a0.size)).bind fun t228 => (some t228)) else (none)) else (if a0.size + a1.size ≤ 9223372036854775807 then ((name_System.f (a0 ++ a1)).bind fun t229 => (if t229 = true then (some false) else (if 3 ≤ (a0.size : Int) then ((name_Right.f (a0.extract 3 a0.size)).bind fun t230 => (some t230)) else (none)))) else (none))))) else (none)) else (none)) else (some false)) else (some false)) else (some false)))) else (some false)) = some r := H
        have A10 := Aside0.mk A100
        clear A100
        by_cases c11 : t222 = true
        · subst c11
          have H1 : ((name_Right.f a0).bind fun t226 => (if t226 = true then (some false) else (if t224.toList = ([] : List UInt8) then (if t225.toList = a0.toList then (if (a0.size : Int) = 5 then (if 0 ≤ 4 then (if 4 ≤ (a0.size : Int) then ((name_System.f (a0.extract 0 4)).bind fun t227 => (if t227 = true then (some false) else (if a1.toList = ([] : List UInt8) then (if 3 ≤ (a0.size : Int) then ((name_Right.f (a0.extract 3 a0.size)).bind fun t228 => (some t228)) else (none)) else (if a0.size + a1.size ≤ 9223372036854775807 then ((name_System.f (a0 ++ a1)).bind fun t229 => (if t229 = true then (some false) else (if 3 ≤ (a0.size : Int) then ((name_Right.f (a0.extract 3 a0.size)).bind fun t230 => (some t230)) else (none)))) else (none))))) else (none)) else (none)) else (some false)) else (some false)) else (some false)))) = some r := by rw [if_pos rfl] at H; exact H
          clear H
          have H := H1
          clear H1
          replace H := Option.bind_eq_some_iff.mp H
          obtain ⟨t226, A120, H⟩ := H
          replace H : (if t226 = true then (some false) else (if t224.toList = ([] : List UInt8) then (if t225.toList = a0.toList then (if (a0.size : Int) = 5 then (if 0 ≤ 4 then (if 4 ≤ (a0.size : Int) then ((name_System.f (a0.extract 0 4)).bind fun t227 => (if t227 = true then (some false) else (if a1.toList = ([] : List UInt8) then (if 3 ≤ (a0.size : Int) then ((name_Right.f (a0.extract 3 a0.size)).bind fun t228 => (some t228)) else (none)) else (if a0.size + a1.size ≤ 9223372036854775807 then ((name_System.f (a0 ++ a1)).bind fun t229 => (if t229 = true then (some false) else (if 3 ≤ (a0.size : Int) then ((name_Right.f (a0.extract 3 a0.size)).bind fun t230 => (some t230)) else (none)))) else (none))))) else (none)) else (none)) else (some false)) else (some false)) else (some false))) = some r := H
          have A12 := Aside0.mk A120
          clear A120
          by_cases c13 : t226 = true
          · subst c13
            have H1 : (some false) = some r := by rw [if_pos rfl] at H; exact H
            clear H
            have H := H1
            clear H1
            obtain rfl := Option.some.inj H
            go_wp2_with (first | ((with_reducible refine gate_callee (f := 14) rfl ?_); refine goesL_ (some 25) rfl rfl Try.func14 (by kernel_rfl) rfl #[.string a0] rfl (by (try simp only [List.map_toArray, List.map_cons, List.map_nil]); first | done | rfl | (simp only [List.length_drop, List.length_take]; rfl)) ?_; (with_reducible refine (name_Take.calls a0 t224 t225 _ A10.out).mono ?_); rintro e w14 ⟨rfl, hb⟩; refine ⟨_, rfl, ?_⟩; have n0_ := Aside0.mk (below_step (by repeat (first | (with_reducible first | exact HB.out | apply below_alloc | apply pw_below_drewN | apply below_drew1) | exact HB.out)) hb); clear HB; have HB := n0_; clear n0_; (try clear hb); (try clear hb2); (try clear hk); (try clear hi)) | (go_at_call 16; (with_reducible refine (name_Right.calls a0 true _ A12.out).mono ?_); rintro e w15 ⟨rfl, hb⟩; have n0_ := Aside0.mk (below_step (by repeat (first | (with_reducible first | exact HB.out | apply below_alloc | apply pw_below_drewN | apply below_drew1) | exact HB.out)) hb); clear HB; have HB := n0_; clear n0_; (try clear hb); (try clear hb2); (try clear hk); (try clear hi)))
            go_ret
            exact ⟨by first | rfl | (simp [errW_none, errW_some] <;> rfl) | (simp [*, errW_none, errW_some] <;> rfl), by repeat (first | (with_reducible first | exact HB.out | apply below_alloc | apply pw_below_drewN | apply below_drew1) | exact HB.out)⟩
          · replace c13 := Bool.eq_false_iff.mpr c13
            subst c13
            have H1 : (if t224.toList = ([] : List UInt8) then (if t225.toList = a0.toList then (if (a0.size : Int) = 5 then (if 0 ≤ 4 then (if 4 ≤ (a0.size : Int) then ((name_System.f (a0.extract 0 4)).bind fun t227 => (if t227 = true then (some false) else (if a1.toList = ([] : List UInt8) then (if 3 ≤ (a0.size : Int) then ((name_Right.f (a0.extract 3 a0.size)).bind fun t228 => (some t228)) else (none)) else (if a0.size + a1.size ≤ 9223372036854775807 then ((name_System.f (a0 ++ a1)).bind fun t229 => (if t229 = true then (some false) else (if 3 ≤ (a0.size : Int) then ((name_Right.f (a0.extract 3 a0.size)).bind fun t230 => (some t230)) else (none)))) else (none))))) else (none)) else (none)) else (some false)) else (some false)) else (some false)) = some r := by rw [if_neg (show ¬ (false = true) by decide)] at H; exact H
            clear H
            have H := H1
            clear H1
            by_cases c16 : t224.toList = ([] : List UInt8)
            · rw [if_pos c16] at H
              have c16b0 : (t224.toList == ([] : List UInt8)) = true := beq_iff_eq.mpr c16
              have c16b1 : (t224.toList != ([] : List UInt8)) = false := bne_eq_false_iff_eq.mpr c16
              clear c16
              by_cases c17 : t225.toList = a0.toList
              · rw [if_pos c17] at H
                have c17b0 : (t225.toList == a0.toList) = true := beq_iff_eq.mpr c17
                have c17b1 : (t225.toList != a0.toList) = false := bne_eq_false_iff_eq.mpr c17
                clear c17
                by_cases c18 : (a0.size : Int) = 5
                · rw [if_pos c18] at H
                  have c18b0 : ((a0.size : Int) == 5) = true := beq_iff_eq.mpr c18
                  have c18b1 : ((a0.size : Int) != 5) = false := bne_eq_false_iff_eq.mpr c18
                  clear c18
                  by_cases c19 : 0 ≤ 4
                  · rw [if_pos c19] at H
                    have c19b0 := eq_true c19
                    have c19b1 : decide (0 ≤ 4) = true := decide_eq_true c19
                    clear c19
                    by_cases c20 : 4 ≤ (a0.size : Int)
                    · rw [if_pos c20] at H
                      have c20b0 := eq_true c20
                      have c20b1 : decide (4 ≤ (a0.size : Int)) = true := decide_eq_true c20
                      clear c20
                      replace H := Option.bind_eq_some_iff.mp H
                      obtain ⟨t227, A210, H⟩ := H
                      replace H : (if t227 = true then (some false) else (if a1.toList = ([] : List UInt8) then (if 3 ≤ (a0.size : Int) then ((name_Right.f (a0.extract 3 a0.size)).bind fun t228 => (some t228)) else (none)) else (if a0.size + a1.size ≤ 9223372036854775807 then ((name_System.f (a0 ++ a1)).bind fun t229 => (if t229 = true then (some false) else (if 3 ≤ (a0.size : Int) then ((name_Right.f (a0.extract 3 a0.size)).bind fun t230 => (some t230)) else (none)))) else (none)))) = some r := H
                      have A21 := Aside0.mk A210
                      clear A210
                      by_cases c22 : t227 = true
                      · subst c22
                        have H1 : (some false) = some r := by rw [if_pos rfl] at H; exact H
                        clear H
                        have H := H1
                        clear H1
                        obtain rfl := Option.some.inj H
                        go_wp2_with (first | ((with_reducible refine gate_callee (f := 14) rfl ?_); refine goesL_ (some 25) rfl rfl Try.func14 (by kernel_rfl) rfl #[.string a0] rfl (by (try simp only [List.map_toArray, List.map_cons, List.map_nil]); first | done | rfl | (simp only [List.length_drop, List.length_take]; rfl)) ?_; (with_reducible refine (name_Take.calls a0 t224 t225 _ A10.out).mono ?_); rintro e w23 ⟨rfl, hb⟩; refine ⟨_, rfl, ?_⟩; have n0_ := Aside0.mk (below_step (by repeat (first | (with_reducible first | exact HB.out | apply below_alloc | apply pw_below_drewN | apply below_drew1) | exact HB.out)) hb); clear HB; have HB := n0_; clear n0_; (try clear hb); (try clear hb2); (try clear hk); (try clear hi)) | (go_at_call 16; (with_reducible refine (name_Right.calls a0 false _ A12.out).mono ?_); rintro e w24 ⟨rfl, hb⟩; have n0_ := Aside0.mk (below_step (by repeat (first | (with_reducible first | exact HB.out | apply below_alloc | apply pw_below_drewN | apply below_drew1) | exact HB.out)) hb); clear HB; have HB := n0_; clear n0_; (try clear hb); (try clear hb2); (try clear hk); (try clear hi)) | (go_at_call 18; (with_reducible refine (name_System.calls (a0.extract 0 4) true _ A21.out).mono ?_); rintro e w' ⟨rfl, ⟨nd, rfl⟩⟩))
                        go_ret
                        exact ⟨by first | rfl | (simp [errW_none, errW_some] <;> rfl) | (simp [*, errW_none, errW_some] <;> rfl), by repeat (first | (with_reducible first | exact HB.out | apply below_alloc | apply pw_below_drewN | apply below_drew1) | exact HB.out)⟩
                      · replace c22 := Bool.eq_false_iff.mpr c22
                        subst c22
                        have H1 : (if a1.toList = ([] : List UInt8) then (if 3 ≤ (a0.size : Int) then ((name_Right.f (a0.extract 3 a0.size)).bind fun t228 => (some t228)) else (none)) else (if a0.size + a1.size ≤ 9223372036854775807 then ((name_System.f (a0 ++ a1)).bind fun t229 => (if t229 = true then (some false) else (if 3 ≤ (a0.size : Int) then ((name_Right.f (a0.extract 3 a0.size)).bind fun t230 => (some t230)) else (none)))) else (none))) = some r := by rw [if_neg (show ¬ (false = true) by decide)] at H; exact H
                        clear H
                        have H := H1
                        clear H1
                        by_cases c25 : a1.toList = ([] : List UInt8)
                        · rw [if_pos c25] at H
                          have c25b0 : (a1.toList == ([] : List UInt8)) = true := beq_iff_eq.mpr c25
                          have c25b1 : (a1.toList != ([] : List UInt8)) = false := bne_eq_false_iff_eq.mpr c25
                          clear c25
                          by_cases c26 : 3 ≤ (a0.size : Int)
                          · rw [if_pos c26] at H
                            have c26b0 := eq_true c26
                            have c26b1 : decide (3 ≤ (a0.size : Int)) = true := decide_eq_true c26
                            clear c26
                            replace H := Option.bind_eq_some_iff.mp H
                            obtain ⟨t228, A270, H⟩ := H
                            replace H : (some t228) = some r := H
                            have A27 := Aside0.mk A270
                            clear A270
                            obtain rfl := Option.some.inj H
                            go_wp2_with (first | ((with_reducible refine gate_callee (f := 14) rfl ?_); refine goesL_ (some 25) rfl rfl Try.func14 (by kernel_rfl) rfl #[.string a0] rfl (by (try simp only [List.map_toArray, List.map_cons, List.map_nil]); first | done | rfl | (simp only [List.length_drop, List.length_take]; rfl)) ?_; (with_reducible refine (name_Take.calls a0 t224 t225 _ A10.out).mono ?_); rintro e w28 ⟨rfl, hb⟩; refine ⟨_, rfl, ?_⟩; have n0_ := Aside0.mk (below_step (by repeat (first | (with_reducible first | exact HB.out | apply below_alloc | apply pw_below_drewN | apply below_drew1) | exact HB.out)) hb); clear HB; have HB := n0_; clear n0_; (try clear hb); (try clear hb2); (try clear hk); (try clear hi)) | (go_at_call 16; (with_reducible refine (name_Right.calls a0 false _ A12.out).mono ?_); rintro e w29 ⟨rfl, hb⟩; have n0_ := Aside0.mk (below_step (by repeat (first | (with_reducible first | exact HB.out | apply below_alloc | apply pw_below_drewN | apply below_drew1) | exact HB.out)) hb); clear HB; have HB := n0_; clear n0_; (try clear hb); (try clear hb2); (try clear hk); (try clear hi)) | (go_at_call 18; (with_reducible refine (name_System.calls (a0.extract 0 4) false _ A21.out).mono ?_); rintro e w' ⟨rfl, ⟨nd, rfl⟩⟩) | (go_at_call 16; (with_reducible refine (name_Right.calls (a0.extract 3 a0.size) t228 _ A27.out).mono ?_); rintro e w30 ⟨rfl, hb⟩; have n0_ := Aside0.mk (below_step (by repeat (first | (with_reducible first | exact HB.out | apply below_alloc | apply pw_below_drewN | apply below_drew1) | exact HB.out)) hb); clear HB; have HB := n0_; clear n0_; (try clear hb); (try clear hb2); (try clear hk); (try clear hi)))
                            go_ret
                            exact ⟨by first | rfl | (simp [errW_none, errW_some] <;> rfl) | (simp [*, errW_none, errW_some] <;> rfl), by repeat (first | (with_reducible first | exact HB.out | apply below_alloc | apply pw_below_drewN | apply below_drew1) | exact HB.out)⟩
                          · rw [if_neg c26] at H
                            exact absurd H (by simp)
                        · rw [if_neg c25] at H
                          have c25b0 : (a1.toList == ([] : List UInt8)) = false := beq_eq_false_iff_ne.mpr c25
                          have c25b1 : (a1.toList != ([] : List UInt8)) = true := bne_iff_ne.mpr c25
                          by_cases c31 : a0.size + a1.size ≤ 9223372036854775807
                          · rw [if_pos c31] at H
                            have c31b0 := eq_true c31
                            have c31b1 : decide (a0.size + a1.size ≤ 9223372036854775807) = true := decide_eq_true c31
                            try have c31b2 : (9223372036854775807 < a0.size + a1.size) = False := eq_false (Nat.not_lt.2 c31)
                            replace H := Option.bind_eq_some_iff.mp H
                            obtain ⟨t229, A320, H⟩ := H
                            replace H : (if t229 = true then (some false) else (if 3 ≤ (a0.size : Int) then ((name_Right.f (a0.extract 3 a0.size)).bind fun t230 => (some t230)) else (none))) = some r := H
                            have A32 := Aside0.mk A320
                            clear A320
                            by_cases c33 : t229 = true
                            · subst c33
                              have H1 : (some false) = some r := by rw [if_pos rfl] at H; exact H
                              clear H
                              have H := H1
                              clear H1
                              obtain rfl := Option.some.inj H
                              go_wp2_with (first | ((with_reducible refine gate_callee (f := 14) rfl ?_); refine goesL_ (some 25) rfl rfl Try.func14 (by kernel_rfl) rfl #[.string a0] rfl (by (try simp only [List.map_toArray, List.map_cons, List.map_nil]); first | done | rfl | (simp only [List.length_drop, List.length_take]; rfl)) ?_; (with_reducible refine (name_Take.calls a0 t224 t225 _ A10.out).mono ?_); rintro e w34 ⟨rfl, hb⟩; refine ⟨_, rfl, ?_⟩; have n0_ := Aside0.mk (below_step (by repeat (first | (with_reducible first | exact HB.out | apply below_alloc | apply pw_below_drewN | apply below_drew1) | exact HB.out)) hb); clear HB; have HB := n0_; clear n0_; (try clear hb); (try clear hb2); (try clear hk); (try clear hi)) | (go_at_call 16; (with_reducible refine (name_Right.calls a0 false _ A12.out).mono ?_); rintro e w35 ⟨rfl, hb⟩; have n0_ := Aside0.mk (below_step (by repeat (first | (with_reducible first | exact HB.out | apply below_alloc | apply pw_below_drewN | apply below_drew1) | exact HB.out)) hb); clear HB; have HB := n0_; clear n0_; (try clear hb); (try clear hb2); (try clear hk); (try clear hi)) | (go_at_call 18; (with_reducible refine (name_System.calls (a0.extract 0 4) false _ A21.out).mono ?_); rintro e w' ⟨rfl, ⟨nd, rfl⟩⟩) | (go_at_call 18; (with_reducible refine (name_System.calls (a0 ++ a1) true _ A32.out).mono ?_); rintro e w' ⟨rfl, ⟨nd, rfl⟩⟩))
                              go_ret
                              exact ⟨by first | rfl | (simp [errW_none, errW_some] <;> rfl) | (simp [*, errW_none, errW_some] <;> rfl), by repeat (first | (with_reducible first | exact HB.out | apply below_alloc | apply pw_below_drewN | apply below_drew1) | exact HB.out)⟩
                            · replace c33 := Bool.eq_false_iff.mpr c33
                              subst c33
                              have H1 : (if 3 ≤ (a0.size : Int) then ((name_Right.f (a0.extract 3 a0.size)).bind fun t230 => (some t230)) else (none)) = some r := by rw [if_neg (show ¬ (false = true) by decide)] at H; exact H
                              clear H
                              have H := H1
                              clear H1
                              by_cases c36 : 3 ≤ (a0.size : Int)
                              · rw [if_pos c36] at H
                                have c36b0 := eq_true c36
                                have c36b1 : decide (3 ≤ (a0.size : Int)) = true := decide_eq_true c36
                                clear c36
                                replace H := Option.bind_eq_some_iff.mp H
                                obtain ⟨t230, A370, H⟩ := H
                                replace H : (some t230) = some r := H
                                have A37 := Aside0.mk A370
                                clear A370
                                obtain rfl := Option.some.inj H
                                go_wp2_with (first | ((with_reducible refine gate_callee (f := 14) rfl ?_); refine goesL_ (some 25) rfl rfl Try.func14 (by kernel_rfl) rfl #[.string a0] rfl (by (try simp only [List.map_toArray, List.map_cons, List.map_nil]); first | done | rfl | (simp only [List.length_drop, List.length_take]; rfl)) ?_; (with_reducible refine (name_Take.calls a0 t224 t225 _ A10.out).mono ?_); rintro e w38 ⟨rfl, hb⟩; refine ⟨_, rfl, ?_⟩; have n0_ := Aside0.mk (below_step (by repeat (first | (with_reducible first | exact HB.out | apply below_alloc | apply pw_below_drewN | apply below_drew1) | exact HB.out)) hb); clear HB; have HB := n0_; clear n0_; (try clear hb); (try clear hb2); (try clear hk); (try clear hi)) | (go_at_call 16; (with_reducible refine (name_Right.calls a0 false _ A12.out).mono ?_); rintro e w39 ⟨rfl, hb⟩; have n0_ := Aside0.mk (below_step (by repeat (first | (with_reducible first | exact HB.out | apply below_alloc | apply pw_below_drewN | apply below_drew1) | exact HB.out)) hb); clear HB; have HB := n0_; clear n0_; (try clear hb); (try clear hb2); (try clear hk); (try clear hi)) | (go_at_call 18; (with_reducible refine (name_System.calls (a0.extract 0 4) false _ A21.out).mono ?_); rintro e w' ⟨rfl, ⟨nd, rfl⟩⟩) | (go_at_call 18; (with_reducible refine (name_System.calls (a0 ++ a1) false _ A32.out).mono ?_); rintro e w' ⟨rfl, ⟨nd, rfl⟩⟩) | (go_at_call 16; (with_reducible refine (name_Right.calls (a0.extract 3 a0.size) t230 _ A37.out).mono ?_); rintro e w40 ⟨rfl, hb⟩; have n0_ := Aside0.mk (below_step (by repeat (first | (with_reducible first | exact HB.out | apply below_alloc | apply pw_below_drewN | apply below_drew1) | exact HB.out)) hb); clear HB; have HB := n0_; clear n0_; (try clear hb); (try clear hb2); (try clear hk); (try clear hi)))
                                go_ret
                                exact ⟨by first | rfl | (simp [errW_none, errW_some] <;> rfl) | (simp [*, errW_none, errW_some] <;> rfl), by repeat (first | (with_reducible first | exact HB.out | apply below_alloc | apply pw_below_drewN | apply below_drew1) | exact HB.out)⟩
                              · rw [if_neg c36] at H
                                exact absurd H (by simp)
                          · rw [if_neg c31] at H
                            exact absurd H (by simp)
                    · rw [if_neg c20] at H
                      exact absurd H (by simp)
                  · rw [if_neg c19] at H
                    exact absurd H (by simp)
                · rw [if_neg c18] at H
                  have c18b0 : ((a0.size : Int) == 5) = false := beq_eq_false_iff_ne.mpr c18
                  have c18b1 : ((a0.size : Int) != 5) = true := bne_iff_ne.mpr c18
                  obtain rfl := Option.some.inj H
                  go_wp2_with (first | ((with_reducible refine gate_callee (f := 14) rfl ?_); refine goesL_ (some 25) rfl rfl Try.func14 (by kernel_rfl) rfl #[.string a0] rfl (by (try simp only [List.map_toArray, List.map_cons, List.map_nil]); first | done | rfl | (simp only [List.length_drop, List.length_take]; rfl)) ?_; (with_reducible refine (name_Take.calls a0 t224 t225 _ A10.out).mono ?_); rintro e w41 ⟨rfl, hb⟩; refine ⟨_, rfl, ?_⟩; have n0_ := Aside0.mk (below_step (by repeat (first | (with_reducible first | exact HB.out | apply below_alloc | apply pw_below_drewN | apply below_drew1) | exact HB.out)) hb); clear HB; have HB := n0_; clear n0_; (try clear hb); (try clear hb2); (try clear hk); (try clear hi)) | (go_at_call 16; (with_reducible refine (name_Right.calls a0 false _ A12.out).mono ?_); rintro e w42 ⟨rfl, hb⟩; have n0_ := Aside0.mk (below_step (by repeat (first | (with_reducible first | exact HB.out | apply below_alloc | apply pw_below_drewN | apply below_drew1) | exact HB.out)) hb); clear HB; have HB := n0_; clear n0_; (try clear hb); (try clear hb2); (try clear hk); (try clear hi)))
                  go_ret
                  exact ⟨by first | rfl | (simp [errW_none, errW_some] <;> rfl) | (simp [*, errW_none, errW_some] <;> rfl), by repeat (first | (with_reducible first | exact HB.out | apply below_alloc | apply pw_below_drewN | apply below_drew1) | exact HB.out)⟩
              · rw [if_neg c17] at H
                have c17b0 : (t225.toList == a0.toList) = false := beq_eq_false_iff_ne.mpr c17
                have c17b1 : (t225.toList != a0.toList) = true := bne_iff_ne.mpr c17
                obtain rfl := Option.some.inj H
                go_wp2_with (first | ((with_reducible refine gate_callee (f := 14) rfl ?_); refine goesL_ (some 25) rfl rfl Try.func14 (by kernel_rfl) rfl #[.string a0] rfl (by (try simp only [List.map_toArray, List.map_cons, List.map_nil]); first | done | rfl | (simp only [List.length_drop, List.length_take]; rfl)) ?_; (with_reducible refine (name_Take.calls a0 t224 t225 _ A10.out).mono ?_); rintro e w43 ⟨rfl, hb⟩; refine ⟨_, rfl, ?_⟩; have n0_ := Aside0.mk (below_step (by repeat (first | (with_reducible first | exact HB.out | apply below_alloc | apply pw_below_drewN | apply below_drew1) | exact HB.out)) hb); clear HB; have HB := n0_; clear n0_; (try clear hb); (try clear hb2); (try clear hk); (try clear hi)) | (go_at_call 16; (with_reducible refine (name_Right.calls a0 false _ A12.out).mono ?_); rintro e w44 ⟨rfl, hb⟩; have n0_ := Aside0.mk (below_step (by repeat (first | (with_reducible first | exact HB.out | apply below_alloc | apply pw_below_drewN | apply below_drew1) | exact HB.out)) hb); clear HB; have HB := n0_; clear n0_; (try clear hb); (try clear hb2); (try clear hk); (try clear hi)))
                go_ret
                exact ⟨by first | rfl | (simp [errW_none, errW_some] <;> rfl) | (simp [*, errW_none, errW_some] <;> rfl), by repeat (first | (with_reducible first | exact HB.out | apply below_alloc | apply pw_below_drewN | apply below_drew1) | exact HB.out)⟩
            · rw [if_neg c16] at H
              have c16b0 : (t224.toList == ([] : List UInt8)) = false := beq_eq_false_iff_ne.mpr c16
              have c16b1 : (t224.toList != ([] : List UInt8)) = true := bne_iff_ne.mpr c16
              obtain rfl := Option.some.inj H
              go_wp2_with (first | ((with_reducible refine gate_callee (f := 14) rfl ?_); refine goesL_ (some 25) rfl rfl Try.func14 (by kernel_rfl) rfl #[.string a0] rfl (by (try simp only [List.map_toArray, List.map_cons, List.map_nil]); first | done | rfl | (simp only [List.length_drop, List.length_take]; rfl)) ?_; (with_reducible refine (name_Take.calls a0 t224 t225 _ A10.out).mono ?_); rintro e w45 ⟨rfl, hb⟩; refine ⟨_, rfl, ?_⟩; have n0_ := Aside0.mk (below_step (by repeat (first | (with_reducible first | exact HB.out | apply below_alloc | apply pw_below_drewN | apply below_drew1) | exact HB.out)) hb); clear HB; have HB := n0_; clear n0_; (try clear hb); (try clear hb2); (try clear hk); (try clear hi)) | (go_at_call 16; (with_reducible refine (name_Right.calls a0 false _ A12.out).mono ?_); rintro e w46 ⟨rfl, hb⟩; have n0_ := Aside0.mk (below_step (by repeat (first | (with_reducible first | exact HB.out | apply below_alloc | apply pw_below_drewN | apply below_drew1) | exact HB.out)) hb); clear HB; have HB := n0_; clear n0_; (try clear hb); (try clear hb2); (try clear hk); (try clear hi)))
              go_ret
              exact ⟨by first | rfl | (simp [errW_none, errW_some] <;> rfl) | (simp [*, errW_none, errW_some] <;> rfl), by repeat (first | (with_reducible first | exact HB.out | apply below_alloc | apply pw_below_drewN | apply below_drew1) | exact HB.out)⟩
        · replace c11 := Bool.eq_false_iff.mpr c11
          subst c11
          have H1 : (some false) = some r := by rw [if_neg (show ¬ (false = true) by decide)] at H; exact H
          clear H
          have H := H1
          clear H1
          obtain rfl := Option.some.inj H
          go_wp2_with (first | ((with_reducible refine gate_callee (f := 14) rfl ?_); refine goesL_ (some 25) rfl rfl Try.func14 (by kernel_rfl) rfl #[.string a0] rfl (by (try simp only [List.map_toArray, List.map_cons, List.map_nil]); first | done | rfl | (simp only [List.length_drop, List.length_take]; rfl)) ?_; (with_reducible refine (name_Take.calls a0 t224 t225 _ A10.out).mono ?_); rintro e w47 ⟨rfl, hb⟩; refine ⟨_, rfl, ?_⟩; have n0_ := Aside0.mk (below_step (by repeat (first | (with_reducible first | exact HB.out | apply below_alloc | apply pw_below_drewN | apply below_drew1) | exact HB.out)) hb); clear HB; have HB := n0_; clear n0_; (try clear hb); (try clear hb2); (try clear hk); (try clear hi)))
          go_ret
          exact ⟨by first | rfl | (simp [errW_none, errW_some] <;> rfl) | (simp [*, errW_none, errW_some] <;> rfl), by repeat (first | (with_reducible first | exact HB.out | apply below_alloc | apply pw_below_drewN | apply below_drew1) | exact HB.out)⟩

/-- THE ONE PURE STATEMENT of decklelaw08_NameSystem: yours. -/
def decklelaw08_NameSystem.Pure : Prop := ∀ (a0 : ByteArray) (a1 : ByteArray), a0.size ≤ 140737488351232 → a1.size ≤ 140737488351232 → ∃ k, decklelaw08_NameSystem.f k a0 a1 = some true
theorem decklelaw08_NameSystem.walk (P : decklelaw08_NameSystem.Pure) (a0 : ByteArray) (a1 : ByteArray) (w : World) (w0 : a0.size ≤ 140737488351232) (w1 : a1.size ≤ 140737488351232) :
    Calls Try.prog 7 #[.string a0, .string a1] w fun e w' => e = .returned (.bool true) ∧ Below w.heap.size w w' := by
  obtain ⟨k, h⟩ := P a0 a1 w0 w1
  refine (decklelaw08_NameSystem.calls k a0 a1 true w h).mono ?_
  rintro e w' ⟨rfl, hd⟩
  exact ⟨rfl, hd⟩

-- NOT PRINTED: function 53 (slices_IndexFunc_string_string)

-- NOT PRINTED: function 44 (slices_ContainsFunc_string_string)

end Go.Proofs.Ytmddkjmcbddhiaa.P
