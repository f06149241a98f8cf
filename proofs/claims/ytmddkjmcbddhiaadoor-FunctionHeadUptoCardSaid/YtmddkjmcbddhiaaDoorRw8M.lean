/-
  P35
  What the reference's functions of layer 08 come to, from some number of rounds on: the plain words of names and unlike texts.
-/
import Derived.Test.YtmddkjmcbddhiaaDoorP0M
import Derived.Test.YtmddkjmcbddhiaaDoorLw8M
import Derived.Test.YtmddkjmcbddhiaaDoorSpM
section
-- written by wip/tools/print2.py (a program of this session over the kit's print); not trusted: Lean checks it
namespace Go.Proofs.YtmddkjmcbddhiaaDoor.P
open Go.RowKit Go.Proofs.YtmddkjmcbddhiaaDoorW.PrintWords Go.Proofs.YtmddkjmcbddhiaaDoorW.PrintLast Go.Proofs.YtmddkjmcbddhiaaDoorW.PrintMore
attribute [local go_sem] max2_int min2_int max_two min_two max_three min_three max_four min_four   -- for this text's walks alone
set_option linter.unusedVariables false
set_option linter.unusedSimpArgs false

/-! ### deckleref08_Right: function 60 -/
def deckleref08_Right.l0 : Nat → ByteArray → ByteArray → Int → Option (Bool)
  | 0, _, _, _ => none
  | k + 1, x3, x4, x5 => if x3.toList = ([] : List UInt8) then (if x5 ≥ 1 then (if x5 ≤ 32 then (some (x4.toList == ([] : List UInt8))) else (some false)) else (some false)) else ((deckleref08_goes.f k x3).bind fun t397 => (if 0 ≤ t397 then (if t397 ≤ (x3.size : Int) then (deckleref08_Right.l0 k (x3.extract (t397 : Int).toNat x3.size) x4 (wrap64 (x5 + 1))) else (none)) else (none)))
def deckleref08_Right.f (k : Nat) (a0 : ByteArray) : Option (Bool) := (deckleref08_Take.f a0).bind fun bt395 => (deckleref08_Right.l0 k bt395.1 bt395.2 0)
theorem deckleref08_Right.mono_l : ∀ k, (∀ y0 y1 y2, LeO (deckleref08_Right.l0 k y0 y1 y2) (deckleref08_Right.l0 (k + 1) y0 y1 y2))
  | 0 => fun _ _ _ r h => by simp [deckleref08_Right.l0] at h
  | k + 1 => by
    have ih0 := deckleref08_Right.mono_l k
    · intro y0 y1 y2
      unfold deckleref08_Right.l0
      repeat' first
      | (with_reducible exact ih0 _ _ _)
      | (with_reducible exact deckleref08_goes.mono _ _)
      | (with_reducible exact LeO.refl _)
      | (with_reducible exact LeO.none _)
      | (with_reducible refine LeO.ite ?_ ?_)
      | (with_reducible refine LeO.bind ?_ (fun _ => ?_))
      | exact ih0 _ _ _
      | exact deckleref08_goes.mono _ _
      | exact LeO.none _
      | refine LeO.ite ?_ ?_
      | refine LeO.bind ?_ (fun _ => ?_)
theorem deckleref08_Right.mono : ∀ a0 k, LeO (deckleref08_Right.f k a0) (deckleref08_Right.f (k + 1) a0) := by
  intro a0 k
  have ih0 := deckleref08_Right.mono_l k
  unfold deckleref08_Right.f
  repeat' first
      | (with_reducible exact ih0 _ _ _)
      | (with_reducible exact deckleref08_goes.mono _ _)
      | (with_reducible exact LeO.refl _)
      | (with_reducible exact LeO.none _)
      | (with_reducible refine LeO.ite ?_ ?_)
      | (with_reducible refine LeO.bind ?_ (fun _ => ?_))
      | exact ih0 _ _ _
      | exact deckleref08_goes.mono _ _
      | exact LeO.none _
      | refine LeO.ite ?_ ?_
      | refine LeO.bind ?_ (fun _ => ?_)
set_option maxHeartbeats 8000000 in
set_option maxRecDepth 100000 in
theorem deckleref08_Right.calls (k : Nat) (a0 : ByteArray) (r : Bool) (w : World) (h : deckleref08_Right.f k a0 = some r) :
    Calls Tryd.prog 60 #[.string a0] w fun e w' => e = .returned (.bool r) ∧ Below w.heap.size w w' := by
  have HB := Aside0.mk (Below.refl w.heap.size w)
  have H : ((deckleref08_Take.f a0).bind fun bt395 => (deckleref08_Right.l0 k bt395.1 bt395.2 0)) = some r := h
  clear h
  replace H := Option.bind_eq_some_iff.mp H
  obtain ⟨⟨t395, t396⟩, A20, H⟩ := H
  replace H : (deckleref08_Right.l0 k t395 t396 0) = some r := H
  have A2 := Aside0.mk A20
  clear A20
  have H' := Aside0.mk H
  clear H
  go_enter Tryd.func60, Tryd.ntmps60
  go_wp2_with (first | ((with_reducible refine gate_callee (f := 56) rfl ?_); refine goesL_ (some 8) rfl rfl Tryd.func56 (by kernel_rfl) rfl #[.string a0] rfl (by (try simp only [List.map_toArray, List.map_cons, List.map_nil]); first | done | rfl | (simp only [List.length_drop, List.length_take]; rfl)) ?_; (with_reducible refine (deckleref08_Take.calls a0 t395 t396 _ A2.out).mono ?_); rintro e w3 ⟨rfl, hb⟩; refine ⟨_, rfl, ?_⟩; have n0_ := Aside0.mk (below_step (by repeat (first | (with_reducible first | exact HB.out | apply below_alloc | apply pw_below_drewN | apply below_drew1) | exact HB.out)) hb); clear HB; have HB := n0_; clear n0_; (try clear hb); (try clear hb2); (try clear hk); (try clear hi)))
  go_loopg [3, 5] k (fun kq v3 v5 w' => ∃ (x3_1 : ByteArray) (x5_1 : Int), v3 = .string x3_1 ∧ v5 = .int .i64 x5_1 ∧ Aside0 (deckleref08_Right.l0 kq x3_1 t396 x5_1 = some r) ∧ Aside0 (kq ≤ k) ∧ Aside0 (Below w.heap.size w w'))
  case atStart => exact ⟨(t395), (0), (by first | rfl | (simp; done) | (simp [*]; done)), (by first | rfl | (simp; done) | (simp [*]; done)), H', ⟨Nat.le_refl _⟩, ⟨by repeat (first | (with_reducible first | exact HB.out | apply below_alloc | apply pw_below_drewN | apply below_drew1) | exact HB.out)⟩⟩
  case round =>
    clear H'
    try clear p2
    obtain ⟨x3_1, x5_1, rfl, rfl, HA, HK1, HB⟩ := hrel
    cases gk with
    | zero => exact absurd HA.out (by simp [deckleref08_Right.l0])
    | succ k1 =>
      have H := HA.out
      clear HA
      simp only [deckleref08_Right.l0] at H
      by_cases c4 : x3_1.toList = ([] : List UInt8)
      · rw [if_pos c4] at H
        have c4b0 : (x3_1.toList == ([] : List UInt8)) = true := beq_iff_eq.mpr c4
        have c4b1 : (x3_1.toList != ([] : List UInt8)) = false := bne_eq_false_iff_eq.mpr c4
        clear c4
        by_cases c5 : x5_1 ≥ 1
        · rw [if_pos c5] at H
          have c5b0 : decide (1 ≤ x5_1) = true := decide_eq_true c5
          clear c5
          by_cases c6 : x5_1 ≤ 32
          · rw [if_pos c6] at H
            have c6b0 : decide (x5_1 ≤ 32) = true := decide_eq_true c6
            clear c6
            obtain rfl := Option.some.inj H
            go_wp2
            go_ret
            exact ⟨by first | rfl | (simp [errW_none, errW_some] <;> rfl) | (simp [*, errW_none, errW_some] <;> rfl), by repeat (first | (with_reducible first | exact HB.out | apply below_alloc | apply pw_below_drewN | apply below_drew1) | exact HB.out)⟩
          · rw [if_neg c6] at H
            have c6b0 : decide (x5_1 ≤ 32) = false := decide_eq_false c6
            clear c6
            obtain rfl := Option.some.inj H
            go_wp2
            go_ret
            exact ⟨by first | rfl | (simp [errW_none, errW_some] <;> rfl) | (simp [*, errW_none, errW_some] <;> rfl), by repeat (first | (with_reducible first | exact HB.out | apply below_alloc | apply pw_below_drewN | apply below_drew1) | exact HB.out)⟩
        · rw [if_neg c5] at H
          have c5b0 : decide (1 ≤ x5_1) = false := decide_eq_false c5
          clear c5
          obtain rfl := Option.some.inj H
          go_wp2
          go_ret
          exact ⟨by first | rfl | (simp [errW_none, errW_some] <;> rfl) | (simp [*, errW_none, errW_some] <;> rfl), by repeat (first | (with_reducible first | exact HB.out | apply below_alloc | apply pw_below_drewN | apply below_drew1) | exact HB.out)⟩
      · rw [if_neg c4] at H
        have c4b0 : (x3_1.toList == ([] : List UInt8)) = false := beq_eq_false_iff_ne.mpr c4
        have c4b1 : (x3_1.toList != ([] : List UInt8)) = true := bne_iff_ne.mpr c4
        replace H := Option.bind_eq_some_iff.mp H
        obtain ⟨t397, A70, H⟩ := H
        replace H : (if 0 ≤ t397 then (if t397 ≤ (x3_1.size : Int) then (deckleref08_Right.l0 k1 (x3_1.extract (t397 : Int).toNat x3_1.size) t396 (wrap64 (x5_1 + 1))) else (none)) else (none)) = some r := H
        have A7 := Aside0.mk A70
        clear A70
        by_cases c8 : 0 ≤ t397
        · rw [if_pos c8] at H
          have c8b0 := eq_true c8
          have c8b1 : decide (0 ≤ t397) = true := decide_eq_true c8
          clear c8
          by_cases c9 : t397 ≤ (x3_1.size : Int)
          · rw [if_pos c9] at H
            have c9b0 := eq_true c9
            have c9b1 : decide (t397 ≤ (x3_1.size : Int)) = true := decide_eq_true c9
            clear c9
            have H' := Aside0.mk H
            clear H
            go_wp2_with (first | ((with_reducible refine gate_callee (f := 82) rfl ?_); refine goesL_ (some 15) rfl rfl Tryd.func82 (by kernel_rfl) rfl #[.string x3_1] rfl (by (try simp only [List.map_toArray, List.map_cons, List.map_nil]); first | done | rfl | (simp only [List.length_drop, List.length_take]; rfl)) ?_; (with_reducible refine (deckleref08_goes.calls k1 x3_1 t397 _ A7.out).mono ?_); rintro e w' ⟨rfl, ⟨nd, rfl⟩⟩; refine ⟨_, rfl, ?_⟩))
            go_roundg k1
            case measure => have := HK1.out; omega
            case rel => exact ⟨(x3_1.extract (t397 : Int).toNat x3_1.size), (wrap64 (x5_1 + 1)), (by first | rfl | (simp; done) | (simp [*]; done)), (by first | rfl | (simp; done) | (simp [*]; done)), H', ⟨by have := HK1.out; omega⟩, ⟨by repeat (first | (with_reducible first | exact HB.out | apply below_alloc | apply pw_below_drewN | apply below_drew1) | exact HB.out)⟩⟩
          · rw [if_neg c9] at H
            exact absurd H (by simp)
        · rw [if_neg c8] at H
          exact absurd H (by simp)

/-! ### deckleref08_Unlike: function 61 -/
mutual
def deckleref08_Unlike.l0 : Nat → List ByteArray → Int → Option (Bool)
  | 0, _, _ => none
  | k + 1, x0, x3 => if x3 < (x0.length : Int) then (deckleref08_Unlike.l1 k x0 x3 0) else (some true)
def deckleref08_Unlike.l1 : Nat → List ByteArray → Int → Int → Option (Bool)
  | 0, _, _, _ => none
  | k + 1, x0, x3, x4 => if x4 < x3 then (if 0 ≤ x3 then (if x3 < (x0.length : Int) then (if (rdOf ByteArray.empty x0 x3).toList = ([] : List UInt8) then (deckleref08_Unlike.l1 k x0 x3 (wrap64 (x4 + 1))) else (if 0 ≤ x4 then (if x4 < (x0.length : Int) then (if (rdOf ByteArray.empty x0 x3).toList = (rdOf ByteArray.empty x0 x4).toList then (some false) else (deckleref08_Unlike.l1 k x0 x3 (wrap64 (x4 + 1)))) else (none)) else (none))) else (none)) else (none)) else (deckleref08_Unlike.l0 k x0 (wrap64 (x3 + 1)))
end
def deckleref08_Unlike.f (k : Nat) (l0 : List ByteArray) : Option (Bool) := deckleref08_Unlike.l0 k l0 0
theorem deckleref08_Unlike.mono_l : ∀ k, (∀ y0 y1, LeO (deckleref08_Unlike.l0 k y0 y1) (deckleref08_Unlike.l0 (k + 1) y0 y1)) ∧ (∀ y0 y1 y2, LeO (deckleref08_Unlike.l1 k y0 y1 y2) (deckleref08_Unlike.l1 (k + 1) y0 y1 y2))
  | 0 => ⟨fun _ _ r h => by simp [deckleref08_Unlike.l0] at h, fun _ _ _ r h => by simp [deckleref08_Unlike.l1] at h⟩
  | k + 1 => by
    obtain ⟨ih0, ih1⟩ := deckleref08_Unlike.mono_l k
    refine ⟨?_, ?_⟩
    · intro y0 y1
      unfold deckleref08_Unlike.l0
      repeat' first
      | (with_reducible exact ih0 _ _)
      | (with_reducible exact ih1 _ _ _)
      | (with_reducible exact LeO.refl _)
      | (with_reducible exact LeO.none _)
      | (with_reducible refine LeO.ite ?_ ?_)
      | (with_reducible refine LeO.bind ?_ (fun _ => ?_))
      | exact ih0 _ _
      | exact ih1 _ _ _
      | exact LeO.none _
      | refine LeO.ite ?_ ?_
      | refine LeO.bind ?_ (fun _ => ?_)
    · intro y0 y1 y2
      unfold deckleref08_Unlike.l1
      repeat' first
      | (with_reducible exact ih0 _ _)
      | (with_reducible exact ih1 _ _ _)
      | (with_reducible exact LeO.refl _)
      | (with_reducible exact LeO.none _)
      | (with_reducible refine LeO.ite ?_ ?_)
      | (with_reducible refine LeO.bind ?_ (fun _ => ?_))
      | exact ih0 _ _
      | exact ih1 _ _ _
      | exact LeO.none _
      | refine LeO.ite ?_ ?_
      | refine LeO.bind ?_ (fun _ => ?_)
theorem deckleref08_Unlike.mono : ∀ a0 k, LeO (deckleref08_Unlike.f k a0) (deckleref08_Unlike.f (k + 1) a0) := by
  intro a0 k
  obtain ⟨ih0, ih1⟩ := deckleref08_Unlike.mono_l k
  unfold deckleref08_Unlike.f
  repeat' first
      | (with_reducible exact ih0 _ _)
      | (with_reducible exact ih1 _ _ _)
      | (with_reducible exact LeO.refl _)
      | (with_reducible exact LeO.none _)
      | (with_reducible refine LeO.ite ?_ ?_)
      | (with_reducible refine LeO.bind ?_ (fun _ => ?_))
      | exact ih0 _ _
      | exact ih1 _ _ _
      | exact LeO.none _
      | refine LeO.ite ?_ ?_
      | refine LeO.bind ?_ (fun _ => ?_)
set_option maxHeartbeats 8000000 in
set_option maxRecDepth 100000 in
theorem deckleref08_Unlike.calls (k : Nat) (A0 : Option Addr) (c0 : Nat) (l0 : List ByteArray) (r : Bool) (w : World) (hr0 : Kd.C Kd.string w A0 l0.length l0) (hc0 : l0.length ≤ c0) (h : deckleref08_Unlike.f k l0 = some r) :
    Calls Tryd.prog 61 #[.slice A0 l0.length c0] w fun e w' => e = .returned (.bool r) ∧ Drawn0 w w' := by
  have HR0 := Aside0.mk hr0
  have HC0 := Aside0.mk hc0
  clear hr0 hc0
  have H : (deckleref08_Unlike.l0 k l0 0) = some r := h
  clear h
  have H' := Aside0.mk H
  clear H
  go_enter Tryd.func61, Tryd.ntmps61
  go_wp2
  repeat (go_quiet (fail); try go_wp2)
  go_loopg [3] k (fun kq v3 w' => ∃ (x3_1 : Int), v3 = .int .i64 x3_1 ∧ Aside0 (deckleref08_Unlike.l0 kq l0 x3_1 = some r) ∧ Aside0 (kq ≤ k) ∧ Drawn0 w w')
  case atStart => exact ⟨(0), (by first | rfl | (simp; done) | (simp [*]; done)), H', ⟨Nat.le_refl _⟩, by repeat (first | exact Drawn0.refl _ | apply Drawn0.step)⟩
  case round =>
    clear H'
    obtain ⟨x3_1, rfl, HA, HK1, ⟨m1, rfl⟩⟩ := hrel
    cases gk with
    | zero => exact absurd HA.out (by simp [deckleref08_Unlike.l0])
    | succ k1 =>
      have H := HA.out
      clear HA
      simp only [deckleref08_Unlike.l0] at H
      by_cases c2 : x3_1 < (l0.length : Int)
      · rw [if_pos c2] at H
        have c2b0 : decide (x3_1 < (l0.length : Int)) = true := decide_eq_true c2
        clear c2
        have H' := Aside0.mk H
        clear H
        go_wp2
        repeat (go_quiet (fail); try go_wp2)
        go_loopg [4] k1 (fun kq v4 w' => ∃ (x4_2 : Int), v4 = .int .i64 x4_2 ∧ Aside0 (deckleref08_Unlike.l1 kq l0 x3_1 x4_2 = some r) ∧ Aside0 (kq ≤ k1) ∧ Drawn0 w w')
        case atStart => exact ⟨(0), (by first | rfl | (simp; done) | (simp [*]; done)), H', ⟨Nat.le_refl _⟩, by repeat (first | exact Drawn0.refl _ | apply Drawn0.step)⟩
        case round =>
          clear H'
          try clear c2
          try clear c2b0
          try clear p2
          obtain ⟨x4_2, rfl, HA, HK2, ⟨m2, rfl⟩⟩ := hrel
          cases gk with
          | zero => exact absurd HA.out (by simp [deckleref08_Unlike.l1])
          | succ k2 =>
            have H := HA.out
            clear HA
            simp only [deckleref08_Unlike.l1] at H
            by_cases c3 : x4_2 < x3_1
            · rw [if_pos c3] at H
              have c3b0 : decide (x4_2 < x3_1) = true := decide_eq_true c3
              clear c3
              by_cases c4 : 0 ≤ x3_1
              · rw [if_pos c4] at H
                have c4b0 : decide (0 ≤ x3_1) = true := decide_eq_true c4
                clear c4
                by_cases c5 : x3_1 < (l0.length : Int)
                · rw [if_pos c5] at H
                  have c5b0 : decide (x3_1 < (l0.length : Int)) = true := decide_eq_true c5
                  clear c5
                  by_cases c6 : (rdOf ByteArray.empty l0 x3_1).toList = ([] : List UInt8)
                  · rw [if_pos c6] at H
                    have c6b0 : ((rdOf ByteArray.empty l0 x3_1).toList == ([] : List UInt8)) = true := beq_iff_eq.mpr c6
                    have c6b1 : ((rdOf ByteArray.empty l0 x3_1).toList != ([] : List UInt8)) = false := bne_eq_false_iff_eq.mpr c6
                    clear c6
                    have H' := Aside0.mk H
                    clear H
                    have p398 : 0 ≤ (x3_1 : Int) := of_decide_eq_true (by first | (with_reducible assumption) | assumption)
                    have q398 : x3_1 < (l0.length : Int) := of_decide_eq_true (by first | (with_reducible assumption) | assumption)
                    obtain ⟨ad398, e398, hx398_0⟩ := Kd.at_string HR0.out x3_1 p398 q398
                    cases e398
                    replace p398 := eq_true p398
                    replace q398 := eq_true q398
                    go_wp2
                    repeat (go_quiet (fail); try go_wp2)
                    go_roundg k2
                    case measure => have := HK1.out; have := HK2.out; omega
                    case rel => exact ⟨(wrap64 (x4_2 + 1)), (by first | rfl | (simp; done) | (simp [*]; done)), H', ⟨by have := HK1.out; have := HK2.out; omega⟩, by repeat (first | exact Drawn0.refl _ | apply Drawn0.step)⟩
                  · rw [if_neg c6] at H
                    have c6b0 : ((rdOf ByteArray.empty l0 x3_1).toList == ([] : List UInt8)) = false := beq_eq_false_iff_ne.mpr c6
                    have c6b1 : ((rdOf ByteArray.empty l0 x3_1).toList != ([] : List UInt8)) = true := bne_iff_ne.mpr c6
                    by_cases c7 : 0 ≤ x4_2
                    · rw [if_pos c7] at H
                      have c7b0 : decide (0 ≤ x4_2) = true := decide_eq_true c7
                      clear c7
                      by_cases c8 : x4_2 < (l0.length : Int)
                      · rw [if_pos c8] at H
                        have c8b0 : decide (x4_2 < (l0.length : Int)) = true := decide_eq_true c8
                        clear c8
                        by_cases c9 : (rdOf ByteArray.empty l0 x3_1).toList = (rdOf ByteArray.empty l0 x4_2).toList
                        · rw [if_pos c9] at H
                          have c9b0 : ((rdOf ByteArray.empty l0 x3_1).toList == (rdOf ByteArray.empty l0 x4_2).toList) = true := beq_iff_eq.mpr c9
                          have c9b1 : ((rdOf ByteArray.empty l0 x3_1).toList != (rdOf ByteArray.empty l0 x4_2).toList) = false := bne_eq_false_iff_eq.mpr c9
                          clear c9
                          obtain rfl := Option.some.inj H
                          have p398 : 0 ≤ (x3_1 : Int) := of_decide_eq_true (by first | (with_reducible assumption) | assumption)
                          have q398 : x3_1 < (l0.length : Int) := of_decide_eq_true (by first | (with_reducible assumption) | assumption)
                          obtain ⟨ad398, e398, hx398_0⟩ := Kd.at_string HR0.out x3_1 p398 q398
                          cases e398
                          replace p398 := eq_true p398
                          replace q398 := eq_true q398
                          have p399 : 0 ≤ (x3_1 : Int) := of_decide_eq_true (by first | (with_reducible assumption) | assumption)
                          have q399 : x3_1 < (l0.length : Int) := of_decide_eq_true (by first | (with_reducible assumption) | assumption)
                          obtain ⟨ad399, e399, hx399_0⟩ := Kd.at_string HR0.out x3_1 p399 q399
                          obtain rfl : ad398 = ad399 := (by injection e399)
                          replace p399 := eq_true p399
                          replace q399 := eq_true q399
                          have p400 : 0 ≤ (x4_2 : Int) := of_decide_eq_true (by first | (with_reducible assumption) | assumption)
                          have q400 : x4_2 < (l0.length : Int) := of_decide_eq_true (by first | (with_reducible assumption) | assumption)
                          obtain ⟨ad400, e400, hx400_0⟩ := Kd.at_string HR0.out x4_2 p400 q400
                          obtain rfl : ad398 = ad400 := (by injection e400)
                          replace p400 := eq_true p400
                          replace q400 := eq_true q400
                          go_wp2
                          repeat (go_quiet (fail); try go_wp2)
                          go_ret
                          exact ⟨by first | rfl | (simp; done) | (simp [*]; done), by repeat (first | exact Drawn0.refl _ | apply Drawn0.step)⟩
                        · rw [if_neg c9] at H
                          have c9b0 : ((rdOf ByteArray.empty l0 x3_1).toList == (rdOf ByteArray.empty l0 x4_2).toList) = false := beq_eq_false_iff_ne.mpr c9
                          have c9b1 : ((rdOf ByteArray.empty l0 x3_1).toList != (rdOf ByteArray.empty l0 x4_2).toList) = true := bne_iff_ne.mpr c9
                          have H' := Aside0.mk H
                          clear H
                          have p398 : 0 ≤ (x3_1 : Int) := of_decide_eq_true (by first | (with_reducible assumption) | assumption)
                          have q398 : x3_1 < (l0.length : Int) := of_decide_eq_true (by first | (with_reducible assumption) | assumption)
                          obtain ⟨ad398, e398, hx398_0⟩ := Kd.at_string HR0.out x3_1 p398 q398
                          cases e398
                          replace p398 := eq_true p398
                          replace q398 := eq_true q398
                          have p399 : 0 ≤ (x3_1 : Int) := of_decide_eq_true (by first | (with_reducible assumption) | assumption)
                          have q399 : x3_1 < (l0.length : Int) := of_decide_eq_true (by first | (with_reducible assumption) | assumption)
                          obtain ⟨ad399, e399, hx399_0⟩ := Kd.at_string HR0.out x3_1 p399 q399
                          obtain rfl : ad398 = ad399 := (by injection e399)
                          replace p399 := eq_true p399
                          replace q399 := eq_true q399
                          have p400 : 0 ≤ (x4_2 : Int) := of_decide_eq_true (by first | (with_reducible assumption) | assumption)
                          have q400 : x4_2 < (l0.length : Int) := of_decide_eq_true (by first | (with_reducible assumption) | assumption)
                          obtain ⟨ad400, e400, hx400_0⟩ := Kd.at_string HR0.out x4_2 p400 q400
                          obtain rfl : ad398 = ad400 := (by injection e400)
                          replace p400 := eq_true p400
                          replace q400 := eq_true q400
                          go_wp2
                          repeat (go_quiet (fail); try go_wp2)
                          go_roundg k2
                          case measure => have := HK1.out; have := HK2.out; omega
                          case rel => exact ⟨(wrap64 (x4_2 + 1)), (by first | rfl | (simp; done) | (simp [*]; done)), H', ⟨by have := HK1.out; have := HK2.out; omega⟩, by repeat (first | exact Drawn0.refl _ | apply Drawn0.step)⟩
                      · rw [if_neg c8] at H
                        exact absurd H (by simp)
                    · rw [if_neg c7] at H
                      exact absurd H (by simp)
                · rw [if_neg c5] at H
                  exact absurd H (by simp)
              · rw [if_neg c4] at H
                exact absurd H (by simp)
            · rw [if_neg c3] at H
              have c3b0 : decide (x4_2 < x3_1) = false := decide_eq_false c3
              clear c3
              have H' := Aside0.mk H
              clear H
              go_wp2
              repeat (go_quiet (fail); try go_wp2)
              go_roundg k2
              case measure => have := HK1.out; have := HK2.out; omega
              case rel => exact ⟨(wrap64 (x3_1 + 1)), (by first | rfl | (simp; done) | (simp [*]; done)), H', ⟨by have := HK1.out; have := HK2.out; omega⟩, by repeat (first | exact Drawn0.refl _ | apply Drawn0.step)⟩
      · rw [if_neg c2] at H
        have c2b0 : decide (x3_1 < (l0.length : Int)) = false := decide_eq_false c2
        clear c2
        obtain rfl := Option.some.inj H
        go_wp2
        repeat (go_quiet (fail); try go_wp2)
        go_ret
        exact ⟨by first | rfl | (simp; done) | (simp [*]; done), by repeat (first | exact Drawn0.refl _ | apply Drawn0.step)⟩

end Go.Proofs.YtmddkjmcbddhiaaDoor.P
end
section
namespace Go.Proofs.YtmddkjmcbddhiaaDoor.P
open Go.RowKit Go.Proofs.YtmddkjmcbddhiaaDoorW.PrintWords Go.Proofs.YtmddkjmcbddhiaaDoor.Sp
set_option linter.unusedVariables false
set_option linter.unusedSimpArgs false

theorem wrap_nat {n m : Nat} (h : m = n + 1) (hm : m ≤ 9223372036854775807) : wrap64 ((n : Int) + 1) = (m : Int) := by
  unfold wrap64
  omega

theorem ref_Right_end (x y : ByteArray) (n : Nat) (h0 : x.size = 0) :
    Ev (fun k => deckleref08_Right.l0 k x y n) (decide (1 ≤ n + cs x.data.toList ∧ n + cs x.data.toList ≤ 32) && (y.data.toList == [])) := by
  have hsz := length_data x
  have hnil : x.data.toList = [] := List.eq_nil_of_length_eq_zero (by omega)
  refine Ev.step (f := fun _ => some _) (fun k => ?_) (Ev.now _)
  simp only [deckleref08_Right.l0, ByteArray.toList_eq, hnil, if_true]
  have hc : cs ([] : List UInt8) = 0 := rfl
  rw [hc, Nat.add_zero]
  by_cases h1 : (n : Int) ≥ 1
  · rw [if_pos h1]
    by_cases h2 : (n : Int) ≤ 32
    · rw [if_pos h2, decide_eq_true (by omega)]; rfl
    · rw [if_neg h2, decide_eq_false (by omega)]; rfl
  · rw [if_neg h1, decide_eq_false (by omega)]; rfl
theorem ref_Right_l0 (d : Nat) : ∀ (x y : ByteArray) (n : Nat), x.size ≤ d → gl x.data.toList = x.size → n + x.size ≤ 4611686018427387904 →
    Ev (fun k => deckleref08_Right.l0 k x y n) (decide (1 ≤ n + cs x.data.toList ∧ n + cs x.data.toList ≤ 32) && (y.data.toList == [])) := by
  induction d with
  | zero =>
    intro x y n hd hg hn
    exact ref_Right_end x y n (by omega)
  | succ d ihd =>
    intro x y n hd hg hn
    have hsz := length_data x
    by_cases h0 : x.size = 0
    · exact ref_Right_end x y n h0
    · have hne : gW x.data.toList ≠ 0 := by
        intro hz
        rw [gl_zero hz] at hg
        omega
      have hle := gW_le x.data.toList
      have hnil : ¬ x.data.toList = [] := by
        intro h
        rw [h] at hsz
        simp at hsz
        omega
      have hst := gl_step hne
      have hcs := cs_step hne
      have hx' : (x.extract (gW x.data.toList) x.size).data.toList = x.data.toList.drop (gW x.data.toList) := extract_data _ _
      have hxs : (x.extract (gW x.data.toList) x.size).size = x.size - gW x.data.toList := by rw [← length_data, hx', List.length_drop, hsz]
      have ih := ihd (x.extract (gW x.data.toList) x.size) y (n + 1) (by omega) (by rw [hx', hxs]; omega) (by omega)
      rw [hx'] at ih
      have he : n + cs x.data.toList = n + 1 + cs (x.data.toList.drop (gW x.data.toList)) := by omega
      rw [he]
      obtain ⟨K, hK⟩ := ih
      refine ⟨K + 3, fun k hk => ?_⟩
      obtain ⟨j, rfl⟩ : ∃ m, k = m + 2 + 1 := ⟨k - 3, by omega⟩
      show deckleref08_Right.l0 (j + 2 + 1) x y n = _
      rw [deckleref08_Right.l0]
      simp only [ByteArray.toList_eq, hnil, if_false, ref_goes, Option.bind_some]
      rw [if_pos (by omega), if_pos (by omega), Int.toNat_natCast, wrap_nat rfl (by omega)]
      exact hK (j + 2) (by omega)

theorem ref_Right (s : ByteArray) (hs : s.size ≤ 4611686018427387904) : Ev (fun k => deckleref08_Right.f k s) (isName s.data.toList) := by
  have hsz := length_data s
  have hle := nameLen_le s.data.toList
  have ha : (s.extract 0 (nameLen s.data.toList)).data.toList = s.data.toList.take (nameLen s.data.toList) := ext_take_data _ _
  have hb : (s.extract (nameLen s.data.toList) s.size).data.toList = s.data.toList.drop (nameLen s.data.toList) := extract_data _ _
  have has : (s.extract 0 (nameLen s.data.toList)).size = nameLen s.data.toList := by rw [← length_data, ha, List.length_take]; omega
  have hfull : gl (s.data.toList.take (nameLen s.data.toList)) = nameLen s.data.toList := by
    by_cases h : bgW s.data.toList = 0
    · rw [nameLen_zero h]; rfl
    · rw [nameLen_gl h, gl_take]
  have hE := ref_Right_l0 _ (s.extract 0 (nameLen s.data.toList)) (s.extract (nameLen s.data.toList) s.size) 0 (Nat.le_refl _) (by rw [ha, has]; exact hfull) (by omega)
  have hr : (decide (1 ≤ 0 + cs (s.data.toList.take (nameLen s.data.toList)) ∧ 0 + cs (s.data.toList.take (nameLen s.data.toList)) ≤ 32) && (s.data.toList.drop (nameLen s.data.toList) == [])) = isName s.data.toList := by
    rw [Bool.eq_iff_iff, isName_iff]
    simp only [Bool.and_eq_true, decide_eq_true_eq, beq_iff_eq, List.drop_eq_nil_iff, Nat.zero_add]
    by_cases h : bgW s.data.toList = 0
    · rw [nameLen_zero h, List.take_zero]
      have hc : cs ([] : List UInt8) = 0 := rfl
      rw [hc]
      constructor
      · intro h1; omega
      · intro h1; exact absurd h h1.1
    · have hp := gl_pos h
      rw [nameLen_gl h, cs_take]
      have hc := cs_le_gl s.data.toList
      have hl := gl_le s.data.toList
      constructor
      · intro h1; exact ⟨h, by omega, h1.1.2⟩
      · intro h1; exact ⟨⟨by omega, h1.2.2⟩, by omega⟩
  rw [ha, hb, hr] at hE
  refine Ev.congr (fun k => ?_) hE
  unfold deckleref08_Right.f deckleref08_Take.f
  rw [if_pos (by omega)]
  rfl

theorem rdOf_at (l : List ByteArray) (i : Nat) (h : i < l.length) : rdOf ByteArray.empty l (i : Int) = l[i] := by
  unfold rdOf
  rw [Int.toNat_natCast, List.getD_eq_getElem?_getD, List.getElem?_eq_getElem h, Option.getD_some]
theorem drop_cons (l : List ByteArray) (i : Nat) (h : i < l.length) : l.drop i = l[i] :: l.drop (i + 1) := List.drop_eq_getElem_cons h
def okAt (xs : List (List UInt8)) (i : Nat) : Prop := ¬ (xs.getD i [] ≠ [] ∧ xs.getD i [] ∈ xs.take i)
theorem unlFrom_iff : ∀ (t seen : List (List UInt8)), unlFrom seen t = true ↔ ∀ i, i < t.length → ¬ (t.getD i [] ≠ [] ∧ t.getD i [] ∈ seen ++ t.take i)
  | [], seen => by simp [unlFrom]
  | x :: t, seen => by
    unfold unlFrom
    constructor
    · intro h i hi
      split at h
      · cases h
      · rename_i hx
        cases i with
        | zero => simpa using hx
        | succ i =>
          have := (unlFrom_iff t (seen ++ [x])).1 h i (by simpa using hi)
          simpa using this
    · intro h
      have h0 := h 0 (by simp)
      rw [if_neg (by simpa using h0)]
      refine (unlFrom_iff t (seen ++ [x])).2 fun i hi => ?_
      have := h (i + 1) (by simpa using hi)
      simpa using this
theorem unl_iff (xs : List (List UInt8)) : unl xs = true ↔ ∀ i, i < xs.length → okAt xs i := by
  unfold unl okAt
  rw [unlFrom_iff]
  simp
theorem unl_false {xs : List (List UInt8)} {i : Nat} (hi : i < xs.length) (h : ¬ okAt xs i) : unl xs = false := by
  cases hu : unl xs with
  | false => rfl
  | true => exact absurd ((unl_iff xs).1 hu i hi) h
theorem bys_getD (l : List ByteArray) (i : Nat) (h : i < l.length) : (bys l).getD i [] = l[i].data.toList := by
  rw [List.getD_eq_getElem?_getD]
  simp [bys, List.getElem?_map, List.getElem?_eq_getElem h]
theorem bys_length (l : List ByteArray) : (bys l).length = l.length := by simp [bys]
theorem bys_take_mem (l : List ByteArray) (i : Nat) (x : List UInt8) : x ∈ (bys l).take i ↔ ∃ j, j < i ∧ ∃ h : j < l.length, l[j].data.toList = x := by
  rw [List.mem_iff_getElem]
  constructor
  · rintro ⟨j, hj, e⟩
    rw [List.length_take, bys_length] at hj
    refine ⟨j, by omega, by omega, ?_⟩
    rw [List.getElem_take] at e
    simpa [bys] using e
  · rintro ⟨j, hj, h, e⟩
    refine ⟨j, by rw [List.length_take, bys_length]; omega, ?_⟩
    rw [List.getElem_take]
    simpa [bys] using e

/-- Round i of the outer loop, from place j of the inner one on. -/
theorem ref_Unlike_l1 (l : List ByteArray) (hl : l.length ≤ 4611686018427387904) (i : Nat) (hi : i < l.length) (r : Bool) (hbad : ¬ okAt (bys l) i → r = false)
    (hnext : okAt (bys l) i → Ev (fun k => deckleref08_Unlike.l0 k l ((i + 1 : Nat) : Int)) r) (d : Nat) : ∀ j : Nat, i ≤ j + d → j ≤ i →
    (∀ m, m < j → ∀ h : m < l.length, ¬ (l[i].data.toList ≠ [] ∧ l[m].data.toList = l[i].data.toList)) →
    Ev (fun k => deckleref08_Unlike.l1 k l (i : Int) (j : Int)) r := by
  have hend : ∀ j : Nat, j = i → (∀ m, m < j → ∀ h : m < l.length, ¬ (l[i].data.toList ≠ [] ∧ l[m].data.toList = l[i].data.toList)) → Ev (fun k => deckleref08_Unlike.l1 k l (i : Int) (j : Int)) r := by
    intro j hj hno
    subst hj
    have hok : okAt (bys l) j := by
      rintro ⟨h1, h2⟩
      rw [bys_getD l j hi] at h1 h2
      obtain ⟨m, hm, hml, e⟩ := (bys_take_mem l j _).1 h2
      exact hno m hm hml ⟨h1, e⟩
    refine Ev.step (fun k => ?_) (hnext hok)
    rw [deckleref08_Unlike.l1, if_neg (by omega), wrap_nat rfl (by omega)]
  induction d with
  | zero =>
    intro j h1 h2 hno
    exact hend j (by omega) hno
  | succ d ih =>
    intro j h1 h2 hno
    by_cases hlt : j < i
    · by_cases he : l[i].data.toList = []
      · have h3 := ih (j + 1) (by omega) (by omega) (fun m hm h => fun hh => hh.1 he)
        refine Ev.step (fun k => ?_) h3
        rw [deckleref08_Unlike.l1, if_pos (by omega), if_pos (by omega), if_pos (by omega), rdOf_at l i hi, ByteArray.toList_eq, if_pos he, wrap_nat rfl (by omega)]
      · by_cases hs : l[i].data.toList = l[j].data.toList
        · have hr := hbad (fun hok => hok ⟨by rw [bys_getD l i hi]; exact he, by
            rw [bys_getD l i hi]
            exact (bys_take_mem l i _).2 ⟨j, hlt, by omega, hs.symm⟩⟩)
          rw [hr]
          refine Ev.step (f := fun _ => some false) (fun k => ?_) (Ev.now _)
          rw [deckleref08_Unlike.l1, if_pos (by omega), if_pos (by omega), if_pos (by omega), rdOf_at l i hi, rdOf_at l j (by omega), ByteArray.toList_eq, ByteArray.toList_eq, if_neg he, if_pos (by omega), if_pos (by omega), if_pos hs]
        · have h3 := ih (j + 1) (by omega) (by omega) (fun m hm h => by
            by_cases e : m = j
            · subst e
              exact fun hh => hs hh.2.symm
            · exact hno m (by omega) h)
          refine Ev.step (fun k => ?_) h3
          rw [deckleref08_Unlike.l1, if_pos (by omega), if_pos (by omega), if_pos (by omega), rdOf_at l i hi, rdOf_at l j (by omega), ByteArray.toList_eq, ByteArray.toList_eq, if_neg he, if_pos (by omega), if_pos (by omega), if_neg hs, wrap_nat rfl (by omega)]
    · exact hend j (by omega) hno
theorem ref_Unlike_l0 (l : List ByteArray) (hl : l.length ≤ 4611686018427387904) (d : Nat) : ∀ i : Nat, l.length ≤ i + d → (∀ m, m < i → m < l.length → okAt (bys l) m) →
    Ev (fun k => deckleref08_Unlike.l0 k l (i : Int)) (unl (bys l)) := by
  have hend : ∀ i : Nat, ¬ i < l.length → (∀ m, m < i → m < l.length → okAt (bys l) m) → Ev (fun k => deckleref08_Unlike.l0 k l (i : Int)) (unl (bys l)) := by
    intro i hi hok
    have : unl (bys l) = true := (unl_iff _).2 fun m hm => hok m (by rw [bys_length] at hm; omega) (by rw [bys_length] at hm; exact hm)
    rw [this]
    refine Ev.step (f := fun _ => some true) (fun k => ?_) (Ev.now _)
    rw [deckleref08_Unlike.l0, if_neg (by omega)]
  induction d with
  | zero =>
    intro i hi hok
    exact hend i (by omega) hok
  | succ d ih =>
    intro i hi hok
    by_cases hlt : i < l.length
    · refine Ev.step (f := fun k => deckleref08_Unlike.l1 k l (i : Int) ((0 : Nat) : Int)) (fun k => ?_) (ref_Unlike_l1 l hl i hlt _ (fun hb => unl_false (by rw [bys_length]; exact hlt) hb) (fun hg => ih (i + 1) (by omega) (fun m hm hml => ?_)) i 0 (by omega) (by omega) (fun m hm => absurd hm (by omega)))
      · rw [deckleref08_Unlike.l0, if_pos (by omega)]
        rfl
      · by_cases e : m = i
        · subst e; exact hg
        · exact hok m (by omega) hml
    · exact hend i hlt hok
theorem ref_Unlike (l : List ByteArray) (hl : l.length ≤ 4611686018427387904) : Ev (fun k => deckleref08_Unlike.f k l) (unl (bys l)) :=
  ref_Unlike_l0 l hl l.length 0 (by omega) (fun m hm => absurd hm (by omega))
end Go.Proofs.YtmddkjmcbddhiaaDoor.P
end
