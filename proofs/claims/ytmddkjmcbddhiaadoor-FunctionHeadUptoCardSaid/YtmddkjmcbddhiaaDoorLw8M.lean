/-
  P32
  Plain: names as lists of bytes: how many bytes a sign has that begins a name or goes on, how far a name reaches, how many signs it has; and that the program's runes tell the same. No program in sight.
  What the printed functions of the reference 08 come to, in plain words: the widths of signs. No memory in sight.
  The walk of the reference's Take: it takes off the name that stands first, at every string. No condition.
  What the program's functions of layer 8 come to, in plain words: the name that stands first, whether a text is a name; and what CutPrefix cuts.
-/
import Derived.Test.YtmddkjmcbddhiaaDoorP0M
import Derived.Test.YtmddkjmcbddhiaaDoorSpM
import Derived.Lib.DecodeN
import Derived.Lib.RuneCount
import Derived.Test.YtmddkjmcbddhiaaDoorP26M
import Derived.Test.YtmddkjmcbddhiaaDoorGTakeM
section
-- written by wip/tools/print2.py (a program of this session over the kit's print); not trusted: Lean checks it
namespace Go.Proofs.YtmddkjmcbddhiaaDoor.P
open Go.RowKit Go.Proofs.YtmddkjmcbddhiaaDoorW.PrintWords Go.Proofs.YtmddkjmcbddhiaaDoorW.PrintLast Go.Proofs.YtmddkjmcbddhiaaDoorW.PrintMore
attribute [local go_sem] max2_int min2_int max_two min_two max_three min_three max_four min_four   -- for this text's walks alone
set_option linter.unusedVariables false
set_option linter.unusedSimpArgs false

/-! ### deckleref08_begins: function 81 -/
def deckleref08_begins.j0 : Nat → ByteArray → Bool → Option (Int)
  | 0, _, _ => none
  | k + 1, x0, x16 => if x16 = true then (some 3) else (if x0.toList = ([] : List UInt8) then (some 0) else (if 0 < (x0.size : Int) then (if (bt x0 0) ≥ 65 then (if (bt x0 0) ≤ 90 then (some 1) else (if (bt x0 0) ≥ 97 then (if (bt x0 0) ≤ 122 then (some 1) else (if (bt x0 0) = 95 then (some 1) else (some 0))) else (if (bt x0 0) = 95 then (some 1) else (some 0)))) else (if (bt x0 0) ≥ 97 then (if (bt x0 0) ≤ 122 then (some 1) else (if (bt x0 0) = 95 then (some 1) else (some 0))) else (if (bt x0 0) = 95 then (some 1) else (some 0)))) else (none)))
def deckleref08_begins.f (k : Nat) (a0 : ByteArray) : Option (Int) := if (a0.size : Int) ≥ 3 then (if 0 ≤ 3 then (if 3 ≤ (a0.size : Int) then (if (a0.extract 0 3).toList = ([226, 136, 134] : List UInt8) then (deckleref08_begins.j0 k a0 true) else (deckleref08_begins.j0 k a0 ((a0.extract 0 3).toList == ([226, 141, 153] : List UInt8)))) else (none)) else (none)) else (deckleref08_begins.j0 k a0 false)
theorem deckleref08_begins.mono_l : ∀ k, (∀ y0 y1, LeO (deckleref08_begins.j0 k y0 y1) (deckleref08_begins.j0 (k + 1) y0 y1))
  | 0 => fun _ _ r h => by simp [deckleref08_begins.j0] at h
  | k + 1 => by
    have ih0 := deckleref08_begins.mono_l k
    · intro y0 y1
      unfold deckleref08_begins.j0
      repeat' first
      | (with_reducible exact ih0 _ _)
      | (with_reducible exact LeO.refl _)
      | (with_reducible exact LeO.none _)
      | (with_reducible refine LeO.ite ?_ ?_)
      | (with_reducible refine LeO.bind ?_ (fun _ => ?_))
      | exact ih0 _ _
      | exact LeO.none _
      | refine LeO.ite ?_ ?_
      | refine LeO.bind ?_ (fun _ => ?_)
theorem deckleref08_begins.mono : ∀ a0 k, LeO (deckleref08_begins.f k a0) (deckleref08_begins.f (k + 1) a0) := by
  intro a0 k
  have ih0 := deckleref08_begins.mono_l k
  unfold deckleref08_begins.f
  repeat' first
      | (with_reducible exact ih0 _ _)
      | (with_reducible exact LeO.refl _)
      | (with_reducible exact LeO.none _)
      | (with_reducible refine LeO.ite ?_ ?_)
      | (with_reducible refine LeO.bind ?_ (fun _ => ?_))
      | exact ih0 _ _
      | exact LeO.none _
      | refine LeO.ite ?_ ?_
      | refine LeO.bind ?_ (fun _ => ?_)
set_option maxHeartbeats 8000000 in
set_option maxRecDepth 100000 in
theorem deckleref08_begins.calls (k : Nat) (a0 : ByteArray) (r : Int) (w : World) (h : deckleref08_begins.f k a0 = some r) :
    Calls Tryd.prog 81 #[.string a0] w fun e w' => e = .returned (.int .i64 r) ∧ Drawn0 w w' := by
  have H : (if (a0.size : Int) ≥ 3 then (if 0 ≤ 3 then (if 3 ≤ (a0.size : Int) then (if (a0.extract 0 3).toList = ([226, 136, 134] : List UInt8) then (deckleref08_begins.j0 k a0 true) else (deckleref08_begins.j0 k a0 ((a0.extract 0 3).toList == ([226, 141, 153] : List UInt8)))) else (none)) else (none)) else (deckleref08_begins.j0 k a0 false)) = some r := h
  clear h
  have HC2 := Aside0.mk H
  clear H
  go_enter Tryd.func81, Tryd.ntmps81
  go_upto_region 1 with (fail)
  go_cut [16] (fun v16 wc => ∃ (kq : Nat) (x16_1 : Bool), v16 = .bool x16_1 ∧ Aside0 (deckleref08_begins.j0 kq a0 x16_1 = some r) ∧ Aside0 (kq ≤ k) ∧ Drawn0 w wc)
  case first =>
    have H := HC2.out
    clear HC2
    by_cases c3 : (a0.size : Int) ≥ 3
    · rw [if_pos c3] at H
      have c3b0 : decide (3 ≤ (a0.size : Int)) = true := decide_eq_true c3
      have c3b1 : decide (3 ≤ a0.size) = true := decide_eq_true (by omega)
      clear c3
      (first | rw [c3b0] | (simp only [i64_w, i32_w]; rw [c3b0]) | skip)
      by_cases c4 : 0 ≤ 3
      · rw [if_pos c4] at H
        have c4b0 := eq_true c4
        have c4b1 : decide (0 ≤ 3) = true := decide_eq_true c4
        clear c4
        by_cases c5 : 3 ≤ (a0.size : Int)
        · rw [if_pos c5] at H
          have c5b0 := eq_true c5
          have c5b1 : decide (3 ≤ (a0.size : Int)) = true := decide_eq_true c5
          clear c5
          by_cases c6 : (a0.extract 0 3).toList = ([226, 136, 134] : List UInt8)
          · rw [if_pos c6] at H
            have c6b0 : ((a0.extract 0 3).toList == ([226, 136, 134] : List UInt8)) = true := beq_iff_eq.mpr c6
            have c6b1 : ((a0.extract 0 3).toList != ([226, 136, 134] : List UInt8)) = false := bne_eq_false_iff_eq.mpr c6
            clear c6
            have H' := Aside0.mk H
            clear H
            go_wp2
            go_meet
            case rel => exact ⟨_, (true), (by first | rfl | (simp; done) | (simp [*]; done)), H', ⟨by first | omega | exact Nat.le_refl _⟩, by repeat (first | exact Drawn0.refl _ | apply Drawn0.step)⟩
          · rw [if_neg c6] at H
            have c6b0 : ((a0.extract 0 3).toList == ([226, 136, 134] : List UInt8)) = false := beq_eq_false_iff_ne.mpr c6
            have c6b1 : ((a0.extract 0 3).toList != ([226, 136, 134] : List UInt8)) = true := bne_iff_ne.mpr c6
            have c7b0 := eq_true (of_decide_eq_true (by first | (with_reducible assumption) | assumption) : 0 ≤ 3)
            have c8b0 := eq_true (of_decide_eq_true (by first | (with_reducible assumption) | assumption) : 3 ≤ (a0.size : Int))
            have H' := Aside0.mk H
            clear H
            go_wp2
            go_meet
            case rel => exact ⟨_, (((a0.extract 0 3).toList == ([226, 141, 153] : List UInt8))), (by first | rfl | (simp; done) | (simp [*]; done)), H', ⟨by first | omega | exact Nat.le_refl _⟩, by repeat (first | exact Drawn0.refl _ | apply Drawn0.step)⟩
        · rw [if_neg c5] at H
          exact absurd H (by simp)
      · rw [if_neg c4] at H
        exact absurd H (by simp)
    · rw [if_neg c3] at H
      have c3b0 : decide (3 ≤ (a0.size : Int)) = false := decide_eq_false c3
      have c3b1 : decide (3 ≤ a0.size) = false := decide_eq_false (by omega)
      clear c3
      (first | rw [c3b0] | (simp only [i64_w, i32_w]; rw [c3b0]) | skip)
      have H' := Aside0.mk H
      clear H
      go_wp2
      go_meet
      case rel => exact ⟨_, (false), (by first | rfl | (simp; done) | (simp [*]; done)), H', ⟨by first | omega | exact Nat.le_refl _⟩, by repeat (first | exact Drawn0.refl _ | apply Drawn0.step)⟩
  case rest =>
    clear HC2
    try clear p2
    try clear c3
    try clear c3b0
    try clear c3b1
    try clear c4
    try clear c4b0
    try clear c4b1
    try clear c5
    try clear c5b0
    try clear c5b1
    try clear c6
    try clear c6b0
    try clear c6b1
    try clear c7
    try clear c7b0
    try clear c8
    try clear c8b0
    obtain ⟨kq, x16_1, rfl, HA, HJ1, ⟨mc1, rfl⟩⟩ := hcut
    cases kq with
    | zero => exact absurd HA.out (by simp [deckleref08_begins.j0])
    | succ kj1 =>
      have H := HA.out
      clear HA
      simp only [deckleref08_begins.j0] at H
      by_cases c9 : x16_1 = true
      · subst c9
        have H1 : (some 3) = some r := by rw [if_pos rfl] at H; exact H
        clear H
        have H := H1
        clear H1
        obtain rfl := Option.some.inj H
        go_wp2
        go_ret
        exact ⟨by first | rfl | (simp; done) | (simp [*]; done), by repeat (first | exact Drawn0.refl _ | apply Drawn0.step)⟩
      · replace c9 := Bool.eq_false_iff.mpr c9
        subst c9
        have H1 : (if a0.toList = ([] : List UInt8) then (some 0) else (if 0 < (a0.size : Int) then (if (bt a0 0) ≥ 65 then (if (bt a0 0) ≤ 90 then (some 1) else (if (bt a0 0) ≥ 97 then (if (bt a0 0) ≤ 122 then (some 1) else (if (bt a0 0) = 95 then (some 1) else (some 0))) else (if (bt a0 0) = 95 then (some 1) else (some 0)))) else (if (bt a0 0) ≥ 97 then (if (bt a0 0) ≤ 122 then (some 1) else (if (bt a0 0) = 95 then (some 1) else (some 0))) else (if (bt a0 0) = 95 then (some 1) else (some 0)))) else (none))) = some r := by rw [if_neg (show ¬ (false = true) by decide)] at H; exact H
        clear H
        have H := H1
        clear H1
        by_cases c10 : a0.toList = ([] : List UInt8)
        · rw [if_pos c10] at H
          have c10b0 : (a0.toList == ([] : List UInt8)) = true := beq_iff_eq.mpr c10
          have c10b1 : (a0.toList != ([] : List UInt8)) = false := bne_eq_false_iff_eq.mpr c10
          clear c10
          obtain rfl := Option.some.inj H
          go_wp2
          go_ret
          exact ⟨by first | rfl | (simp; done) | (simp [*]; done), by repeat (first | exact Drawn0.refl _ | apply Drawn0.step)⟩
        · rw [if_neg c10] at H
          have c10b0 : (a0.toList == ([] : List UInt8)) = false := beq_eq_false_iff_ne.mpr c10
          have c10b1 : (a0.toList != ([] : List UInt8)) = true := bne_iff_ne.mpr c10
          by_cases c11 : 0 < (a0.size : Int)
          · rw [if_pos c11] at H
            have c11b0 : decide (0 < (a0.size : Int)) = true := decide_eq_true c11
            have c11b1 : decide (0 < a0.size) = true := decide_eq_true (by omega)
            clear c11
            by_cases c13 : (bt a0 0) ≥ 65
            · rw [if_pos c13] at H
              have c13b0 : decide (65 ≤ (bt a0 0)) = true := decide_eq_true c13
              clear c13
              by_cases c14 : (bt a0 0) ≤ 90
              · rw [if_pos c14] at H
                have c14b0 : decide ((bt a0 0) ≤ 90) = true := decide_eq_true c14
                clear c14
                obtain rfl := Option.some.inj H
                have p12 : 0 ≤ (0 : Int) := (by omega)
                have q12 : 0 < a0.size := (by have : (0 : Int) < (a0.size : Int) := of_decide_eq_true (by first | (with_reducible assumption) | assumption); omega)
                have hx12 : ∀ h : 0 < a0.size, ((a0[0]'h).toNat : Int) = bt a0 0 := bt_at a0 0
                clear p12
                have qi12 : (0 < (a0.size : Int)) = True := eq_true (of_decide_eq_true (by first | (with_reducible assumption) | assumption))
                replace q12 := eq_true q12
                go_wp2
                go_ret
                exact ⟨by first | rfl | (simp; done) | (simp [*]; done), by repeat (first | exact Drawn0.refl _ | apply Drawn0.step)⟩
              · rw [if_neg c14] at H
                have c14b0 : decide ((bt a0 0) ≤ 90) = false := decide_eq_false c14
                clear c14
                by_cases c15 : (bt a0 0) ≥ 97
                · rw [if_pos c15] at H
                  have c15b0 : decide (97 ≤ (bt a0 0)) = true := decide_eq_true c15
                  clear c15
                  by_cases c16 : (bt a0 0) ≤ 122
                  · rw [if_pos c16] at H
                    have c16b0 : decide ((bt a0 0) ≤ 122) = true := decide_eq_true c16
                    clear c16
                    obtain rfl := Option.some.inj H
                    have p12 : 0 ≤ (0 : Int) := (by omega)
                    have q12 : 0 < a0.size := (by have : (0 : Int) < (a0.size : Int) := of_decide_eq_true (by first | (with_reducible assumption) | assumption); omega)
                    have hx12 : ∀ h : 0 < a0.size, ((a0[0]'h).toNat : Int) = bt a0 0 := bt_at a0 0
                    clear p12
                    have qi12 : (0 < (a0.size : Int)) = True := eq_true (of_decide_eq_true (by first | (with_reducible assumption) | assumption))
                    replace q12 := eq_true q12
                    go_wp2
                    go_ret
                    exact ⟨by first | rfl | (simp; done) | (simp [*]; done), by repeat (first | exact Drawn0.refl _ | apply Drawn0.step)⟩
                  · rw [if_neg c16] at H
                    have c16b0 : decide ((bt a0 0) ≤ 122) = false := decide_eq_false c16
                    clear c16
                    by_cases c17 : (bt a0 0) = 95
                    · rw [if_pos c17] at H
                      have c17b0 : ((bt a0 0) == 95) = true := beq_iff_eq.mpr c17
                      have c17b1 : ((bt a0 0) != 95) = false := bne_eq_false_iff_eq.mpr c17
                      clear c17
                      obtain rfl := Option.some.inj H
                      have p12 : 0 ≤ (0 : Int) := (by omega)
                      have q12 : 0 < a0.size := (by have : (0 : Int) < (a0.size : Int) := of_decide_eq_true (by first | (with_reducible assumption) | assumption); omega)
                      have hx12 : ∀ h : 0 < a0.size, ((a0[0]'h).toNat : Int) = bt a0 0 := bt_at a0 0
                      clear p12
                      have qi12 : (0 < (a0.size : Int)) = True := eq_true (of_decide_eq_true (by first | (with_reducible assumption) | assumption))
                      replace q12 := eq_true q12
                      go_wp2
                      go_ret
                      exact ⟨by first | rfl | (simp; done) | (simp [*]; done), by repeat (first | exact Drawn0.refl _ | apply Drawn0.step)⟩
                    · rw [if_neg c17] at H
                      have c17b0 : ((bt a0 0) == 95) = false := beq_eq_false_iff_ne.mpr c17
                      have c17b1 : ((bt a0 0) != 95) = true := bne_iff_ne.mpr c17
                      obtain rfl := Option.some.inj H
                      have p12 : 0 ≤ (0 : Int) := (by omega)
                      have q12 : 0 < a0.size := (by have : (0 : Int) < (a0.size : Int) := of_decide_eq_true (by first | (with_reducible assumption) | assumption); omega)
                      have hx12 : ∀ h : 0 < a0.size, ((a0[0]'h).toNat : Int) = bt a0 0 := bt_at a0 0
                      clear p12
                      have qi12 : (0 < (a0.size : Int)) = True := eq_true (of_decide_eq_true (by first | (with_reducible assumption) | assumption))
                      replace q12 := eq_true q12
                      go_wp2
                      go_ret
                      exact ⟨by first | rfl | (simp; done) | (simp [*]; done), by repeat (first | exact Drawn0.refl _ | apply Drawn0.step)⟩
                · rw [if_neg c15] at H
                  have c15b0 : decide (97 ≤ (bt a0 0)) = false := decide_eq_false c15
                  clear c15
                  by_cases c18 : (bt a0 0) = 95
                  · rw [if_pos c18] at H
                    have c18b0 : ((bt a0 0) == 95) = true := beq_iff_eq.mpr c18
                    have c18b1 : ((bt a0 0) != 95) = false := bne_eq_false_iff_eq.mpr c18
                    clear c18
                    obtain rfl := Option.some.inj H
                    have p12 : 0 ≤ (0 : Int) := (by omega)
                    have q12 : 0 < a0.size := (by have : (0 : Int) < (a0.size : Int) := of_decide_eq_true (by first | (with_reducible assumption) | assumption); omega)
                    have hx12 : ∀ h : 0 < a0.size, ((a0[0]'h).toNat : Int) = bt a0 0 := bt_at a0 0
                    clear p12
                    have qi12 : (0 < (a0.size : Int)) = True := eq_true (of_decide_eq_true (by first | (with_reducible assumption) | assumption))
                    replace q12 := eq_true q12
                    go_wp2
                    go_ret
                    exact ⟨by first | rfl | (simp; done) | (simp [*]; done), by repeat (first | exact Drawn0.refl _ | apply Drawn0.step)⟩
                  · rw [if_neg c18] at H
                    have c18b0 : ((bt a0 0) == 95) = false := beq_eq_false_iff_ne.mpr c18
                    have c18b1 : ((bt a0 0) != 95) = true := bne_iff_ne.mpr c18
                    obtain rfl := Option.some.inj H
                    have p12 : 0 ≤ (0 : Int) := (by omega)
                    have q12 : 0 < a0.size := (by have : (0 : Int) < (a0.size : Int) := of_decide_eq_true (by first | (with_reducible assumption) | assumption); omega)
                    have hx12 : ∀ h : 0 < a0.size, ((a0[0]'h).toNat : Int) = bt a0 0 := bt_at a0 0
                    clear p12
                    have qi12 : (0 < (a0.size : Int)) = True := eq_true (of_decide_eq_true (by first | (with_reducible assumption) | assumption))
                    replace q12 := eq_true q12
                    go_wp2
                    go_ret
                    exact ⟨by first | rfl | (simp; done) | (simp [*]; done), by repeat (first | exact Drawn0.refl _ | apply Drawn0.step)⟩
            · rw [if_neg c13] at H
              have c13b0 : decide (65 ≤ (bt a0 0)) = false := decide_eq_false c13
              clear c13
              by_cases c19 : (bt a0 0) ≥ 97
              · rw [if_pos c19] at H
                have c19b0 : decide (97 ≤ (bt a0 0)) = true := decide_eq_true c19
                clear c19
                by_cases c20 : (bt a0 0) ≤ 122
                · rw [if_pos c20] at H
                  have c20b0 : decide ((bt a0 0) ≤ 122) = true := decide_eq_true c20
                  clear c20
                  obtain rfl := Option.some.inj H
                  have p12 : 0 ≤ (0 : Int) := (by omega)
                  have q12 : 0 < a0.size := (by have : (0 : Int) < (a0.size : Int) := of_decide_eq_true (by first | (with_reducible assumption) | assumption); omega)
                  have hx12 : ∀ h : 0 < a0.size, ((a0[0]'h).toNat : Int) = bt a0 0 := bt_at a0 0
                  clear p12
                  have qi12 : (0 < (a0.size : Int)) = True := eq_true (of_decide_eq_true (by first | (with_reducible assumption) | assumption))
                  replace q12 := eq_true q12
                  go_wp2
                  go_ret
                  exact ⟨by first | rfl | (simp; done) | (simp [*]; done), by repeat (first | exact Drawn0.refl _ | apply Drawn0.step)⟩
                · rw [if_neg c20] at H
                  have c20b0 : decide ((bt a0 0) ≤ 122) = false := decide_eq_false c20
                  clear c20
                  by_cases c21 : (bt a0 0) = 95
                  · rw [if_pos c21] at H
                    have c21b0 : ((bt a0 0) == 95) = true := beq_iff_eq.mpr c21
                    have c21b1 : ((bt a0 0) != 95) = false := bne_eq_false_iff_eq.mpr c21
                    clear c21
                    obtain rfl := Option.some.inj H
                    have p12 : 0 ≤ (0 : Int) := (by omega)
                    have q12 : 0 < a0.size := (by have : (0 : Int) < (a0.size : Int) := of_decide_eq_true (by first | (with_reducible assumption) | assumption); omega)
                    have hx12 : ∀ h : 0 < a0.size, ((a0[0]'h).toNat : Int) = bt a0 0 := bt_at a0 0
                    clear p12
                    have qi12 : (0 < (a0.size : Int)) = True := eq_true (of_decide_eq_true (by first | (with_reducible assumption) | assumption))
                    replace q12 := eq_true q12
                    go_wp2
                    go_ret
                    exact ⟨by first | rfl | (simp; done) | (simp [*]; done), by repeat (first | exact Drawn0.refl _ | apply Drawn0.step)⟩
                  · rw [if_neg c21] at H
                    have c21b0 : ((bt a0 0) == 95) = false := beq_eq_false_iff_ne.mpr c21
                    have c21b1 : ((bt a0 0) != 95) = true := bne_iff_ne.mpr c21
                    obtain rfl := Option.some.inj H
                    have p12 : 0 ≤ (0 : Int) := (by omega)
                    have q12 : 0 < a0.size := (by have : (0 : Int) < (a0.size : Int) := of_decide_eq_true (by first | (with_reducible assumption) | assumption); omega)
                    have hx12 : ∀ h : 0 < a0.size, ((a0[0]'h).toNat : Int) = bt a0 0 := bt_at a0 0
                    clear p12
                    have qi12 : (0 < (a0.size : Int)) = True := eq_true (of_decide_eq_true (by first | (with_reducible assumption) | assumption))
                    replace q12 := eq_true q12
                    go_wp2
                    go_ret
                    exact ⟨by first | rfl | (simp; done) | (simp [*]; done), by repeat (first | exact Drawn0.refl _ | apply Drawn0.step)⟩
              · rw [if_neg c19] at H
                have c19b0 : decide (97 ≤ (bt a0 0)) = false := decide_eq_false c19
                clear c19
                by_cases c22 : (bt a0 0) = 95
                · rw [if_pos c22] at H
                  have c22b0 : ((bt a0 0) == 95) = true := beq_iff_eq.mpr c22
                  have c22b1 : ((bt a0 0) != 95) = false := bne_eq_false_iff_eq.mpr c22
                  clear c22
                  obtain rfl := Option.some.inj H
                  have p12 : 0 ≤ (0 : Int) := (by omega)
                  have q12 : 0 < a0.size := (by have : (0 : Int) < (a0.size : Int) := of_decide_eq_true (by first | (with_reducible assumption) | assumption); omega)
                  have hx12 : ∀ h : 0 < a0.size, ((a0[0]'h).toNat : Int) = bt a0 0 := bt_at a0 0
                  clear p12
                  have qi12 : (0 < (a0.size : Int)) = True := eq_true (of_decide_eq_true (by first | (with_reducible assumption) | assumption))
                  replace q12 := eq_true q12
                  go_wp2
                  go_ret
                  exact ⟨by first | rfl | (simp; done) | (simp [*]; done), by repeat (first | exact Drawn0.refl _ | apply Drawn0.step)⟩
                · rw [if_neg c22] at H
                  have c22b0 : ((bt a0 0) == 95) = false := beq_eq_false_iff_ne.mpr c22
                  have c22b1 : ((bt a0 0) != 95) = true := bne_iff_ne.mpr c22
                  obtain rfl := Option.some.inj H
                  have p12 : 0 ≤ (0 : Int) := (by omega)
                  have q12 : 0 < a0.size := (by have : (0 : Int) < (a0.size : Int) := of_decide_eq_true (by first | (with_reducible assumption) | assumption); omega)
                  have hx12 : ∀ h : 0 < a0.size, ((a0[0]'h).toNat : Int) = bt a0 0 := bt_at a0 0
                  clear p12
                  have qi12 : (0 < (a0.size : Int)) = True := eq_true (of_decide_eq_true (by first | (with_reducible assumption) | assumption))
                  replace q12 := eq_true q12
                  go_wp2
                  go_ret
                  exact ⟨by first | rfl | (simp; done) | (simp [*]; done), by repeat (first | exact Drawn0.refl _ | apply Drawn0.step)⟩
          · rw [if_neg c11] at H
            exact absurd H (by simp)

/-! ### deckleref08_goes: function 82 -/
def deckleref08_goes.j0 : Nat → ByteArray → Bool → Option (Int)
  | 0, _, _ => none
  | k + 1, x0, x14 => if x14 = true then (some 1) else (if (x0.size : Int) ≥ 2 then (if 0 ≤ 2 then (if 2 ≤ (x0.size : Int) then (if (x0.extract 0 2).toList = ([194, 175] : List UInt8) then (some 2) else ((deckleref08_begins.f k x0).bind fun t381 => (some t381))) else (none)) else (none)) else ((deckleref08_begins.f k x0).bind fun t382 => (some t382)))
def deckleref08_goes.f (k : Nat) (a0 : ByteArray) : Option (Int) := if a0.toList = ([] : List UInt8) then (deckleref08_goes.j0 k a0 false) else (if 0 < (a0.size : Int) then (if (bt a0 0) ≥ 48 then (deckleref08_goes.j0 k a0 (decide ((bt a0 0) ≤ 57))) else (deckleref08_goes.j0 k a0 false)) else (none))
theorem deckleref08_goes.mono_l : ∀ k, (∀ y0 y1, LeO (deckleref08_goes.j0 k y0 y1) (deckleref08_goes.j0 (k + 1) y0 y1))
  | 0 => fun _ _ r h => by simp [deckleref08_goes.j0] at h
  | k + 1 => by
    have ih0 := deckleref08_goes.mono_l k
    · intro y0 y1
      unfold deckleref08_goes.j0
      repeat' first
      | (with_reducible exact ih0 _ _)
      | (with_reducible exact deckleref08_begins.mono _ _)
      | (with_reducible exact LeO.refl _)
      | (with_reducible exact LeO.none _)
      | (with_reducible refine LeO.ite ?_ ?_)
      | (with_reducible refine LeO.bind ?_ (fun _ => ?_))
      | exact ih0 _ _
      | exact deckleref08_begins.mono _ _
      | exact LeO.none _
      | refine LeO.ite ?_ ?_
      | refine LeO.bind ?_ (fun _ => ?_)
theorem deckleref08_goes.mono : ∀ a0 k, LeO (deckleref08_goes.f k a0) (deckleref08_goes.f (k + 1) a0) := by
  intro a0 k
  have ih0 := deckleref08_goes.mono_l k
  unfold deckleref08_goes.f
  repeat' first
      | (with_reducible exact ih0 _ _)
      | (with_reducible exact deckleref08_begins.mono _ _)
      | (with_reducible exact LeO.refl _)
      | (with_reducible exact LeO.none _)
      | (with_reducible refine LeO.ite ?_ ?_)
      | (with_reducible refine LeO.bind ?_ (fun _ => ?_))
      | exact ih0 _ _
      | exact deckleref08_begins.mono _ _
      | exact LeO.none _
      | refine LeO.ite ?_ ?_
      | refine LeO.bind ?_ (fun _ => ?_)
set_option maxHeartbeats 8000000 in
set_option maxRecDepth 100000 in
theorem deckleref08_goes.calls (k : Nat) (a0 : ByteArray) (r : Int) (w : World) (h : deckleref08_goes.f k a0 = some r) :
    Calls Tryd.prog 82 #[.string a0] w fun e w' => e = .returned (.int .i64 r) ∧ Drawn0 w w' := by
  have H : (if a0.toList = ([] : List UInt8) then (deckleref08_goes.j0 k a0 false) else (if 0 < (a0.size : Int) then (if (bt a0 0) ≥ 48 then (deckleref08_goes.j0 k a0 (decide ((bt a0 0) ≤ 57))) else (deckleref08_goes.j0 k a0 false)) else (none))) = some r := h
  clear h
  have HC2 := Aside0.mk H
  clear H
  go_enter Tryd.func82, Tryd.ntmps82
  go_upto_region 1 with (fail)
  go_cut [14] (fun v14 wc => ∃ (kq : Nat) (x14_1 : Bool), v14 = .bool x14_1 ∧ Aside0 (deckleref08_goes.j0 kq a0 x14_1 = some r) ∧ Aside0 (kq ≤ k) ∧ Drawn0 w wc)
  case first =>
    have H := HC2.out
    clear HC2
    by_cases c3 : a0.toList = ([] : List UInt8)
    · rw [if_pos c3] at H
      have c3b0 : (a0.toList == ([] : List UInt8)) = true := beq_iff_eq.mpr c3
      have c3b1 : (a0.toList != ([] : List UInt8)) = false := bne_eq_false_iff_eq.mpr c3
      clear c3
      (first | rw [c3b0] | (simp only [i64_w, i32_w]; rw [c3b0]) | skip)
      have H' := Aside0.mk H
      clear H
      go_wp2
      go_meet
      case rel => exact ⟨_, (false), (by first | rfl | (simp; done) | (simp [*]; done)), H', ⟨by first | omega | exact Nat.le_refl _⟩, by repeat (first | exact Drawn0.refl _ | apply Drawn0.step)⟩
    · rw [if_neg c3] at H
      have c3b0 : (a0.toList == ([] : List UInt8)) = false := beq_eq_false_iff_ne.mpr c3
      have c3b1 : (a0.toList != ([] : List UInt8)) = true := bne_iff_ne.mpr c3
      (first | rw [c3b0] | (simp only [i64_w, i32_w]; rw [c3b0]) | skip)
      by_cases c4 : 0 < (a0.size : Int)
      · rw [if_pos c4] at H
        have c4b0 : decide (0 < (a0.size : Int)) = true := decide_eq_true c4
        have c4b1 : decide (0 < a0.size) = true := decide_eq_true (by omega)
        clear c4
        by_cases c6 : (bt a0 0) ≥ 48
        · rw [if_pos c6] at H
          have c6b0 : decide (48 ≤ (bt a0 0)) = true := decide_eq_true c6
          clear c6
          have H' := Aside0.mk H
          clear H
          have p5 : 0 ≤ (0 : Int) := (by omega)
          have q5 : 0 < a0.size := (by have : (0 : Int) < (a0.size : Int) := of_decide_eq_true (by first | (with_reducible assumption) | assumption); omega)
          have hx5 : ∀ h : 0 < a0.size, ((a0[0]'h).toNat : Int) = bt a0 0 := bt_at a0 0
          clear p5
          have qi5 : (0 < (a0.size : Int)) = True := eq_true (of_decide_eq_true (by first | (with_reducible assumption) | assumption))
          replace q5 := eq_true q5
          have p7 : 0 ≤ (0 : Int) := (by omega)
          have q7 : 0 < a0.size := (by have : (0 : Int) < (a0.size : Int) := of_decide_eq_true (by first | (with_reducible assumption) | assumption); omega)
          have hx7 : ∀ h : 0 < a0.size, ((a0[0]'h).toNat : Int) = bt a0 0 := bt_at a0 0
          clear p7
          have qi7 : (0 < (a0.size : Int)) = True := eq_true (of_decide_eq_true (by first | (with_reducible assumption) | assumption))
          replace q7 := eq_true q7
          go_wp2
          go_meet
          case rel => exact ⟨_, (decide ((bt a0 0) ≤ 57)), (by first | rfl | (simp; done) | (simp [*]; done)), H', ⟨by first | omega | exact Nat.le_refl _⟩, by repeat (first | exact Drawn0.refl _ | apply Drawn0.step)⟩
        · rw [if_neg c6] at H
          have c6b0 : decide (48 ≤ (bt a0 0)) = false := decide_eq_false c6
          clear c6
          have H' := Aside0.mk H
          clear H
          have p5 : 0 ≤ (0 : Int) := (by omega)
          have q5 : 0 < a0.size := (by have : (0 : Int) < (a0.size : Int) := of_decide_eq_true (by first | (with_reducible assumption) | assumption); omega)
          have hx5 : ∀ h : 0 < a0.size, ((a0[0]'h).toNat : Int) = bt a0 0 := bt_at a0 0
          clear p5
          have qi5 : (0 < (a0.size : Int)) = True := eq_true (of_decide_eq_true (by first | (with_reducible assumption) | assumption))
          replace q5 := eq_true q5
          go_wp2
          go_meet
          case rel => exact ⟨_, (false), (by first | rfl | (simp; done) | (simp [*]; done)), H', ⟨by first | omega | exact Nat.le_refl _⟩, by repeat (first | exact Drawn0.refl _ | apply Drawn0.step)⟩
      · rw [if_neg c4] at H
        exact absurd H (by simp)
  case rest =>
    clear HC2
    try clear p2
    try clear c3
    try clear c3b0
    try clear c3b1
    try clear c4
    try clear c4b0
    try clear c4b1
    try clear p5
    try clear q5
    try clear hx5
    try clear qi5
    try clear c6
    try clear c6b0
    try clear p7
    try clear q7
    try clear hx7
    try clear qi7
    try clear p5
    try clear p7
    try clear q5
    try clear q7
    obtain ⟨kq, x14_1, rfl, HA, HJ1, ⟨mc1, rfl⟩⟩ := hcut
    cases kq with
    | zero => exact absurd HA.out (by simp [deckleref08_goes.j0])
    | succ kj1 =>
      have H := HA.out
      clear HA
      simp only [deckleref08_goes.j0] at H
      by_cases c8 : x14_1 = true
      · subst c8
        have H1 : (some 1) = some r := by rw [if_pos rfl] at H; exact H
        clear H
        have H := H1
        clear H1
        obtain rfl := Option.some.inj H
        go_wp2
        go_ret
        exact ⟨by first | rfl | (simp; done) | (simp [*]; done), by repeat (first | exact Drawn0.refl _ | apply Drawn0.step)⟩
      · replace c8 := Bool.eq_false_iff.mpr c8
        subst c8
        have H1 : (if (a0.size : Int) ≥ 2 then (if 0 ≤ 2 then (if 2 ≤ (a0.size : Int) then (if (a0.extract 0 2).toList = ([194, 175] : List UInt8) then (some 2) else ((deckleref08_begins.f kj1 a0).bind fun t381 => (some t381))) else (none)) else (none)) else ((deckleref08_begins.f kj1 a0).bind fun t382 => (some t382))) = some r := by rw [if_neg (show ¬ (false = true) by decide)] at H; exact H
        clear H
        have H := H1
        clear H1
        by_cases c9 : (a0.size : Int) ≥ 2
        · rw [if_pos c9] at H
          have c9b0 : decide (2 ≤ (a0.size : Int)) = true := decide_eq_true c9
          have c9b1 : decide (2 ≤ a0.size) = true := decide_eq_true (by omega)
          clear c9
          by_cases c10 : 0 ≤ 2
          · rw [if_pos c10] at H
            have c10b0 := eq_true c10
            have c10b1 : decide (0 ≤ 2) = true := decide_eq_true c10
            clear c10
            by_cases c11 : 2 ≤ (a0.size : Int)
            · rw [if_pos c11] at H
              have c11b0 := eq_true c11
              have c11b1 : decide (2 ≤ (a0.size : Int)) = true := decide_eq_true c11
              clear c11
              by_cases c12 : (a0.extract 0 2).toList = ([194, 175] : List UInt8)
              · rw [if_pos c12] at H
                have c12b0 : ((a0.extract 0 2).toList == ([194, 175] : List UInt8)) = true := beq_iff_eq.mpr c12
                have c12b1 : ((a0.extract 0 2).toList != ([194, 175] : List UInt8)) = false := bne_eq_false_iff_eq.mpr c12
                clear c12
                obtain rfl := Option.some.inj H
                go_wp2
                go_ret
                exact ⟨by first | rfl | (simp; done) | (simp [*]; done), by repeat (first | exact Drawn0.refl _ | apply Drawn0.step)⟩
              · rw [if_neg c12] at H
                have c12b0 : ((a0.extract 0 2).toList == ([194, 175] : List UInt8)) = false := beq_eq_false_iff_ne.mpr c12
                have c12b1 : ((a0.extract 0 2).toList != ([194, 175] : List UInt8)) = true := bne_iff_ne.mpr c12
                replace H := Option.bind_eq_some_iff.mp H
                obtain ⟨t381, A130, H⟩ := H
                replace H : (some t381) = some r := H
                have A13 := Aside0.mk A130
                clear A130
                obtain rfl := Option.some.inj H
                go_wp2_with (first | ((with_reducible refine gate_callee (f := 81) rfl ?_); refine goesL_ (some 24) rfl rfl Tryd.func81 (by kernel_rfl) rfl #[.string a0] rfl (by (try simp only [List.map_toArray, List.map_cons, List.map_nil]); first | done | rfl | (simp only [List.length_drop, List.length_take]; rfl)) ?_; (with_reducible refine (deckleref08_begins.calls kj1 a0 t381 _ A13.out).mono ?_); rintro e w' ⟨rfl, ⟨nd, rfl⟩⟩; refine ⟨_, rfl, ?_⟩))
                go_ret
                exact ⟨by first | rfl | (simp; done) | (simp [*]; done), by repeat (first | exact Drawn0.refl _ | apply Drawn0.step)⟩
            · rw [if_neg c11] at H
              exact absurd H (by simp)
          · rw [if_neg c10] at H
            exact absurd H (by simp)
        · rw [if_neg c9] at H
          have c9b0 : decide (2 ≤ (a0.size : Int)) = false := decide_eq_false c9
          have c9b1 : decide (2 ≤ a0.size) = false := decide_eq_false (by omega)
          clear c9
          replace H := Option.bind_eq_some_iff.mp H
          obtain ⟨t382, A140, H⟩ := H
          replace H : (some t382) = some r := H
          have A14 := Aside0.mk A140
          clear A140
          obtain rfl := Option.some.inj H
          go_wp2_with (first | ((with_reducible refine gate_callee (f := 81) rfl ?_); refine goesL_ (some 24) rfl rfl Tryd.func81 (by kernel_rfl) rfl #[.string a0] rfl (by (try simp only [List.map_toArray, List.map_cons, List.map_nil]); first | done | rfl | (simp only [List.length_drop, List.length_take]; rfl)) ?_; (with_reducible refine (deckleref08_begins.calls kj1 a0 t382 _ A14.out).mono ?_); rintro e w' ⟨rfl, ⟨nd, rfl⟩⟩; refine ⟨_, rfl, ?_⟩))
          go_ret
          exact ⟨by first | rfl | (simp; done) | (simp [*]; done), by repeat (first | exact Drawn0.refl _ | apply Drawn0.step)⟩

end Go.Proofs.YtmddkjmcbddhiaaDoor.P
end
section
namespace Go.Proofs.YtmddkjmcbddhiaaDoor.Sp
set_option linter.unusedVariables false
set_option linter.unusedSimpArgs false

/-- The byte at place i, as a number (0 beyond the end). -/
def at8 (l : List UInt8) (i : Nat) : Nat := (l.getD i 0).toNat
theorem at8_lt (l : List UInt8) (i : Nat) : at8 l i < 256 := (l.getD i 0).toNat_lt
def letN (b : Nat) : Bool := (65 ≤ b && b ≤ 90) || (97 ≤ b && b ≤ 122) || b == 95
def bgN (n b0 b1 b2 : Nat) : Nat :=
  if letN b0 = true then 1 else if b0 = 226 ∧ 2 < n ∧ (b1 = 136 ∧ b2 = 134 ∨ b1 = 141 ∧ b2 = 153) then 3 else 0
def gN (n b0 b1 b2 : Nat) : Nat :=
  if 48 ≤ b0 ∧ b0 ≤ 57 then 1 else if b0 = 194 ∧ 1 < n ∧ b1 = 175 then 2 else bgN n b0 b1 b2
/-- How many bytes a sign has that begins a name, or goes on, and stands first (0: none does). -/
def bgW (l : List UInt8) : Nat := bgN l.length (at8 l 0) (at8 l 1) (at8 l 2)
def gW (l : List UInt8) : Nat := gN l.length (at8 l 0) (at8 l 1) (at8 l 2)

theorem at8_drop (l : List UInt8) (p i : Nat) : at8 (l.drop p) i = at8 l (p + i) := by simp [at8, List.getD, List.getElem?_drop]
theorem at8_append (l r : List UInt8) (i : Nat) (h : i < l.length) : at8 (l ++ r) i = at8 l i := by simp [at8, List.getD, List.getElem?_append_left h]
theorem at8_take (l : List UInt8) (m i : Nat) (h : i < m) : at8 (l.take m) i = at8 l i := by simp [at8, List.getD, List.getElem?_take, h]
theorem at8_end (l : List UInt8) (i : Nat) (h : l.length ≤ i) : at8 l i = 0 := by simp [at8, List.getD, List.getElem?_eq_none h]

theorem letN_pos {b : Nat} (h : letN b = true) : 65 ≤ b ∧ b ≤ 122 := by
  simp only [letN, Bool.or_eq_true, Bool.and_eq_true, decide_eq_true_eq, beq_iff_eq] at h
  omega
theorem bgN_le {n b0 b1 b2 : Nat} (h0 : n = 0 → b0 = 0) : bgN n b0 b1 b2 ≤ n ∧ bgN n b0 b1 b2 ≤ 3 := by
  unfold bgN
  split
  · rename_i h
    have := letN_pos h
    omega
  · split <;> omega
theorem gN_le {n b0 b1 b2 : Nat} (h0 : n = 0 → b0 = 0) : gN n b0 b1 b2 ≤ n ∧ gN n b0 b1 b2 ≤ 3 := by
  unfold gN
  split
  · omega
  · split
    · omega
    · exact bgN_le h0
theorem at8_nil0 (l : List UInt8) : l.length = 0 → at8 l 0 = 0 := fun h => at8_end l 0 (by omega)
theorem bgW_le (l : List UInt8) : bgW l ≤ l.length := (bgN_le (at8_nil0 l)).1
theorem gW_le (l : List UInt8) : gW l ≤ l.length := (gN_le (at8_nil0 l)).1
theorem gW_le3 (l : List UInt8) : gW l ≤ 3 := (gN_le (at8_nil0 l)).2
theorem gW_nil : gW [] = 0 := rfl
theorem bgW_nil : bgW [] = 0 := rfl

/-- What begins a name goes on. -/
theorem gW_of_bgW {l : List UInt8} (h : bgW l ≠ 0) : gW l = bgW l := by
  unfold bgW at h ⊢
  unfold gW gN
  have hb : ¬ (48 ≤ at8 l 0 ∧ at8 l 0 ≤ 57) ∧ at8 l 0 ≠ 194 := by
    unfold bgN at h
    split at h
    · rename_i h1
      have := letN_pos h1
      refine ⟨?_, by omega⟩
      intro h2
      omega
    · split at h
      · rename_i h1
        omega
      · exact absurd rfl h
  rw [if_neg hb.1, if_neg (fun h1 => hb.2 h1.1)]

/-- A sign is told by its own bytes: what stands behind it makes no odds. -/
theorem gN_more {n m b0 b1 b2 c1 c2 : Nat} (hm : n ≤ m) (h : gN n b0 b1 b2 ≠ 0) (h1 : 1 < gN n b0 b1 b2 → c1 = b1) (h2 : 2 < gN n b0 b1 b2 → c2 = b2) (hn : gN n b0 b1 b2 ≤ n) : gN m b0 c1 c2 = gN n b0 b1 b2 := by
  unfold gN at *
  split
  · rfl
  · rename_i hd
    rw [if_neg hd] at h h1 h2 hn
    by_cases ho : b0 = 194 ∧ 1 < n ∧ b1 = 175
    · rw [if_pos ho] at h1 ⊢
      rw [if_pos ⟨ho.1, by omega, by rw [h1 (by omega)]; exact ho.2.2⟩]
    · rw [if_neg ho] at h h1 h2 hn ⊢
      unfold bgN at *
      by_cases hl : letN b0 = true
      · have := letN_pos hl
        rw [if_neg (by omega), if_pos hl, if_pos hl]
      · rw [if_neg hl] at h h1 h2 hn ⊢
        by_cases h3 : b0 = 226 ∧ 2 < n ∧ (b1 = 136 ∧ b2 = 134 ∨ b1 = 141 ∧ b2 = 153)
        · rw [if_pos h3] at h1 h2 ⊢
          rw [if_neg (by omega), if_neg hl, if_pos ⟨h3.1, by omega, by rw [h1 (by omega), h2 (by omega)]; exact h3.2.2⟩]
        · rw [if_neg h3] at h
          exact absurd rfl h
theorem gW_append {l : List UInt8} (r : List UInt8) (h : gW l ≠ 0) : gW (l ++ r) = gW l := by
  have hl := gW_le l
  have e0 : at8 (l ++ r) 0 = at8 l 0 := at8_append l r 0 (by omega)
  unfold gW at *
  rw [e0]
  exact gN_more (by simp) h (fun h1 => at8_append l r 1 (by omega)) (fun h2 => at8_append l r 2 (by omega)) hl
theorem gW_take {l : List UInt8} {m : Nat} (h : gW (l.take m) ≠ 0) : gW l = gW (l.take m) := by
  have := gW_append (l.drop m) h
  rwa [List.take_append_drop] at this
theorem bgW_more {n m b0 b1 b2 c1 c2 : Nat} (hm : n ≤ m) (h : bgN n b0 b1 b2 ≠ 0) (h1 : 1 < bgN n b0 b1 b2 → c1 = b1) (h2 : 2 < bgN n b0 b1 b2 → c2 = b2) (hn : bgN n b0 b1 b2 ≤ n) : bgN m b0 c1 c2 = bgN n b0 b1 b2 := by
  unfold bgN at *
  by_cases hl : letN b0 = true
  · rw [if_pos hl, if_pos hl]
  · rw [if_neg hl] at h h1 h2 hn ⊢
    by_cases h3 : b0 = 226 ∧ 2 < n ∧ (b1 = 136 ∧ b2 = 134 ∨ b1 = 141 ∧ b2 = 153)
    · rw [if_pos h3] at h1 h2 ⊢
      rw [if_neg hl, if_pos ⟨h3.1, by omega, by rw [h1 (by omega), h2 (by omega)]; exact h3.2.2⟩]
    · rw [if_neg h3] at h
      exact absurd rfl h
theorem bgW_append {l : List UInt8} (r : List UInt8) (h : bgW l ≠ 0) : bgW (l ++ r) = bgW l := by
  have hl := bgW_le l
  have e0 : at8 (l ++ r) 0 = at8 l 0 := at8_append l r 0 (by omega)
  unfold bgW at *
  rw [e0]
  exact bgW_more (by simp) h (fun h1 => at8_append l r 1 (by omega)) (fun h2 => at8_append l r 2 (by omega)) hl
/-- Cut behind its own bytes a sign is the same. -/
theorem gW_take_of {l : List UInt8} {m : Nat} (h : gW l ≤ m) : gW (l.take m) = gW l := by
  by_cases hz : gW l = 0
  · by_cases hz2 : gW (l.take m) = 0
    · rw [hz, hz2]
    · exact (gW_take hz2).symm
  · have hle := gW_le l
    by_cases hml : l.length ≤ m
    · rw [List.take_of_length_le hml]
    · have hlen : (l.take m).length = m := by rw [List.length_take]; omega
      have e0 : at8 (l.take m) 0 = at8 l 0 := at8_take l m 0 (by omega)
      have hl3 := gW_le3 l
      unfold gW at *
      rw [e0, hlen]
      have e1 : 1 < m → at8 (l.take m) 1 = at8 l 1 := fun h1 => at8_take l m 1 h1
      have e2 : 2 < m → at8 (l.take m) 2 = at8 l 2 := fun h1 => at8_take l m 2 h1
      unfold gN bgN at *
      by_cases hd : 48 ≤ at8 l 0 ∧ at8 l 0 ≤ 57
      · rw [if_pos hd, if_pos hd]
      · rw [if_neg hd] at h hz hle ⊢
        rw [if_neg hd]
        by_cases ho : at8 l 0 = 194 ∧ 1 < l.length ∧ at8 l 1 = 175
        · rw [if_pos ho] at h ⊢
          rw [if_pos ⟨ho.1, by omega, by rw [e1 (by omega)]; exact ho.2.2⟩]
        · rw [if_neg ho] at h hz hle ⊢
          by_cases hl : letN (at8 l 0) = true
          · have := letN_pos hl
            rw [if_neg (by omega), if_pos hl, if_pos hl]
          · rw [if_neg hl] at h hz hle ⊢
            by_cases h3 : at8 l 0 = 226 ∧ 2 < l.length ∧ (at8 l 1 = 136 ∧ at8 l 2 = 134 ∨ at8 l 1 = 141 ∧ at8 l 2 = 153)
            · rw [if_pos h3] at h ⊢
              rw [if_neg (by omega), if_neg hl, if_pos ⟨h3.1, by omega, by rw [e1 (by omega), e2 (by omega)]; exact h3.2.2⟩]
            · rw [if_neg h3] at hz
              exact absurd rfl hz

theorem bgW_take_of {l : List UInt8} {m : Nat} (h : bgW l ≤ m) : bgW (l.take m) = bgW l := by
  by_cases hz2 : bgW (l.take m) = 0
  · by_cases hz : bgW l = 0
    · rw [hz, hz2]
    · exfalso
      have hg : gW (l.take m) = bgW l := by rw [← gW_of_bgW hz]; exact gW_take_of (by rw [gW_of_bgW hz]; exact h)
      have e0 : at8 (l.take m) 0 = at8 l 0 := at8_take l m 0 (by omega)
      -- what begins is no digit and not the sign that only goes on
      unfold gW gN at hg
      unfold bgW at hz2
      rw [hz2, e0] at hg
      unfold bgW at hz hg
      have hb : ¬ (48 ≤ at8 l 0 ∧ at8 l 0 ≤ 57) ∧ at8 l 0 ≠ 194 := by
        unfold bgN at hz
        by_cases h1 : letN (at8 l 0) = true
        · have := letN_pos h1
          refine ⟨?_, by omega⟩
          intro h2
          omega
        · rw [if_neg h1] at hz
          by_cases h2 : at8 l 0 = 226 ∧ 2 < l.length ∧ (at8 l 1 = 136 ∧ at8 l 2 = 134 ∨ at8 l 1 = 141 ∧ at8 l 2 = 153)
          · omega
          · rw [if_neg h2] at hz
            exact absurd rfl hz
      rw [if_neg hb.1, if_neg (fun h1 => hb.2 h1.1)] at hg
      exact hz hg.symm
  · have := bgW_append (l.drop m) hz2
    rw [List.take_append_drop] at this
    exact this.symm

/-! ### How far signs go on, and how many they are -/
def goLen : Nat → List UInt8 → Nat
  | 0, _ => 0
  | f + 1, l => if gW l = 0 then 0 else gW l + goLen f (l.drop (gW l))
def gl (l : List UInt8) : Nat := goLen l.length l
def csN : Nat → List UInt8 → Nat
  | 0, _ => 0
  | f + 1, l => if gW l = 0 then 0 else 1 + csN f (l.drop (gW l))
/-- The number of signs that go on from the start. -/
def cs (l : List UInt8) : Nat := csN l.length l
theorem goLen_fuel : ∀ (f g : Nat) (l : List UInt8), l.length ≤ f → l.length ≤ g → goLen f l = goLen g l
  | 0, 0, _, _, _ => rfl
  | 0, g + 1, l, h, _ => by
    have : l = [] := List.eq_nil_of_length_eq_zero (by omega)
    subst this
    simp [goLen, gW_nil]
  | f + 1, 0, l, _, h => by
    have : l = [] := List.eq_nil_of_length_eq_zero (by omega)
    subst this
    simp [goLen, gW_nil]
  | f + 1, g + 1, l, h1, h2 => by
    unfold goLen
    by_cases hz : gW l = 0
    · rw [if_pos hz, if_pos hz]
    · rw [if_neg hz, if_neg hz, goLen_fuel f g (l.drop (gW l)) (by rw [List.length_drop]; omega) (by rw [List.length_drop]; omega)]
theorem csN_fuel : ∀ (f g : Nat) (l : List UInt8), l.length ≤ f → l.length ≤ g → csN f l = csN g l
  | 0, 0, _, _, _ => rfl
  | 0, g + 1, l, h, _ => by
    have : l = [] := List.eq_nil_of_length_eq_zero (by omega)
    subst this
    simp [csN, gW_nil]
  | f + 1, 0, l, _, h => by
    have : l = [] := List.eq_nil_of_length_eq_zero (by omega)
    subst this
    simp [csN, gW_nil]
  | f + 1, g + 1, l, h1, h2 => by
    unfold csN
    by_cases hz : gW l = 0
    · rw [if_pos hz, if_pos hz]
    · rw [if_neg hz, if_neg hz, csN_fuel f g (l.drop (gW l)) (by rw [List.length_drop]; omega) (by rw [List.length_drop]; omega)]
theorem gl_zero {l : List UInt8} (h : gW l = 0) : gl l = 0 := by
  unfold gl
  cases l with
  | nil => rfl
  | cons a t => simp only [List.length_cons, goLen, if_pos h]
theorem gl_step {l : List UInt8} (h : gW l ≠ 0) : gl l = gW l + gl (l.drop (gW l)) := by
  unfold gl
  have hl := gW_le l
  obtain ⟨n, hn⟩ : ∃ n, l.length = n + 1 := ⟨l.length - 1, by omega⟩
  rw [hn]
  show (if gW l = 0 then 0 else gW l + goLen n (l.drop (gW l))) = _
  rw [if_neg h, goLen_fuel n (l.drop (gW l)).length _ (by rw [List.length_drop]; omega) (Nat.le_refl _)]
theorem cs_zero {l : List UInt8} (h : gW l = 0) : cs l = 0 := by
  unfold cs
  cases l with
  | nil => rfl
  | cons a t => simp only [List.length_cons, csN, if_pos h]
theorem cs_step {l : List UInt8} (h : gW l ≠ 0) : cs l = 1 + cs (l.drop (gW l)) := by
  unfold cs
  have hl := gW_le l
  obtain ⟨n, hn⟩ : ∃ n, l.length = n + 1 := ⟨l.length - 1, by omega⟩
  rw [hn]
  show (if gW l = 0 then 0 else 1 + csN n (l.drop (gW l))) = _
  rw [if_neg h, csN_fuel n (l.drop (gW l)).length _ (by rw [List.length_drop]; omega) (Nat.le_refl _)]
/-- Induction along the signs. -/
theorem signs_ind {p : List UInt8 → Prop} (h0 : ∀ l, gW l = 0 → p l) (h1 : ∀ l, gW l ≠ 0 → p (l.drop (gW l)) → p l) : ∀ l, p l := by
  have key : ∀ n (l : List UInt8), l.length ≤ n → p l := by
    intro n
    induction n with
    | zero =>
      intro l hl
      exact h0 l (by have := gW_le l; omega)
    | succ n ih =>
      intro l hl
      by_cases hz : gW l = 0
      · exact h0 l hz
      · exact h1 l hz (ih _ (by rw [List.length_drop]; have := gW_le l; omega))
  exact fun l => key l.length l (Nat.le_refl _)
theorem gl_le (l : List UInt8) : gl l ≤ l.length := by
  induction l using signs_ind with
  | h0 l h => rw [gl_zero h]; omega
  | h1 l h ih =>
    rw [gl_step h]
    rw [List.length_drop] at ih
    have := gW_le l
    omega
/-- Behind the last sign none goes on. -/
theorem gW_behind (l : List UInt8) : gW (l.drop (gl l)) = 0 := by
  induction l using signs_ind with
  | h0 l h => rw [gl_zero h]; exact h
  | h1 l h ih =>
    rw [gl_step h, ← List.drop_drop]
    exact ih
/-- Signs that reach the end, and more. -/
theorem gl_append {l : List UInt8} (r : List UInt8) (h : gl l = l.length) : gl (l ++ r) = l.length + gl r := by
  induction l using signs_ind with
  | h0 l hz =>
    rw [gl_zero hz] at h
    have : l = [] := List.eq_nil_of_length_eq_zero h.symm
    subst this
    simp
  | h1 l hz ih =>
    have hle := gW_le l
    rw [gl_step hz] at h
    have h2 : gl (l.drop (gW l)) = (l.drop (gW l)).length := by rw [List.length_drop]; omega
    rw [gl_step (by rw [gW_append r hz]; exact hz), gW_append r hz, List.drop_append_of_le_length hle, ih h2, List.length_drop]
    omega
theorem cs_append {l : List UInt8} (r : List UInt8) (h : gl l = l.length) : cs (l ++ r) = cs l + cs r := by
  induction l using signs_ind with
  | h0 l hz =>
    rw [gl_zero hz] at h
    have : l = [] := List.eq_nil_of_length_eq_zero h.symm
    subst this
    simp [cs, csN]
  | h1 l hz ih =>
    have hle := gW_le l
    rw [gl_step hz] at h
    have h2 : gl (l.drop (gW l)) = (l.drop (gW l)).length := by rw [List.length_drop]; omega
    rw [cs_step (by rw [gW_append r hz]; exact hz), gW_append r hz, List.drop_append_of_le_length hle, ih h2, cs_step hz]
    omega
/-- What is taken reaches its end. -/
theorem gl_take (l : List UInt8) : gl (l.take (gl l)) = gl l := by
  induction l using signs_ind with
  | h0 l hz => rw [gl_zero hz]; rfl
  | h1 l hz ih =>
    have e := gl_step hz
    have hw : gW (l.take (gl l)) = gW l := gW_take_of (by omega)
    rw [gl_step (by rw [hw]; exact hz), hw, List.drop_take, e, Nat.add_sub_cancel_left, ih]
theorem cs_take (l : List UInt8) : cs (l.take (gl l)) = cs l := by
  induction l using signs_ind with
  | h0 l hz => rw [gl_zero hz, cs_zero hz]; rfl
  | h1 l hz ih =>
    have e := gl_step hz
    have hw : gW (l.take (gl l)) = gW l := gW_take_of (by omega)
    rw [cs_step (by rw [hw]; exact hz), hw, List.drop_take, e, Nat.add_sub_cancel_left, ih, cs_step hz]
theorem cs_le_gl (l : List UInt8) : cs l ≤ gl l ∧ gl l ≤ 3 * cs l := by
  induction l using signs_ind with
  | h0 l hz => rw [gl_zero hz, cs_zero hz]; omega
  | h1 l hz ih =>
    have := gW_le3 l
    rw [gl_step hz, cs_step hz]
    omega

/-! ### Names -/
/-- How many bytes the name takes that stands first (0: none does). -/
def nameLen (l : List UInt8) : Nat := if bgW l = 0 then 0 else gl l
/-- A name: one sign that begins, any that go on, 32 at most. -/
def isName (l : List UInt8) : Bool := decide (bgW l ≠ 0) && decide (gl l = l.length) && decide (cs l ≤ 32)
theorem nameLen_le (l : List UInt8) : nameLen l ≤ l.length := by
  unfold nameLen
  split
  · omega
  · exact gl_le l

theorem nameLen_zero {l : List UInt8} (h : bgW l = 0) : nameLen l = 0 := by unfold nameLen; rw [if_pos h]
theorem nameLen_gl {l : List UInt8} (h : bgW l ≠ 0) : nameLen l = gl l := by unfold nameLen; rw [if_neg h]
theorem gl_pos {l : List UInt8} (h : bgW l ≠ 0) : bgW l ≤ gl l ∧ 0 < gl l := by
  have hg := gW_of_bgW h
  rw [gl_step (by rw [hg]; exact h), hg]
  omega
theorem nameLen_pos {l : List UInt8} (h : bgW l ≠ 0) : 0 < nameLen l := by rw [nameLen_gl h]; exact (gl_pos h).2
theorem nameLen_ne {l : List UInt8} (h : nameLen l ≠ 0) : bgW l ≠ 0 := fun h0 => h (nameLen_zero h0)
/-- What is taken is taken whole. -/
theorem nameLen_take (l : List UInt8) : nameLen (l.take (nameLen l)) = nameLen l := by
  by_cases h : bgW l = 0
  · rw [nameLen_zero h]; rfl
  · have hp := gl_pos h
    have hb : bgW (l.take (gl l)) = bgW l := bgW_take_of hp.1
    rw [nameLen_gl h, nameLen_gl (by rw [hb]; exact h), gl_take]
theorem bgW_take_name {l : List UInt8} (h : bgW l ≠ 0) : bgW (l.take (nameLen l)) ≠ 0 := by
  rw [nameLen_gl h, bgW_take_of (gl_pos h).1]
  exact h
theorem isName_iff (l : List UInt8) : isName l = true ↔ bgW l ≠ 0 ∧ gl l = l.length ∧ cs l ≤ 32 := by
  simp only [isName, Bool.and_eq_true, decide_eq_true_eq, and_assoc]
theorem nameLen_isName {l : List UInt8} (h : isName l = true) : nameLen l = l.length := by
  obtain ⟨h1, h2, _⟩ := (isName_iff l).1 h
  rw [nameLen_gl h1, h2]
theorem isName_ne {l : List UInt8} (h : isName l = true) : l ≠ [] := by
  intro e
  subst e
  cases h
/-- What is taken is a name, if it is not too long. -/
theorem isName_take {l : List UInt8} (h : bgW l ≠ 0) : isName (l.take (nameLen l)) = decide (cs l ≤ 32) := by
  have hp := gl_pos h
  have hle := gl_le l
  rw [nameLen_gl h]
  unfold isName
  have hb : bgW (l.take (gl l)) = bgW l := bgW_take_of hp.1
  have hl : (l.take (gl l)).length = gl l := by rw [List.length_take]; omega
  rw [hb, gl_take, hl, cs_take, decide_eq_true h]
  simp
/-- A name, and what goes on with no sign of a name: the name is taken. -/
theorem nameLen_append {l r : List UInt8} (h1 : bgW l ≠ 0) (h2 : gl l = l.length) (hr : gW r = 0) : nameLen (l ++ r) = l.length := by
  have hb : bgW (l ++ r) = bgW l := bgW_append r h1
  rw [nameLen_gl (by rw [hb]; exact h1), gl_append r h2, gl_zero hr, Nat.add_zero]
theorem nameLen_name {l r : List UInt8} (h : isName l = true) (hr : gW r = 0) : nameLen (l ++ r) = l.length := by
  obtain ⟨h1, h2, _⟩ := (isName_iff l).1 h
  exact nameLen_append h1 h2 hr

/-! ### The program's runes -/
def dec (l : List UInt8) : Nat × Nat := Lib.decodeN l.length (at8 l 0) (at8 l 1) (at8 l 2) (at8 l 3)
theorem get!_at8 (s : ByteArray) (i : Nat) : (s.get! i).toNat = at8 s.data.toList i := by
  unfold at8
  congr 1
  cases s with
  | mk d =>
    show d[i]! = d.toList.getD i 0
    by_cases h : i < d.size
    · rw [getElem!_pos d i h]; simp [List.getD, h]
    · rw [getElem!_neg d i h]; simp [List.getD, h]; rfl
theorem decode_dec (s : ByteArray) (pos : Nat) : Utf8.decode s pos = dec (s.data.toList.drop pos) := by
  rw [Lib.decode_at, get!_at8, get!_at8, get!_at8, get!_at8]
  unfold dec
  rw [List.length_drop, at8_drop, at8_drop, at8_drop, at8_drop, Nat.add_zero]
  rfl

set_option maxHeartbeats 1000000 in
theorem dec_goes (n b0 b1 b2 b3 : Nat) (hn : 0 < n) (h0 : b0 < 256) (h1 : b1 < 256) (h2 : b2 < 256) :
    (goesR (Lib.decodeN n b0 b1 b2 b3).1 = decide (gN n b0 b1 b2 ≠ 0)) ∧ (gN n b0 b1 b2 ≠ 0 → (Lib.decodeN n b0 b1 b2 b3).2 = gN n b0 b1 b2) ∧
    (beginsR (Lib.decodeN n b0 b1 b2 b3).1 = decide (bgN n b0 b1 b2 ≠ 0)) := by
  have hg : ∀ c : Nat, goesR (c : Int) = decide ((65 ≤ c ∧ c ≤ 90) ∨ (97 ≤ c ∧ c ≤ 122) ∨ c = 95 ∨ c = 8710 ∨ c = 9049 ∨ (48 ≤ c ∧ c ≤ 57) ∨ c = 175) := by
    intro c
    simp only [goesR, beginsR]
    rw [Bool.eq_iff_iff]
    simp only [Bool.or_eq_true, Bool.and_eq_true, decide_eq_true_eq, beq_iff_eq]
    omega
  have hb : ∀ c : Nat, beginsR (c : Int) = decide ((65 ≤ c ∧ c ≤ 90) ∨ (97 ≤ c ∧ c ≤ 122) ∨ c = 95 ∨ c = 8710 ∨ c = 9049) := by
    intro c
    simp only [beginsR]
    rw [Bool.eq_iff_iff]
    simp only [Bool.or_eq_true, Bool.and_eq_true, decide_eq_true_eq, beq_iff_eq]
    omega
  have hl : (letN b0 = true) ↔ ((65 ≤ b0 ∧ b0 ≤ 90) ∨ (97 ≤ b0 ∧ b0 ≤ 122) ∨ b0 = 95) := by
    simp only [letN, Bool.or_eq_true, Bool.and_eq_true, decide_eq_true_eq, beq_iff_eq]
    omega
  rw [hg, hb]
  unfold gN bgN
  simp only [hl, decide_eq_decide]
  unfold Lib.decodeN
  refine ⟨?_, ?_, ?_⟩
  all_goals
    repeat' split
    all_goals first | (simp only at *; omega) | (intro _; simp only at *; omega) | (intro h; exact absurd rfl h) | (intro _; rfl)

theorem goes_dec {l : List UInt8} (h : l ≠ []) : goesR (dec l).1 = decide (gW l ≠ 0) ∧ (gW l ≠ 0 → (dec l).2 = gW l) ∧ beginsR (dec l).1 = decide (bgW l ≠ 0) :=
  dec_goes _ _ _ _ _ (List.length_pos_iff.2 h) (at8_lt _ _) (at8_lt _ _) (at8_lt _ _)

/-- From a place on: the runes reach as far as the signs. -/
theorem takeFrom_gl (s : ByteArray) : ∀ (b pos : Nat), 0 < pos → pos ≤ s.size → s.size ≤ pos + b → takeFrom s b pos = pos + gl (s.data.toList.drop pos)
  | 0, pos, h0, h1, h2 => by
    have : s.data.toList.drop pos = [] := List.drop_eq_nil_of_le (by rw [Array.length_toList]; show s.size ≤ pos; omega)
    rw [this]
    simp [takeFrom, gl, goLen]
    omega
  | b + 1, pos, h0, h1, h2 => by
    have hlen : (s.data.toList.drop pos).length = s.size - pos := by rw [List.length_drop, Array.length_toList]; rfl
    by_cases hp : pos < s.size
    · have hne : s.data.toList.drop pos ≠ [] := by
        intro h
        rw [h] at hlen
        simp at hlen
        omega
      obtain ⟨g1, g2, _⟩ := goes_dec hne
      have hle := gW_le (s.data.toList.drop pos)
      rw [takeFrom, if_pos hp, if_neg (by omega), decode_dec, g1]
      by_cases hz : gW (s.data.toList.drop pos) = 0
      · rw [if_pos (by simp [hz]), gl_zero hz, Nat.add_zero]
      · rw [if_neg (by simp [hz]), g2 hz, takeFrom_gl s b _ (by omega) (by omega) (by omega), gl_step hz, List.drop_drop, Nat.add_assoc]
    · have h3 : gl (s.data.toList.drop pos) ≤ s.size - pos := by rw [← hlen]; exact gl_le _
      rw [takeFrom_end s _ pos hp]
      omega
theorem length_data (s : ByteArray) : s.data.toList.length = s.size := by rw [Array.length_toList]; rfl
/-- WHAT THE PROGRAM TAKES is the name that stands first. -/
theorem takeLen_eq (s : ByteArray) : takeLen s = nameLen s.data.toList := by
  unfold takeLen nameLen
  by_cases hs : s.size = 0
  · have : s.data.toList = [] := List.eq_nil_of_length_eq_zero (by rw [length_data]; exact hs)
    rw [this, hs]
    simp [takeFrom, bgW_nil, hs]
  · obtain ⟨n, hn⟩ : ∃ n, s.size = n + 1 := ⟨s.size - 1, by omega⟩
    have hne : s.data.toList ≠ [] := by
      intro h
      have := length_data s
      rw [h] at this
      simp at this
      omega
    obtain ⟨g1, g2, g3⟩ := goes_dec hne
    have hle := gW_le s.data.toList
    rw [length_data] at hle
    have hd : Utf8.decode s 0 = dec s.data.toList := by rw [decode_dec, List.drop_zero]
    have hu : takeFrom s s.size 0 = if beginsR (dec s.data.toList).1 = false then 0 else if goesR (dec s.data.toList).1 = false then 0 else takeFrom s n (0 + (dec s.data.toList).2) := by
      rw [show s.size = n + 1 from hn, takeFrom, if_pos (by omega), hd]
      simp only [true_and]
    rw [hu, g3]
    by_cases hz : bgW s.data.toList = 0
    · rw [if_pos (by simp [hz]), if_pos hz]
    · have hg : gW s.data.toList ≠ 0 := by rw [gW_of_bgW hz]; exact hz
      rw [if_neg (by simp [hz]), if_neg hz, g1, if_neg (by simp [hg]), g2 hg, Nat.zero_add, takeFrom_gl s n _ (by omega) (by omega) (by omega), gl_step hg]
/-- A text that is all signs has as many runes. -/
theorem runeCountFrom_cs (s : ByteArray) (h : gl s.data.toList = s.size) : ∀ (b pos : Nat), pos ≤ s.size → s.size ≤ pos + b → gl (s.data.toList.drop pos) = s.size - pos → Lib.runeCountFrom s b pos = cs (s.data.toList.drop pos)
  | 0, pos, h1, h2, h3 => by
    have : s.data.toList.drop pos = [] := List.drop_eq_nil_of_le (by rw [length_data]; omega)
    rw [this]
    rfl
  | b + 1, pos, h1, h2, h3 => by
    have hlen : (s.data.toList.drop pos).length = s.size - pos := by rw [List.length_drop, length_data]
    by_cases hp : pos < s.size
    · have hz : gW (s.data.toList.drop pos) ≠ 0 := by
        intro hz
        rw [gl_zero hz] at h3
        omega
      have hne : s.data.toList.drop pos ≠ [] := by
        intro e
        rw [e] at hz
        exact hz rfl
      obtain ⟨g1, g2, _⟩ := goes_dec hne
      have hle := gW_le (s.data.toList.drop pos)
      have h4 := gl_step hz
      rw [Lib.runeCountFrom, if_pos hp, decode_dec, g2 hz, cs_step hz, runeCountFrom_cs s h b _ (by omega) (by omega) (by rw [← List.drop_drop]; omega), List.drop_drop]
    · rw [Lib.runeCountFrom_end s _ pos hp]
      have : s.data.toList.drop pos = [] := List.drop_eq_nil_of_le (by rw [length_data]; omega)
      rw [this]
      rfl
theorem runeCount_cs {s : ByteArray} (h : gl s.data.toList = s.size) : Lib.runeCount s = cs s.data.toList := by
  unfold Lib.runeCount
  rw [runeCountFrom_cs s h s.size 0 (by omega) (by omega) (by simpa using h), List.drop_zero]
end Go.Proofs.YtmddkjmcbddhiaaDoor.Sp
end
section
namespace Go.Proofs.YtmddkjmcbddhiaaDoor.P
open Go.RowKit Go.Proofs.YtmddkjmcbddhiaaDoorW.PrintWords Go.Proofs.YtmddkjmcbddhiaaDoor.Sp
set_option linter.unusedVariables false
set_option linter.unusedSimpArgs false

theorem bt_at8 (s : ByteArray) (i : Nat) : bt s (i : Int) = (at8 s.data.toList i : Int) := by
  unfold bt at8
  simp only [Int.toNat_natCast]
  split
  · rename_i h
    have h' : i < s.data.toList.length := by rw [length_data]; exact h
    rw [List.getD_eq_getElem?_getD, List.getElem?_eq_getElem h', Option.getD_some]
    simp
    rfl
  · rename_i h
    have h' : s.data.toList.length ≤ i := by rw [length_data]; omega
    rw [List.getD_eq_getElem?_getD, List.getElem?_eq_none h']
    rfl
theorem bt_zero (s : ByteArray) : bt s 0 = (at8 s.data.toList 0 : Int) := bt_at8 s 0
theorem take3_iff (l : List UInt8) (x y z : UInt8) : l.take 3 = [x, y, z] ↔ 2 < l.length ∧ at8 l 0 = x.toNat ∧ at8 l 1 = y.toNat ∧ at8 l 2 = z.toNat := by
  match l with
  | [] => simp
  | [a] => simp
  | [a, b] => simp
  | a :: b :: c :: t => simp [at8, UInt8.toNat_inj]
theorem take2_iff (l : List UInt8) (x y : UInt8) : l.take 2 = [x, y] ↔ 1 < l.length ∧ at8 l 0 = x.toNat ∧ at8 l 1 = y.toNat := by
  match l with
  | [] => simp
  | [a] => simp
  | a :: b :: t => simp [at8, UInt8.toNat_inj]
theorem ext_take (s : ByteArray) (n : Nat) : (s.extract 0 n).toList = s.data.toList.take n := by
  rw [ByteArray.toList_eq]
  simp
theorem toList_nil_iff (s : ByteArray) : s.toList = [] ↔ s.size = 0 := by
  rw [ByteArray.toList_eq, ← length_data]
  exact List.length_eq_zero_iff.symm

theorem ref_begins (s : ByteArray) (k : Nat) : deckleref08_begins.f (k + 1) s = some (bgW s.data.toList : Int) := by
  have hsz := length_data s
  have hl : (letN (at8 s.data.toList 0) = true) ↔ ((65 ≤ at8 s.data.toList 0 ∧ at8 s.data.toList 0 ≤ 90) ∨ (97 ≤ at8 s.data.toList 0 ∧ at8 s.data.toList 0 ≤ 122) ∨ at8 s.data.toList 0 = 95) := by
    simp only [letN, Bool.or_eq_true, Bool.and_eq_true, decide_eq_true_eq, beq_iff_eq]
    omega
  have e0 := at8_nil0 s.data.toList
  have hj : ∀ b : Bool, (b = true → at8 s.data.toList 0 = 226 ∧ 2 < s.size ∧ (at8 s.data.toList 1 = 136 ∧ at8 s.data.toList 2 = 134 ∨ at8 s.data.toList 1 = 141 ∧ at8 s.data.toList 2 = 153)) →
      (b = false → ¬ (at8 s.data.toList 0 = 226 ∧ 2 < s.size ∧ (at8 s.data.toList 1 = 136 ∧ at8 s.data.toList 2 = 134 ∨ at8 s.data.toList 1 = 141 ∧ at8 s.data.toList 2 = 153))) →
      deckleref08_begins.j0 (k + 1) s b = some (bgW s.data.toList : Int) := by
    intro b h1 h2
    unfold bgW bgN
    simp only [hl, hsz]
    simp only [deckleref08_begins.j0, bt_zero, toList_nil_iff]
    cases b with
    | true =>
      have h := h1 rfl
      rw [if_pos rfl, if_neg (by omega), if_pos h]
      rfl
    | false =>
      have h := h2 rfl
      rw [if_neg (by simp), if_neg (c := _ ∧ _ ∧ _) h]
      by_cases hz : s.size = 0
      · rw [if_pos hz, if_neg (by omega)]
        rfl
      · rw [if_neg hz, if_pos (by omega)]
        repeat' split
        all_goals first | rfl | (exfalso; omega)
  unfold deckleref08_begins.f
  rw [ext_take]
  by_cases h3 : (s.size : Int) ≥ 3
  · rw [if_pos h3, if_pos (by omega), if_pos (by omega)]
    by_cases ha : s.data.toList.take 3 = [226, 136, 134]
    · rw [if_pos ha]
      have h := (take3_iff _ _ _ _).1 ha
      refine hj true (fun _ => ?_) (fun h => by cases h)
      refine ⟨h.2.1, by omega, .inl ⟨h.2.2.1, h.2.2.2⟩⟩
    · rw [if_neg ha]
      have ha' := fun h => ha ((take3_iff _ _ _ _).2 h)
      refine hj _ (fun h => ?_) (fun h => ?_)
      · have h := (take3_iff _ _ _ _).1 (beq_iff_eq.1 h)
        exact ⟨h.2.1, by omega, .inr ⟨h.2.2.1, h.2.2.2⟩⟩
      · have hb := fun h' => (beq_eq_false_iff_ne.1 h) ((take3_iff _ _ _ _).2 h')
        rintro ⟨h1, h2, h4 | h4⟩
        · exact ha' ⟨by omega, h1, h4.1, h4.2⟩
        · exact hb ⟨by omega, h1, h4.1, h4.2⟩
  · rw [if_neg h3]
    refine hj false (fun h => by cases h) (fun _ h => ?_)
    omega

theorem ref_goes (s : ByteArray) (k : Nat) : deckleref08_goes.f (k + 2) s = some (gW s.data.toList : Int) := by
  have hsz := length_data s
  have e0 := at8_nil0 s.data.toList
  have hj : ∀ b : Bool, (b = true ↔ 48 ≤ at8 s.data.toList 0 ∧ at8 s.data.toList 0 ≤ 57) → deckleref08_goes.j0 (k + 2) s b = some (gW s.data.toList : Int) := by
    intro b hb
    have hg : gW s.data.toList = if 48 ≤ at8 s.data.toList 0 ∧ at8 s.data.toList 0 ≤ 57 then 1 else if at8 s.data.toList 0 = 194 ∧ 1 < s.size ∧ at8 s.data.toList 1 = 175 then 2 else bgW s.data.toList := by
      rw [← hsz]; rfl
    rw [hg]
    simp only [deckleref08_goes.j0, ext_take, ref_begins, Option.bind_some]
    cases b with
    | true => rw [if_pos rfl, if_pos (hb.1 rfl)]; rfl
    | false =>
      rw [if_neg (by simp), if_neg (c := _ ∧ _) (fun h => by have := hb.2 h; cases this)]
      by_cases h2 : (s.size : Int) ≥ 2
      · rw [if_pos h2, if_pos (by omega), if_pos (by omega)]
        by_cases ha : s.data.toList.take 2 = [194, 175]
        · have h := (take2_iff _ _ _).1 ha
          rw [if_pos ha, if_pos ⟨h.2.1, by omega, h.2.2⟩]
          rfl
        · rw [if_neg ha, if_neg (fun h => ha ((take2_iff _ _ _).2 ⟨by omega, h.1, h.2.2⟩))]
      · rw [if_neg h2, if_neg (by omega)]
  unfold deckleref08_goes.f
  simp only [bt_zero, toList_nil_iff]
  by_cases hz : s.size = 0
  · rw [if_pos hz]
    exact hj false ⟨(fun h => by cases h), (fun h => by omega)⟩
  · rw [if_neg hz, if_pos (by omega)]
    by_cases h48 : (at8 s.data.toList 0 : Int) ≥ 48
    · rw [if_pos h48]
      refine hj _ ⟨fun h => ?_, fun h => ?_⟩
      · have := of_decide_eq_true h
        omega
      · exact decide_eq_true (by omega)
    · rw [if_neg h48]
      exact hj false ⟨(fun h => by cases h), (fun h => by omega)⟩
end Go.Proofs.YtmddkjmcbddhiaaDoor.P
end
section
namespace Go.Proofs.YtmddkjmcbddhiaaDoor.P
open Go.RowKit Go.Proofs.YtmddkjmcbddhiaaDoorW.PrintWords Go.Proofs.YtmddkjmcbddhiaaDoor.Sp
set_option linter.unusedVariables false
set_option linter.unusedSimpArgs false

def deckleref08_Take.f (a0 : ByteArray) : Option (ByteArray × ByteArray) :=
  if a0.size ≤ 9223372036854775807 then some (a0.extract 0 (nameLen a0.data.toList), a0.extract (nameLen a0.data.toList) a0.size) else none

theorem extract_data (s : ByteArray) (p : Nat) : (s.extract p s.size).data.toList = s.data.toList.drop p := by
  have h : (s.extract p s.size).data.toList = (s.data.toList.drop p).take (s.size - p) := by simp
  rw [h, List.take_of_length_le (by rw [List.length_drop, length_data]; omega)]

set_option maxHeartbeats 1000000 in
set_option maxRecDepth 100000 in
theorem refTake_walk (s : ByteArray) (w : World) (hs : s.size ≤ 9223372036854775807) :
    Calls Tryd.prog 56 #[.string s] w fun e w' => e = .returned (.tuple #[.string (s.extract 0 (nameLen s.data.toList)), .string (s.extract (nameLen s.data.toList) s.size)]) ∧ Below w.heap.size w w' := by
  have hle := bgW_le s.data.toList
  have hgl := gl_le s.data.toList
  have hsz := length_data s
  rw [hsz] at hle hgl
  clear hsz
  by_cases hz : bgW s.data.toList = 0
  · have hfin : nameLen s.data.toList = 0 := by unfold nameLen; rw [if_pos hz]
    have HF := Aside0.mk hfin
    have HB : Aside0 (deckleref08_begins.f 1 s = some 0) := ⟨by rw [ref_begins s 0, hz]; rfl⟩
    have H1 := Aside0.mk (extract_all s)
    have H2 := Aside0.mk (extract_nil s 0)
    clear hz hfin
    go_enter Tryd.func56, Tryd.ntmps56
    go_wp2_with (first | (go_at_call 81; (with_reducible refine (deckleref08_begins.calls 1 _ 0 _ HB.out).mono ?_); rintro e w' ⟨rfl, ⟨nd, rfl⟩⟩))
    go_ret2
    rw [HF.out, H1.out, H2.out]
    exact ⟨rfl, pw_below_drewN (Below.refl _ _) _⟩
  · have hb0 : ((bgW s.data.toList : Int) == 0) = false := beq_eq_false_iff_ne.mpr (by omega)
    have hg : gW s.data.toList = bgW s.data.toList := gW_of_bgW hz
    have hgz : gW s.data.toList ≠ 0 := by rw [hg]; exact hz
    have HN : Aside0 (nameLen s.data.toList = bgW s.data.toList + gl (s.data.toList.drop (bgW s.data.toList))) := ⟨by unfold nameLen; rw [if_neg hz, gl_step hgz, hg]⟩
    have HB : Aside0 (deckleref08_begins.f 1 s = some (bgW s.data.toList : Int)) := ⟨ref_begins s 0⟩
    have hwp : 1 ≤ bgW s.data.toList := by omega
    clear hz hg hgz hgl
    obtain ⟨b, hbe⟩ : ∃ b, b = bgW s.data.toList := ⟨_, rfl⟩
    rw [← hbe] at hb0 HN HB hle hwp
    clear hbe
    go_enter Tryd.func56, Tryd.ntmps56
    go_wp2_with (first | (go_at_call 81; (with_reducible refine (deckleref08_begins.calls 1 _ (b : Int) _ HB.out).mono ?_); rintro e w' ⟨rfl, ⟨nd, rfl⟩⟩))
    go_loopw [4] (fun n wr => ∃ p : Nat, n = .int .i64 p ∧ p ≤ s.size ∧ Aside0 (p + gl (s.data.toList.drop p) = nameLen s.data.toList) ∧ Below w.heap.size w wr) (fun n _ => s.size - (intOf n).toNat)
    case atStart => exact ⟨b, rfl, hle, ⟨HN.out.symm⟩, pw_below_drewN (Below.refl _ _) _⟩
    case round =>
      obtain ⟨p, rfl, hp, hgp, hbw⟩ := hrel
      obtain ⟨g, hge⟩ : ∃ g, g = gW (s.data.toList.drop p) := ⟨_, rfl⟩
      have hgl := gW_le (s.data.toList.drop p)
      rw [List.length_drop, length_data, ← hge] at hgl
      have HG : Aside0 (deckleref08_goes.f 2 (s.extract p s.size) = some (g : Int)) := ⟨by rw [ref_goes _ 0, extract_data, hge]⟩
      by_cases hz : g = 0
      · have hfin : nameLen s.data.toList = p := by rw [← hgp.out, gl_zero (by rw [← hge]; exact hz), Nat.add_zero]
        have HF := Aside0.mk hfin
        have hnp : ¬ (0 : Int) < (g : Int) := by omega
        have hnp2 : decide ((0 : Int) < (g : Int)) = false := decide_eq_false hnp
        clear hfin hz hge hgp
        go_wp2_with (first | (go_at_call 82; (with_reducible refine (deckleref08_goes.calls 2 _ (g : Int) _ HG.out).mono ?_); rintro e w' ⟨rfl, ⟨nd2, rfl⟩⟩))
        go_quiet (fail)
        go_wp2
        go_ret2
        rw [HF.out]
        exact ⟨rfl, pw_below_drewN (pw_below_drewN hbw _) _⟩
      · have hstep : (p + g) + gl (s.data.toList.drop (p + g)) = nameLen s.data.toList := by
          rw [← hgp.out, gl_step (l := s.data.toList.drop p) (by rw [← hge]; exact hz), ← hge, List.drop_drop]
          omega
        have HS := Aside0.mk hstep
        have hnp : (0 : Int) < (g : Int) := by omega
        clear hstep hz hge hgp
        go_wp2_with (first | (go_at_call 82; (with_reducible refine (deckleref08_goes.calls 2 _ (g : Int) _ HG.out).mono ?_); rintro e w' ⟨rfl, ⟨nd2, rfl⟩⟩))
        go_roundw
        case rel => exact ⟨p + g, by go_num, by omega, HS, pw_below_drewN hbw _⟩
        case measure => simp [intOf]; omega

theorem deckleref08_Take.calls (a0 : ByteArray) (r1 : ByteArray) (r2 : ByteArray) (w : World) (h : deckleref08_Take.f a0 = some (r1, r2)) :
    Calls Tryd.prog 56 #[.string a0] w fun e w' => e = .returned (.tuple #[.string r1, .string r2]) ∧ Below w.heap.size w w' := by
  unfold deckleref08_Take.f at h
  split at h
  · rename_i hs
    obtain ⟨rfl, rfl⟩ := Prod.mk.inj (Option.some.inj h)
    exact refTake_walk a0 w hs
  · cases h
end Go.Proofs.YtmddkjmcbddhiaaDoor.P
end
section
namespace Go.Proofs.YtmddkjmcbddhiaaDoor.P
open Go.RowKit Go.Proofs.YtmddkjmcbddhiaaDoorW.PrintWords Go.Proofs.YtmddkjmcbddhiaaDoor.Sp
set_option linter.unusedVariables false
set_option linter.unusedSimpArgs false

theorem ext_drop (s : ByteArray) (n : Nat) : (s.extract n s.size).toList = s.data.toList.drop n := by
  rw [ByteArray.toList_eq, extract_data]
theorem ext_take_data (s : ByteArray) (n : Nat) : (s.extract 0 n).data.toList = s.data.toList.take n := by
  rw [← ByteArray.toList_eq, ext_take]
theorem append_data (a b : ByteArray) : (a ++ b).data.toList = a.data.toList ++ b.data.toList := by simp
theorem name_Take_f (s : ByteArray) : name_Take.f s = some (s.extract 0 (nameLen s.data.toList), s.extract (nameLen s.data.toList) s.size) := by
  unfold name_Take.f
  rw [takeLen_eq]
theorem name_Right_f (s : ByteArray) (hs : s.size < 9223372036854775807) : name_Right.f s = some (isName s.data.toList) := by
  unfold name_Right.f
  rw [name_Take_f]
  simp only [Option.bind_some, ext_take, ext_drop]
  have hsz := length_data s
  by_cases hb : bgW s.data.toList = 0
  · have h0 : nameLen s.data.toList = 0 := by unfold nameLen; rw [if_pos hb]
    have hf : isName s.data.toList = false := by
      cases h : isName s.data.toList with
      | false => rfl
      | true => exact absurd hb ((isName_iff _).1 h).1
    rw [h0, List.take_zero, if_pos rfl, hf]
  · have hn : nameLen s.data.toList = gl s.data.toList := by unfold nameLen; rw [if_neg hb]
    have hgz : gW s.data.toList ≠ 0 := by rw [gW_of_bgW hb]; exact hb
    have hpos : 0 < gl s.data.toList := by rw [gl_step hgz]; omega
    have hle := gl_le s.data.toList
    rw [hn]
    rw [if_neg (by intro h; have := congrArg List.length h; rw [List.length_take] at this; simp only [List.length_nil] at this; omega)]
    by_cases he : gl s.data.toList = s.data.toList.length
    · have hd : s.data.toList.drop (gl s.data.toList) = [] := List.drop_eq_nil_of_le (by omega)
      have ht : s.extract 0 (gl s.data.toList) = s := by rw [he, hsz]; exact extract_all s
      rw [if_pos hd, ht]
      unfold utf8_RuneCountInString.f
      rw [if_pos hs, runeCount_cs (by rw [he, hsz])]
      simp only [Option.bind_some]
      congr 1
      unfold isName
      rw [decide_eq_true hb, decide_eq_true he]
      simp only [Bool.true_and]
      exact decide_eq_decide.2 (by omega)
    · have hd : s.data.toList.drop (gl s.data.toList) ≠ [] := by
        intro h
        have := congrArg List.length h
        rw [List.length_drop] at this
        simp only [List.length_nil] at this
        omega
      rw [if_neg hd]
      have hf : isName s.data.toList = false := by
        cases h : isName s.data.toList with
        | false => rfl
        | true => exact absurd ((isName_iff _).1 h).2.1 he
      rw [hf]

theorem cutPrefix_f (s p : ByteArray) : strings_CutPrefix.f s p = some (if p.data.toList <+: s.data.toList then (s.extract p.size s.size, true) else (s, false)) := by
  unfold strings_CutPrefix.f stringslite_CutPrefix.f stringslite_HasPrefix.f
  have h1 := length_data s
  have h2 := length_data p
  by_cases hl : (s.size : Int) ≥ (p.size : Int)
  · rw [if_pos hl, if_pos (by omega), if_pos (by omega)]
    simp only [Int.toNat_natCast, ext_take, Option.bind_some]
    by_cases hp : p.data.toList <+: s.data.toList
    · have he : s.data.toList.take p.size = p.data.toList := by rw [← h2]; exact (List.prefix_iff_eq_take.1 hp).symm
      rw [he, ByteArray.toList_eq, beq_self_eq_true, if_pos rfl, if_pos (by omega), if_pos (by omega), if_pos hp]
      rfl
    · have he : ¬ s.data.toList.take p.size = p.data.toList := by
        intro he
        exact hp (List.prefix_iff_eq_take.2 (by rw [h2]; exact he.symm))
      rw [ByteArray.toList_eq, if_neg (by simpa using he), if_neg hp]
      rfl
  · rw [if_neg hl]
    simp only [Option.bind_some]
    have hp : ¬ p.data.toList <+: s.data.toList := by
      intro hp
      have := hp.length_le
      omega
    rw [if_neg (by simp), if_neg hp]
    rfl
end Go.Proofs.YtmddkjmcbddhiaaDoor.P
end
