/-
  P17
  The walk of strings.IndexFunc at function.odd: where the first sign stands that is odd. No condition.
  P19
-/
import Derived.Test.YtmddkjmcbddhiaaDoorP0M
import Derived.Test.YtmddkjmcbddhiaaDoorGLibM
import Derived.Lib.OthersKept
import Derived.Laws.RangeAny
import Derived.Test.YtmddkjmcbddhiaaDoorP26M
section
-- written by wip/tools/print2.py (a program of this session over the kit's print); not trusted: Lean checks it
namespace Go.Proofs.YtmddkjmcbddhiaaDoor.P
open Go.RowKit Go.Proofs.YtmddkjmcbddhiaaDoorW.PrintWords Go.Proofs.YtmddkjmcbddhiaaDoorW.PrintLast Go.Proofs.YtmddkjmcbddhiaaDoorW.PrintMore
attribute [local go_sem] max2_int min2_int max_two min_two max_three min_three max_four min_four   -- for this text's walks alone
set_option linter.unusedVariables false
set_option linter.unusedSimpArgs false

/-! ### signs_Right: function 50 -/
def signs_Right.f (a0 : ByteArray) : Option (Bool) := (utf8_ValidString.f a0).bind fun t287 => (some t287)
set_option maxHeartbeats 8000000 in
set_option maxRecDepth 100000 in
theorem signs_Right.calls (a0 : ByteArray) (r : Bool) (w : World) (hE_ : Env w) (h : signs_Right.f a0 = some r) :
    Calls Tryd.prog 50 #[.string a0] w fun e w' => e = .returned (.bool r) ∧ Below w.heap.size w w' := by
  have HB := Aside0.mk (Below.refl w.heap.size w)
  have HE_ := Aside0.mk hE_
  clear hE_
  have H : ((utf8_ValidString.f a0).bind fun t287 => (some t287)) = some r := h
  clear h
  replace H := Option.bind_eq_some_iff.mp H
  obtain ⟨t287, A20, H⟩ := H
  replace H : (some t287) = some r := H
  have A2 := Aside0.mk A20
  clear A20
  obtain rfl := Option.some.inj H
  go_enter Tryd.func50, Tryd.ntmps50
  go_wp2_with (first | ((with_reducible refine gate_callee (f := 47) rfl ?_); refine goesL_ (some 4) rfl rfl Tryd.func47 (by kernel_rfl) rfl #[.string a0] rfl (by (try simp only [List.map_toArray, List.map_cons, List.map_nil]); first | done | rfl | (simp only [List.length_drop, List.length_take]; rfl)) ?_; (with_reducible refine (utf8_ValidString.calls a0 t287 _ ?side1 A2.out).mono ?_); (case side1 => exact HE_.out.below (by repeat (first | (with_reducible first | exact HB.out | apply below_alloc | apply pw_below_drewN | apply below_drew1) | exact HB.out))); rintro e w3 ⟨rfl, hb⟩; refine ⟨_, rfl, ?_⟩; have n0_ := Aside0.mk (below_step (by repeat (first | (with_reducible first | exact HB.out | apply below_alloc | apply pw_below_drewN | apply below_drew1) | exact HB.out)) hb); clear HB; have HB := n0_; clear n0_; (try clear hb); (try clear hb2); (try clear hk); (try clear hi)))
  go_ret
  exact ⟨by first | rfl | (simp [errW_none, errW_some] <;> rfl) | (simp [*, errW_none, errW_some] <;> rfl), by repeat (first | (with_reducible first | exact HB.out | apply below_alloc | apply pw_below_drewN | apply below_drew1) | exact HB.out)⟩

-- NOT PRINTED: function 77 (strings_indexFunc)

end Go.Proofs.YtmddkjmcbddhiaaDoor.P
end
section
namespace Go.Proofs.YtmddkjmcbddhiaaDoor.P
open Go.RowKit Go.Proofs.YtmddkjmcbddhiaaDoorW.PrintWords
set_option linter.unusedVariables false
set_option linter.unusedSimpArgs false

/-- Is a rune odd? -/
def oddR (c : Int) : Bool := decide (c < 32) || (decide (127 ≤ c) && decide (c ≤ 159))
/-- Where the first odd rune stands, read from place pos on, by at most b runes; -1: none. -/
def oddFrom (s : ByteArray) : Nat → Nat → Int
  | 0, _ => -1
  | b + 1, pos => if pos < s.size then (if oddR (Utf8.decode s pos).1 = true then (pos : Int) else oddFrom s b (pos + (Utf8.decode s pos).2)) else -1
def oddIdx (s : ByteArray) : Int := oddFrom s s.size 0
theorem oddFrom_end (s : ByteArray) (b pos : Nat) (h : ¬ pos < s.size) : oddFrom s b pos = -1 := by
  cases b <;> simp [oddFrom, h]
theorem decode_posI (s : ByteArray) (pos : Nat) (h : pos < s.size) : 1 ≤ (Utf8.decode s pos).2 := by
  by_cases ha : (s[pos]'h).toNat < 128
  · rw [decode_ascii s pos h ha]
    exact Nat.le_refl _
  · exact (decode_high s pos h (by omega)).2

set_option maxHeartbeats 1000000 in
set_option maxRecDepth 100000 in
theorem odd_walk (c : Int) (r : Bool) (w : World) (h : Aside0 (oddR c = r)) :
    Calls Tryd.prog 53 #[.int .i32 c] w fun e w' => e = .returned (.bool r) ∧ ∃ nd, w' = w.drewN nd := by
  obtain ⟨h⟩ := h
  subst h
  unfold oddR
  by_cases c2 : c < 32
  · have c2b0 : decide (c < 32) = true := decide_eq_true c2
    clear c2
    go_enter Tryd.func53, Tryd.ntmps53
    go_wp2
    go_ret
    exact ⟨by first | rfl | (simp; done) | (simp [*]; done), 0, rfl⟩
  · have c2b0 : decide (c < 32) = false := decide_eq_false c2
    clear c2
    by_cases c3 : c ≥ 127
    · have c3b0 : decide (127 ≤ c) = true := decide_eq_true c3
      clear c3
      go_enter Tryd.func53, Tryd.ntmps53
      go_wp2
      go_ret
      exact ⟨by first | rfl | (simp; done) | (simp [*]; done), 0, rfl⟩
    · have c3b0 : decide (127 ≤ c) = false := decide_eq_false c3
      clear c3
      go_enter Tryd.func53, Tryd.ntmps53
      go_wp2
      go_ret
      exact ⟨by first | rfl | (simp; done) | (simp [*]; done), 0, rfl⟩

set_option maxHeartbeats 1000000 in
set_option maxRecDepth 100000 in
theorem indexfunc_walk (s : ByteArray) (w : World) :
    Calls Tryd.prog 77 #[.string s, .func (.func 53) #[] #[], .bool true] w fun e w' => e = .returned (.int .i64 (oddIdx s)) ∧ Below w.heap.size w w' := by
  go_enter Tryd.func77, Tryd.ntmps77
  go_wp2
  go_loopw [] (fun wr => ∃ (pos b : Nat), wr.heap[w.heap.size]? = some (.stringIter s pos) ∧ Below w.heap.size w wr ∧ Aside0 (oddFrom s b pos = oddIdx s) ∧ s.size ≤ pos + b) (fun wr => s.size - wr.iterPos w.heap.size)
  case atStart =>
    exact ⟨0, s.size, World.iter_heap w s 0, (Below.refl _ _).alloc (Nat.le_refl _) _, ⟨rfl⟩, by omega⟩
  case round =>
    obtain ⟨pos, b, hit, hbw, htk, hb⟩ := hrel
    by_cases hp : pos < s.size
    · have hnx : ∀ ty, (Instr.next (.pointer (some ⟨w.heap.size, 0, none⟩)) true ty).run Tryd.prog wr = _ := fun ty => Lib.run_next_any_at wr w.heap.size s pos ty hit hp
      have hwd := decode_posI s pos hp
      have hit2 := Lib.iterAt_heap wr w.heap.size s pos (pos + (Utf8.decode s pos).2) hit
      have hbw2 := Lib.below_iterAt hbw (k := w.heap.size) (Nat.le_refl _) s (pos + (Utf8.decode s pos).2)
      obtain ⟨b, rfl⟩ : ∃ m, b = m + 1 := ⟨b - 1, by omega⟩
      have hu : oddFrom s (b + 1) pos = (if oddR (Utf8.decode s pos).1 = true then (pos : Int) else oddFrom s b (pos + (Utf8.decode s pos).2)) := by
        rw [oddFrom, if_pos hp]
      have HU := Aside0.mk hu
      clear hu
      have hm : (wr.iterAt w.heap.size s (pos + (Utf8.decode s pos).2)).iterPos w.heap.size = pos + (Utf8.decode s pos).2 := by
        simp only [World.iterPos, hit2]
      have hm0 : wr.iterPos w.heap.size = pos := by simp only [World.iterPos, hit]
      have HM := Aside0.mk hm
      have HM0 := Aside0.mk hm0
      clear hm hm0
      cases hgo : oddR (Utf8.decode s pos).1 with
      | true =>
        have HF : Aside0 (oddIdx s = (pos : Int)) := ⟨by rw [← htk.out, HU.out, if_pos hgo]⟩
        have HGO := Aside0.mk hgo
        clear hgo
        go_wp2_with (first | (go_at_call 53; (with_reducible refine (odd_walk _ true _ HGO).mono ?_); rintro e w' ⟨rfl, ⟨nd, rfl⟩⟩))
        go_ret
        rw [HF.out]
        exact ⟨rfl, pw_below_drewN hbw2 _⟩
      | false =>
        have HS : Aside0 (oddFrom s b (pos + (Utf8.decode s pos).2) = oddIdx s) := ⟨by rw [← htk.out, HU.out, if_neg (by simp [hgo])]⟩
        have HGO := Aside0.mk hgo
        clear hgo
        go_wp2_with (first | (go_at_call 53; (with_reducible refine (odd_walk _ false _ HGO).mono ?_); rintro e w' ⟨rfl, ⟨nd, rfl⟩⟩))
        go_roundw
        case rel => exact ⟨pos + (Utf8.decode s pos).2, b, hit2, pw_below_drewN hbw2 _, HS, by omega⟩
        case measure =>
          rw [HM0.out]
          show s.size - (wr.iterAt w.heap.size s (pos + (Utf8.decode s pos).2)).iterPos w.heap.size < s.size - pos
          rw [HM.out]
          omega
    · have hnx : ∀ ty, (Instr.next (.pointer (some ⟨w.heap.size, 0, none⟩)) true ty).run Tryd.prog wr = _ := fun ty => Lib.run_next_end_at wr w.heap.size s pos ty hit hp
      have HF : Aside0 (oddIdx s = -1) := ⟨by rw [← htk.out]; exact oddFrom_end s b pos hp⟩
      go_wp2
      go_ret
      rw [HF.out]
      exact ⟨rfl, hbw⟩

def strings_IndexFunc.f (a0 : ByteArray) (a1 : Value) : Option Int :=
  match a1 with
  | .func (.func n) ⟨[]⟩ ⟨[]⟩ => if n = 53 then some (oddIdx a0) else none
  | _ => none
set_option maxHeartbeats 1000000 in
set_option maxRecDepth 100000 in
theorem strings_IndexFunc.calls (a0 : ByteArray) (a1 : Value) (r : Int) (w : World) (h : strings_IndexFunc.f a0 a1 = some r) :
    Calls Tryd.prog 52 #[.string a0, a1] w fun e w' => e = .returned (.int .i64 r) ∧ Below w.heap.size w w' := by
  unfold strings_IndexFunc.f at h
  split at h
  · split at h
    · rename_i hh
      subst hh
      obtain rfl := Option.some.inj h
      obtain ⟨i, hi⟩ : ∃ i, i = oddIdx a0 := ⟨_, rfl⟩
      have HI := Aside0.mk hi
      clear hi
      go_enter Tryd.func52, Tryd.ntmps52
      go_wp2_with (first | (go_at_call 77; (with_reducible refine (indexfunc_walk _ _).mono ?_); rw [← HI.out]; rintro e w' ⟨rfl, hb1⟩))
      go_ret
      rw [← HI.out]
      exact ⟨rfl, hb1⟩
    · cases h
  · cases h
end Go.Proofs.YtmddkjmcbddhiaaDoor.P
end
section
-- written by wip/tools/print2.py (a program of this session over the kit's print); not trusted: Lean checks it
namespace Go.Proofs.YtmddkjmcbddhiaaDoor.P
open Go.RowKit Go.Proofs.YtmddkjmcbddhiaaDoorW.PrintWords Go.Proofs.YtmddkjmcbddhiaaDoorW.PrintLast Go.Proofs.YtmddkjmcbddhiaaDoorW.PrintMore
attribute [local go_sem] max2_int min2_int max_two min_two max_three min_three max_four min_four   -- for this text's walks alone
set_option linter.unusedVariables false
set_option linter.unusedSimpArgs false

/-! ### function_Line: function 21 -/
def function_Line.f (a0 : ByteArray) : Option (Bool) := (signs_Right.f a0).bind fun t288 => (if t288 = true then ((utf8_RuneCountInString.f a0).bind fun t289 => (if t289 ≤ 1000 then ((strings_IndexFunc.f a0 (Value.func (.func 53) #[] #[])).bind fun t290 => (some (decide (t290 < 0)))) else (some false))) else (some false))
set_option maxHeartbeats 8000000 in
set_option maxRecDepth 100000 in
theorem function_Line.calls (a0 : ByteArray) (r : Bool) (w : World) (hE_ : Env w) (h : function_Line.f a0 = some r) :
    Calls Tryd.prog 21 #[.string a0] w fun e w' => e = .returned (.bool r) ∧ Below w.heap.size w w' := by
  have HB := Aside0.mk (Below.refl w.heap.size w)
  have HE_ := Aside0.mk hE_
  clear hE_
  have H : ((signs_Right.f a0).bind fun t288 => (if t288 = true then ((utf8_RuneCountInString.f a0).bind fun t289 => (if t289 ≤ 1000 then ((strings_IndexFunc.f a0 (Value.func (.func 53) #[] #[])).bind fun t290 => (some (decide (t290 < 0)))) else (some false))) else (some false))) = some r := h
  clear h
  replace H := Option.bind_eq_some_iff.mp H
  obtain ⟨t288, A20, H⟩ := H
  replace H : (if t288 = true then ((utf8_RuneCountInString.f a0).bind fun t289 => (if t289 ≤ 1000 then ((strings_IndexFunc.f a0 (Value.func (.func 53) #[] #[])).bind fun t290 => (some (decide (t290 < 0)))) else (some false))) else (some false)) = some r := H
  have A2 := Aside0.mk A20
  clear A20
  by_cases c3 : t288 = true
  · subst c3
    have H1 : ((utf8_RuneCountInString.f a0).bind fun t289 => (if t289 ≤ 1000 then ((strings_IndexFunc.f a0 (Value.func (.func 53) #[] #[])).bind fun t290 => (some (decide (t290 < 0)))) else (some false))) = some r := by rw [if_pos rfl] at H; exact H
    clear H
    have H := H1
    clear H1
    replace H := Option.bind_eq_some_iff.mp H
    obtain ⟨t289, A40, H⟩ := H
    replace H : (if t289 ≤ 1000 then ((strings_IndexFunc.f a0 (Value.func (.func 53) #[] #[])).bind fun t290 => (some (decide (t290 < 0)))) else (some false)) = some r := H
    have A4 := Aside0.mk A40
    clear A40
    by_cases c5 : t289 ≤ 1000
    · rw [if_pos c5] at H
      have c5b0 : decide (t289 ≤ 1000) = true := decide_eq_true c5
      clear c5
      replace H := Option.bind_eq_some_iff.mp H
      obtain ⟨t290, A60, H⟩ := H
      replace H : (some (decide (t290 < 0))) = some r := H
      have A6 := Aside0.mk A60
      clear A60
      obtain rfl := Option.some.inj H
      go_enter Tryd.func21, Tryd.ntmps21
      go_wp2_with (first | ((with_reducible refine gate_callee (f := 50) rfl ?_); refine goesL_ (some 4) rfl rfl Tryd.func50 (by kernel_rfl) rfl #[.string a0] rfl (by (try simp only [List.map_toArray, List.map_cons, List.map_nil]); first | done | rfl | (simp only [List.length_drop, List.length_take]; rfl)) ?_; (with_reducible refine (signs_Right.calls a0 true _ ?side1 A2.out).mono ?_); (case side1 => exact HE_.out.below (by repeat (first | (with_reducible first | exact HB.out | apply below_alloc | apply pw_below_drewN | apply below_drew1) | exact HB.out))); rintro e w7 ⟨rfl, hb⟩; refine ⟨_, rfl, ?_⟩; have n0_ := Aside0.mk (below_step (by repeat (first | (with_reducible first | exact HB.out | apply below_alloc | apply pw_below_drewN | apply below_drew1) | exact HB.out)) hb); clear HB; have HB := n0_; clear n0_; (try clear hb); (try clear hb2); (try clear hk); (try clear hi)) | (go_at_call 51; (with_reducible refine (utf8_RuneCountInString.calls a0 t289 _ A4.out).mono ?_); rintro e w8 ⟨rfl, hb⟩; have n0_ := Aside0.mk (below_step (by repeat (first | (with_reducible first | exact HB.out | apply below_alloc | apply pw_below_drewN | apply below_drew1) | exact HB.out)) hb); clear HB; have HB := n0_; clear n0_; (try clear hb); (try clear hb2); (try clear hk); (try clear hi)) | (go_at_call 52; (with_reducible refine (strings_IndexFunc.calls a0 (Value.func (.func 53) #[] #[]) t290 _ A6.out).mono ?_); rintro e w9 ⟨rfl, hb⟩; have n0_ := Aside0.mk (below_step (by repeat (first | (with_reducible first | exact HB.out | apply below_alloc | apply pw_below_drewN | apply below_drew1) | exact HB.out)) hb); clear HB; have HB := n0_; clear n0_; (try clear hb); (try clear hb2); (try clear hk); (try clear hi)))
      go_ret
      exact ⟨by first | rfl | (simp [errW_none, errW_some] <;> rfl) | (simp [*, errW_none, errW_some] <;> rfl), by repeat (first | (with_reducible first | exact HB.out | apply below_alloc | apply pw_below_drewN | apply below_drew1) | exact HB.out)⟩
    · rw [if_neg c5] at H
      have c5b0 : decide (t289 ≤ 1000) = false := decide_eq_false c5
      clear c5
      obtain rfl := Option.some.inj H
      go_enter Tryd.func21, Tryd.ntmps21
      go_wp2_with (first | ((with_reducible refine gate_callee (f := 50) rfl ?_); refine goesL_ (some 4) rfl rfl Tryd.func50 (by kernel_rfl) rfl #[.string a0] rfl (by (try simp only [List.map_toArray, List.map_cons, List.map_nil]); first | done | rfl | (simp only [List.length_drop, List.length_take]; rfl)) ?_; (with_reducible refine (signs_Right.calls a0 true _ ?side1 A2.out).mono ?_); (case side1 => exact HE_.out.below (by repeat (first | (with_reducible first | exact HB.out | apply below_alloc | apply pw_below_drewN | apply below_drew1) | exact HB.out))); rintro e w10 ⟨rfl, hb⟩; refine ⟨_, rfl, ?_⟩; have n0_ := Aside0.mk (below_step (by repeat (first | (with_reducible first | exact HB.out | apply below_alloc | apply pw_below_drewN | apply below_drew1) | exact HB.out)) hb); clear HB; have HB := n0_; clear n0_; (try clear hb); (try clear hb2); (try clear hk); (try clear hi)) | (go_at_call 51; (with_reducible refine (utf8_RuneCountInString.calls a0 t289 _ A4.out).mono ?_); rintro e w11 ⟨rfl, hb⟩; have n0_ := Aside0.mk (below_step (by repeat (first | (with_reducible first | exact HB.out | apply below_alloc | apply pw_below_drewN | apply below_drew1) | exact HB.out)) hb); clear HB; have HB := n0_; clear n0_; (try clear hb); (try clear hb2); (try clear hk); (try clear hi)))
      go_ret
      exact ⟨by first | rfl | (simp [errW_none, errW_some] <;> rfl) | (simp [*, errW_none, errW_some] <;> rfl), by repeat (first | (with_reducible first | exact HB.out | apply below_alloc | apply pw_below_drewN | apply below_drew1) | exact HB.out)⟩
  · replace c3 := Bool.eq_false_iff.mpr c3
    subst c3
    have H1 : (some false) = some r := by rw [if_neg (show ¬ (false = true) by decide)] at H; exact H
    clear H
    have H := H1
    clear H1
    obtain rfl := Option.some.inj H
    go_enter Tryd.func21, Tryd.ntmps21
    go_wp2_with (first | ((with_reducible refine gate_callee (f := 50) rfl ?_); refine goesL_ (some 4) rfl rfl Tryd.func50 (by kernel_rfl) rfl #[.string a0] rfl (by (try simp only [List.map_toArray, List.map_cons, List.map_nil]); first | done | rfl | (simp only [List.length_drop, List.length_take]; rfl)) ?_; (with_reducible refine (signs_Right.calls a0 false _ ?side1 A2.out).mono ?_); (case side1 => exact HE_.out.below (by repeat (first | (with_reducible first | exact HB.out | apply below_alloc | apply pw_below_drewN | apply below_drew1) | exact HB.out))); rintro e w12 ⟨rfl, hb⟩; refine ⟨_, rfl, ?_⟩; have n0_ := Aside0.mk (below_step (by repeat (first | (with_reducible first | exact HB.out | apply below_alloc | apply pw_below_drewN | apply below_drew1) | exact HB.out)) hb); clear HB; have HB := n0_; clear n0_; (try clear hb); (try clear hb2); (try clear hk); (try clear hi)))
    go_ret
    exact ⟨by first | rfl | (simp [errW_none, errW_some] <;> rfl) | (simp [*, errW_none, errW_some] <;> rfl), by repeat (first | (with_reducible first | exact HB.out | apply below_alloc | apply pw_below_drewN | apply below_drew1) | exact HB.out)⟩

end Go.Proofs.YtmddkjmcbddhiaaDoor.P
end
