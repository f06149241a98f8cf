-- written by wip/tools/print2.py (a program of this session over the kit's print); not trusted: Lean checks it
import Derived.Test.YtmddkjmcbddhiaaP0
import Derived.Test.YtmddkjmcbddhiaaP12
import Derived.Test.YtmddkjmcbddhiaaP2
import Derived.Test.YtmddkjmcbddhiaaP9
import Derived.Test.YtmddkjmcbddhiaaGSmall15
import Derived.Test.YtmddkjmcbddhiaaGText
namespace Go.Proofs.Ytmddkjmcbddhiaa.P
open Go.RowKit Go.Proofs.YtmddkjmcbddhiaaW.PrintWords Go.Proofs.YtmddkjmcbddhiaaW.PrintLast Go.Proofs.YtmddkjmcbddhiaaW.PrintMore
attribute [local go_sem] max2_int min2_int max_two min_two max_three min_three max_four min_four   -- for this text's walks alone
set_option linter.unusedVariables false
set_option linter.unusedSimpArgs false

/-! ### decklelaw15_HeaderLocals: function 11 -/
mutual
def decklelaw15_HeaderLocals.j0 : Nat → ByteArray → Bool → Bool → ByteArray → ByteArray → ByteArray → ByteArray → ByteArray → ByteArray → List ByteArray → Option (Bool)
  | 0, _, _, _, _, _, _, _, _, _, _ => none
  | k + 1, x1, x5, x29, x363000, x363001, x363002, x363003, x363004, x363005, x363006 => if x29 = true then (some x5) else ((some (([] : List ByteArray) : List ByteArray)).bind fun y368 => (if y368.length + x363006.length < 8796093022208 then ((some (y368 ++ x363006 : List ByteArray)).bind fun y371 => (if y371.length < 8796093022208 then ((some (y371 ++ [x1] : List ByteArray)).bind fun y374 => (if x1.toList = x363000.toList then (decklelaw15_HeaderLocals.j1 k x1 x5 true x363000 x363001 x363002 x363003 x363004 x363005 x363006 x363000 x363001 x363002 x363003 x363004 x363005 y374) else (if x1.toList = x363001.toList then (decklelaw15_HeaderLocals.j1 k x1 x5 true x363000 x363001 x363002 x363003 x363004 x363005 x363006 x363000 x363001 x363002 x363003 x363004 x363005 y374) else (if x1.toList = x363002.toList then (decklelaw15_HeaderLocals.j1 k x1 x5 true x363000 x363001 x363002 x363003 x363004 x363005 x363006 x363000 x363001 x363002 x363003 x363004 x363005 y374) else (if x1.toList = x363003.toList then (decklelaw15_HeaderLocals.j1 k x1 x5 true x363000 x363001 x363002 x363003 x363004 x363005 x363006 x363000 x363001 x363002 x363003 x363004 x363005 y374) else (if x1.toList = x363004.toList then (decklelaw15_HeaderLocals.j1 k x1 x5 true x363000 x363001 x363002 x363003 x363004 x363005 x363006 x363000 x363001 x363002 x363003 x363004 x363005 y374) else (decklelaw15_HeaderLocals.j1 k x1 x5 (x1.toList == x363005.toList) x363000 x363001 x363002 x363003 x363004 x363005 x363006 x363000 x363001 x363002 x363003 x363004 x363005 y374))))))) else (none))) else (none)))
def decklelaw15_HeaderLocals.j1 : Nat → ByteArray → Bool → Bool → ByteArray → ByteArray → ByteArray → ByteArray → ByteArray → ByteArray → List ByteArray → ByteArray → ByteArray → ByteArray → ByteArray → ByteArray → ByteArray → List ByteArray → Option (Bool)
  | 0, _, _, _, _, _, _, _, _, _, _, _, _, _, _, _, _, _ => none
  | k + 1, x1, x5, x8, x363000, x363001, x363002, x363003, x363004, x363005, x363006, x368000, x368001, x368002, x368003, x368004, x368005, x368006 => decklelaw15_HeaderLocals.l0 k x1 x5 x8 0 x363000 x363001 x363002 x363003 x363004 x363005 x363006 x368000 x368001 x368002 x368003 x368004 x368005 x368006
def decklelaw15_HeaderLocals.l0 : Nat → ByteArray → Bool → Bool → Int → ByteArray → ByteArray → ByteArray → ByteArray → ByteArray → ByteArray → List ByteArray → ByteArray → ByteArray → ByteArray → ByteArray → ByteArray → ByteArray → List ByteArray → Option (Bool)
  | 0, _, _, _, _, _, _, _, _, _, _, _, _, _, _, _, _, _, _ => none
  | k + 1, x1, x5, x8, x9, x363000, x363001, x363002, x363003, x363004, x363005, x363006, x368000, x368001, x368002, x368003, x368004, x368005, x368006 => if x9 < (x363006.length : Int) then (if x8 = true then (decklelaw15_HeaderLocals.l0 k x1 x5 true (wrap64 (x9 + 1)) x363000 x363001 x363002 x363003 x363004 x363005 x363006 x368000 x368001 x368002 x368003 x368004 x368005 x368006) else (if 0 ≤ x9 then (decklelaw15_HeaderLocals.l0 k x1 x5 (x1.toList == (rdOf ByteArray.empty x363006 x9).toList) (wrap64 (x9 + 1)) x363000 x363001 x363002 x363003 x363004 x363005 x363006 x368000 x368001 x368002 x368003 x368004 x368005 x368006) else (none))) else (if x8 = true then (if x5 = true then ((header_Right.f k x368000 x368001 x368002 x368003 x368004 x368005 x368006).bind fun t378 => (if t378 = true then (none) else ((header_Text.f x368000 x368001 x368002 x368003 x368004 x368005 x368006).bind fun t379 => (some (t379.toList == ([] : List UInt8)))))) else (none)) else (if x5 = true then ((header_Right.f k x368000 x368001 x368002 x368003 x368004 x368005 x368006).bind fun t380 => (if t380 = true then ((header_Text.f x368000 x368001 x368002 x368003 x368004 x368005 x368006).bind fun t381 => ((header_Text.f x363000 x363001 x363002 x363003 x363004 x363005 x363006).bind fun t382 => (if t382.size + 1 ≤ 9223372036854775807 then (if (t382 ++ (⟨#[59]⟩ : ByteArray)).size + x1.size ≤ 9223372036854775807 then (some (t381.toList == ((t382 ++ (⟨#[59]⟩ : ByteArray)) ++ x1).toList)) else (none)) else (none)))) else (none))) else (none)))
end
def decklelaw15_HeaderLocals.f (k : Nat) (a0_0 : ByteArray) (a0_1 : ByteArray) (a0_2 : ByteArray) (a0_3 : ByteArray) (a0_4 : ByteArray) (a0_5 : ByteArray) (l0_6 : List ByteArray) (a1 : ByteArray) : Option (Bool) := (decklelaw15_small.f).bind fun t363 => ((decklelaw15_Few.f k a0_0 a0_1 a0_2 a0_3 a0_4 a0_5 l0_6).bind fun t364 => (if t364 = true then (if (a1.size : Int) > 100 then (decklelaw15_HeaderLocals.j0 k a1 t363 true a0_0 a0_1 a0_2 a0_3 a0_4 a0_5 l0_6) else ((header_Right.f k a0_0 a0_1 a0_2 a0_3 a0_4 a0_5 l0_6).bind fun t365 => (if t365 = true then ((name_Right.f a1).bind fun t366 => (decklelaw15_HeaderLocals.j0 k a1 t363 (!t366) a0_0 a0_1 a0_2 a0_3 a0_4 a0_5 l0_6)) else (decklelaw15_HeaderLocals.j0 k a1 t363 true a0_0 a0_1 a0_2 a0_3 a0_4 a0_5 l0_6)))) else (decklelaw15_HeaderLocals.j0 k a1 t363 true a0_0 a0_1 a0_2 a0_3 a0_4 a0_5 l0_6)))
theorem decklelaw15_HeaderLocals.mono_l : ∀ k, (∀ y0 y1 y2 y3 y4 y5 y6 y7 y8 y9, LeO (decklelaw15_HeaderLocals.j0 k y0 y1 y2 y3 y4 y5 y6 y7 y8 y9) (decklelaw15_HeaderLocals.j0 (k + 1) y0 y1 y2 y3 y4 y5 y6 y7 y8 y9)) ∧ (∀ y0 y1 y2 y3 y4 y5 y6 y7 y8 y9 y10 y11 y12 y13 y14 y15 y16, LeO (decklelaw15_HeaderLocals.j1 k y0 y1 y2 y3 y4 y5 y6 y7 y8 y9 y10 y11 y12 y13 y14 y15 y16) (decklelaw15_HeaderLocals.j1 (k + 1) y0 y1 y2 y3 y4 y5 y6 y7 y8 y9 y10 y11 y12 y13 y14 y15 y16)) ∧ (∀ y0 y1 y2 y3 y4 y5 y6 y7 y8 y9 y10 y11 y12 y13 y14 y15 y16 y17, LeO (decklelaw15_HeaderLocals.l0 k y0 y1 y2 y3 y4 y5 y6 y7 y8 y9 y10 y11 y12 y13 y14 y15 y16 y17) (decklelaw15_HeaderLocals.l0 (k + 1) y0 y1 y2 y3 y4 y5 y6 y7 y8 y9 y10 y11 y12 y13 y14 y15 y16 y17))
  | 0 => ⟨fun _ _ _ _ _ _ _ _ _ _ r h => by simp [decklelaw15_HeaderLocals.j0] at h, fun _ _ _ _ _ _ _ _ _ _ _ _ _ _ _ _ _ r h => by simp [decklelaw15_HeaderLocals.j1] at h, fun _ _ _ _ _ _ _ _ _ _ _ _ _ _ _ _ _ _ r h => by simp [decklelaw15_HeaderLocals.l0] at h⟩
  | k + 1 => by
    obtain ⟨ih0, ih1, ih2⟩ := decklelaw15_HeaderLocals.mono_l k
    refine ⟨?_, ?_, ?_⟩
    · intro y0 y1 y2 y3 y4 y5 y6 y7 y8 y9
      unfold decklelaw15_HeaderLocals.j0
      repeat' first
      | (with_reducible exact ih0 _ _ _ _ _ _ _ _ _ _)
      | (with_reducible exact ih1 _ _ _ _ _ _ _ _ _ _ _ _ _ _ _ _ _)
      | (with_reducible exact ih2 _ _ _ _ _ _ _ _ _ _ _ _ _ _ _ _ _ _)
      | (with_reducible exact decklelaw15_Few.mono _ _ _ _ _ _ _ _)
      | (with_reducible exact header_Right.mono _ _ _ _ _ _ _ _)
      | (with_reducible exact LeO.refl _)
      | (with_reducible exact LeO.none _)
      | (with_reducible refine LeO.ite ?_ ?_)
      | (with_reducible refine LeO.bind ?_ (fun _ => ?_))
      | exact ih0 _ _ _ _ _ _ _ _ _ _
      | exact ih1 _ _ _ _ _ _ _ _ _ _ _ _ _ _ _ _ _
      | exact ih2 _ _ _ _ _ _ _ _ _ _ _ _ _ _ _ _ _ _
      | exact decklelaw15_Few.mono _ _ _ _ _ _ _ _
      | exact header_Right.mono _ _ _ _ _ _ _ _
      | exact LeO.none _
      | refine LeO.ite ?_ ?_
      | refine LeO.bind ?_ (fun _ => ?_)
    · intro y0 y1 y2 y3 y4 y5 y6 y7 y8 y9 y10 y11 y12 y13 y14 y15 y16
      unfold decklelaw15_HeaderLocals.j1
      repeat' first
      | (with_reducible exact ih0 _ _ _ _ _ _ _ _ _ _)
      | (with_reducible exact ih1 _ _ _ _ _ _ _ _ _ _ _ _ _ _ _ _ _)
      | (with_reducible exact ih2 _ _ _ _ _ _ _ _ _ _ _ _ _ _ _ _ _ _)
      | (with_reducible exact decklelaw15_Few.mono _ _ _ _ _ _ _ _)
      | (with_reducible exact header_Right.mono _ _ _ _ _ _ _ _)
      | (with_reducible exact LeO.refl _)
      | (with_reducible exact LeO.none _)
      | (with_reducible refine LeO.ite ?_ ?_)
      | (with_reducible refine LeO.bind ?_ (fun _ => ?_))
      | exact ih0 _ _ _ _ _ _ _ _ _ _
      | exact ih1 _ _ _ _ _ _ _ _ _ _ _ _ _ _ _ _ _
      | exact ih2 _ _ _ _ _ _ _ _ _ _ _ _ _ _ _ _ _ _
      | exact decklelaw15_Few.mono _ _ _ _ _ _ _ _
      | exact header_Right.mono _ _ _ _ _ _ _ _
      | exact LeO.none _
      | refine LeO.ite ?_ ?_
      | refine LeO.bind ?_ (fun _ => ?_)
    · intro y0 y1 y2 y3 y4 y5 y6 y7 y8 y9 y10 y11 y12 y13 y14 y15 y16 y17
      unfold decklelaw15_HeaderLocals.l0
      repeat' first
      | (with_reducible exact ih0 _ _ _ _ _ _ _ _ _ _)
      | (with_reducible exact ih1 _ _ _ _ _ _ _ _ _ _ _ _ _ _ _ _ _)
      | (with_reducible exact ih2 _ _ _ _ _ _ _ _ _ _ _ _ _ _ _ _ _ _)
      | (with_reducible exact decklelaw15_Few.mono _ _ _ _ _ _ _ _)
      | (with_reducible exact header_Right.mono _ _ _ _ _ _ _ _)
      | (with_reducible exact LeO.refl _)
      | (with_reducible exact LeO.none _)
      | (with_reducible refine LeO.ite ?_ ?_)
      | (with_reducible refine LeO.bind ?_ (fun _ => ?_))
      | exact ih0 _ _ _ _ _ _ _ _ _ _
      | exact ih1 _ _ _ _ _ _ _ _ _ _ _ _ _ _ _ _ _
      | exact ih2 _ _ _ _ _ _ _ _ _ _ _ _ _ _ _ _ _ _
      | exact decklelaw15_Few.mono _ _ _ _ _ _ _ _
      | exact header_Right.mono _ _ _ _ _ _ _ _
      | exact LeO.none _
      | refine LeO.ite ?_ ?_
      | refine LeO.bind ?_ (fun _ => ?_)
theorem decklelaw15_HeaderLocals.mono : ∀ a0 a1 a2 a3 a4 a5 a6 a7 k, LeO (decklelaw15_HeaderLocals.f k a0 a1 a2 a3 a4 a5 a6 a7) (decklelaw15_HeaderLocals.f (k + 1) a0 a1 a2 a3 a4 a5 a6 a7) := by
  intro a0 a1 a2 a3 a4 a5 a6 a7 k
  obtain ⟨ih0, ih1, ih2⟩ := decklelaw15_HeaderLocals.mono_l k
  unfold decklelaw15_HeaderLocals.f
  repeat' first
      | (with_reducible exact ih0 _ _ _ _ _ _ _ _ _ _)
      | (with_reducible exact ih1 _ _ _ _ _ _ _ _ _ _ _ _ _ _ _ _ _)
      | (with_reducible exact ih2 _ _ _ _ _ _ _ _ _ _ _ _ _ _ _ _ _ _)
      | (with_reducible exact decklelaw15_Few.mono _ _ _ _ _ _ _ _)
      | (with_reducible exact header_Right.mono _ _ _ _ _ _ _ _)
      | (with_reducible exact LeO.refl _)
      | (with_reducible exact LeO.none _)
      | (with_reducible refine LeO.ite ?_ ?_)
      | (with_reducible refine LeO.bind ?_ (fun _ => ?_))
      | exact ih0 _ _ _ _ _ _ _ _ _ _
      | exact ih1 _ _ _ _ _ _ _ _ _ _ _ _ _ _ _ _ _
      | exact ih2 _ _ _ _ _ _ _ _ _ _ _ _ _ _ _ _ _ _
      | exact decklelaw15_Few.mono _ _ _ _ _ _ _ _
      | exact header_Right.mono _ _ _ _ _ _ _ _
      | exact LeO.none _
      | refine LeO.ite ?_ ?_
      | refine LeO.bind ?_ (fun _ => ?_)
def decklelaw15_HeaderLocals.T14 : Bool × List (List Nat × List Nat) := (true, [([], []), ([0], [0]), ([1], [1]), ([2, 1, 1], [1, 2]), ([1, 3], [1, 3]), ([4, 3], [4]), ([5], [5]), ([6, 5, 5], [5, 6]), ([5], [5]), ([8, 7, 5], [5, 8]), ([9, 5], [5, 9]), ([5], [5]), ([10, 11, 5], [5, 10, 11]), ([7, 12, 5], [5, 7, 12]), ([5, 13], [5, 13]), ([14, 9, 0, 1, 2, 3, 4, 5, 6, 7, 8, 9, 10, 11, 12, 13, 14], [14])])
def decklelaw15_HeaderLocals.B14 : List Nat := [0, 1, 3, 7, 15, 31, 63, 127, 63, 511, 1023, 63, 4095, 8191, 16383, 32767]
theorem decklelaw15_HeaderLocals.tab14 : rtab .any (opsOf Try.f11 14) = decklelaw15_HeaderLocals.T14 := by kernel_rfl
theorem decklelaw15_HeaderLocals.bits14 : waitsOk decklelaw15_HeaderLocals.T14.2 decklelaw15_HeaderLocals.B14 = true := by kernel_rfl
set_option maxHeartbeats 8000000 in
set_option maxRecDepth 100000 in
theorem decklelaw15_HeaderLocals.calls (k : Nat) (a0_0 : ByteArray) (a0_1 : ByteArray) (a0_2 : ByteArray) (a0_3 : ByteArray) (a0_4 : ByteArray) (a0_5 : ByteArray) (A0_6 : Option Addr) (c0_6 : Nat) (l0_6 : List ByteArray) (a1 : ByteArray) (r : Bool) (w : World) (hr0_6 : Kd.C Kd.string w A0_6 l0_6.length l0_6) (hc0_6 : l0_6.length ≤ c0_6) (h : decklelaw15_HeaderLocals.f k a0_0 a0_1 a0_2 a0_3 a0_4 a0_5 l0_6 a1 = some r) :
    Calls Try.prog 11 #[.agg #[.string a0_0, .string a0_1, .string a0_2, .string a0_3, .string a0_4, .string a0_5, .slice A0_6 l0_6.length c0_6], .string a1] w fun e w' => e = .returned (.bool r) ∧ Below w.heap.size w w' := by
  have hu35 := Try.underlying35
  have HR0_6 := Aside0.mk hr0_6
  have HC0_6 := Aside0.mk hc0_6
  clear hr0_6 hc0_6
  have HB := Aside0.mk (Below.refl w.heap.size w)
  have H : ((decklelaw15_small.f).bind fun t363 => ((decklelaw15_Few.f k a0_0 a0_1 a0_2 a0_3 a0_4 a0_5 l0_6).bind fun t364 => (if t364 = true then (if (a1.size : Int) > 100 then (decklelaw15_HeaderLocals.j0 k a1 t363 true a0_0 a0_1 a0_2 a0_3 a0_4 a0_5 l0_6) else ((header_Right.f k a0_0 a0_1 a0_2 a0_3 a0_4 a0_5 l0_6).bind fun t365 => (if t365 = true then ((name_Right.f a1).bind fun t366 => (decklelaw15_HeaderLocals.j0 k a1 t363 (!t366) a0_0 a0_1 a0_2 a0_3 a0_4 a0_5 l0_6)) else (decklelaw15_HeaderLocals.j0 k a1 t363 true a0_0 a0_1 a0_2 a0_3 a0_4 a0_5 l0_6)))) else (decklelaw15_HeaderLocals.j0 k a1 t363 true a0_0 a0_1 a0_2 a0_3 a0_4 a0_5 l0_6)))) = some r := h
  clear h
  replace H := Option.bind_eq_some_iff.mp H
  obtain ⟨t363, A30, H⟩ := H
  replace H : ((decklelaw15_Few.f k a0_0 a0_1 a0_2 a0_3 a0_4 a0_5 l0_6).bind fun t364 => (if t364 = true then (if (a1.size : Int) > 100 then (decklelaw15_HeaderLocals.j0 k a1 t363 true a0_0 a0_1 a0_2 a0_3 a0_4 a0_5 l0_6) else ((header_Right.f k a0_0 a0_1 a0_2 a0_3 a0_4 a0_5 l0_6).bind fun t365 => (if t365 = true then ((name_Right.f a1).bind fun t366 => (decklelaw15_HeaderLocals.j0 k a1 t363 (!t366) a0_0 a0_1 a0_2 a0_3 a0_4 a0_5 l0_6)) else (decklelaw15_HeaderLocals.j0 k a1 t363 true a0_0 a0_1 a0_2 a0_3 a0_4 a0_5 l0_6)))) else (decklelaw15_HeaderLocals.j0 k a1 t363 true a0_0 a0_1 a0_2 a0_3 a0_4 a0_5 l0_6))) = some r := H
  have A3 := Aside0.mk A30
  clear A30
  replace H := Option.bind_eq_some_iff.mp H
  obtain ⟨t364, A40, H⟩ := H
  replace H : (if t364 = true then (if (a1.size : Int) > 100 then (decklelaw15_HeaderLocals.j0 k a1 t363 true a0_0 a0_1 a0_2 a0_3 a0_4 a0_5 l0_6) else ((header_Right.f k a0_0 a0_1 a0_2 a0_3 a0_4 a0_5 l0_6).bind fun t365 => (if t365 = true then ((name_Right.f a1).bind fun t366 => (decklelaw15_HeaderLocals.j0 k a1 t363 (!t366) a0_0 a0_1 a0_2 a0_3 a0_4 a0_5 l0_6)) else (decklelaw15_HeaderLocals.j0 k a1 t363 true a0_0 a0_1 a0_2 a0_3 a0_4 a0_5 l0_6)))) else (decklelaw15_HeaderLocals.j0 k a1 t363 true a0_0 a0_1 a0_2 a0_3 a0_4 a0_5 l0_6)) = some r := H
  have A4 := Aside0.mk A40
  clear A40
  have HC5 := Aside0.mk H
  clear H
  go_enter Try.func11, Try.ntmps11
  go_upto_region 3 with (first | ((with_reducible refine gate_dst (N := 2) rfl ?_); (try (refine gate_guard (by rfl) ?_; dsimp only)); refine box_event ?hg (N := 2) ?hd (cs := #[.string a0_0, .string a0_1, .string a0_2, .string a0_3, .string a0_4, .string a0_5, .slice A0_6 l0_6.length c0_6]) (t := 35) ?hr ?_; (case hd => rfl); (case hg => rfl); (case hr => first | (go_simp; done) | (go_simp; rfl)); intro gb362 hg w6 hbox hb; have n0_ := Aside0.mk (below_step (by repeat (first | (with_reducible first | exact HB.out | apply below_alloc | apply pw_below_drewN | apply below_drew1) | exact HB.out)) hb); have n1_ := Aside0.mk (hbox); have n2_ := Aside0.mk ((by rw [hg]; exact (below_size (by repeat (first | (with_reducible first | exact HB.out | apply below_alloc | apply pw_below_drewN | apply below_drew1) | exact HB.out))) : w.heap.size ≤ gb362)); have n3_ := Aside0.mk ((by rw [hg]; exact (below_size (by repeat (first | (with_reducible first | exact HB.out | apply below_alloc | apply pw_below_drewN | apply below_drew1) | exact HB.out))) : w.heap.size ≤ gb362)); clear HB; have HB := n0_; have BK362 := n1_; have GW362 := n2_; have GE362 := n3_; clear n0_ n1_ n2_ n3_; clear hb hbox hg) | ((with_reducible refine gate_callee (f := 22) rfl ?_); refine goesL_ (some 10) rfl rfl Try.func22 (by kernel_rfl) rfl #[] rfl (by (try simp only [List.map_toArray, List.map_cons, List.map_nil]); first | done | rfl | (simp only [List.length_drop, List.length_take]; rfl)) ?_; (with_reducible refine (decklelaw15_small.calls  t363 _ A3.out).mono ?_); rintro e w7 ⟨rfl, hb⟩; refine ⟨_, rfl, ?_⟩; have n0_ := Aside0.mk (blk_below (g := gb362) (o := .cells #[.string a0_0, .string a0_1, .string a0_2, .string a0_3, .string a0_4, .string a0_5, .slice A0_6 l0_6.length c0_6] 35 (0, 0)) (by (with_reducible repeat (first | refine blk_drewN ?_ _ | refine blk_drew ?_ | refine blk_alloc ?_ _)); exact BK362.out) hb); have n1_ := Aside0.mk (below_step (by repeat (first | (with_reducible first | exact HB.out | apply below_alloc | apply pw_below_drewN | apply below_drew1 | refine below_set ?_ GE362.out) | exact HB.out)) hb); clear BK362; clear HB; have BK362 := n0_; have HB := n1_; clear n0_ n1_; (try clear hb); (try clear hb2); (try clear hk); (try clear hi); have hcz8_0 : w7.cell? ⟨gb362, 0, none⟩ = some (.string a0_0) := (blk_cell BK362.out 0).trans rfl; have hcz8_1 : w7.cell? ⟨gb362, 1, none⟩ = some (.string a0_1) := (blk_cell BK362.out 1).trans rfl; have hcz8_2 : w7.cell? ⟨gb362, 2, none⟩ = some (.string a0_2) := (blk_cell BK362.out 2).trans rfl; have hcz8_3 : w7.cell? ⟨gb362, 3, none⟩ = some (.string a0_3) := (blk_cell BK362.out 3).trans rfl; have hcz8_4 : w7.cell? ⟨gb362, 4, none⟩ = some (.string a0_4) := (blk_cell BK362.out 4).trans rfl; have hcz8_5 : w7.cell? ⟨gb362, 5, none⟩ = some (.string a0_5) := (blk_cell BK362.out 5).trans rfl; have hcz8_6 : w7.cell? ⟨gb362, 6, none⟩ = some (.slice A0_6 l0_6.length c0_6) := (blk_cell BK362.out 6).trans rfl; have hfz8_0 := blk_frozen BK362.out 0; have hfz8_1 := blk_frozen BK362.out 1; have hfz8_2 := blk_frozen BK362.out 2; have hfz8_3 := blk_frozen BK362.out 3; have hfz8_4 := blk_frozen BK362.out 4; have hfz8_5 := blk_frozen BK362.out 5; have hfz8_6 := blk_frozen BK362.out 6) | ((with_reducible refine gate_callee (f := 23) rfl ?_); refine goesL_ (some 12) rfl rfl Try.func23 (by kernel_rfl) rfl #[.agg #[.string a0_0, .string a0_1, .string a0_2, .string a0_3, .string a0_4, .string a0_5, .slice A0_6 l0_6.length c0_6]] rfl (by (try simp only [List.map_toArray, List.map_cons, List.map_nil]); first | done | rfl | (simp only [List.length_drop, List.length_take]; rfl)) ?_; (with_reducible refine (decklelaw15_Few.calls k a0_0 a0_1 a0_2 a0_3 a0_4 a0_5 _ _ l0_6 t364 _ ?side1 ?side2 A4.out).mono ?_); (case side1 => repeat (first | exact (Kd.C_below HR0_6.out HB.out) | (with_reducible refine Kd.C_alloc ?_ _) | (with_reducible refine Kd.C_drewN ?_ _) | (with_reducible refine Kd.C_drew ?_))); (case side2 => exact HC0_6.out); rintro e w9 ⟨rfl, hb⟩; refine ⟨_, rfl, ?_⟩; have n0_ := Aside0.mk (blk_below (g := gb362) (o := .cells #[.string a0_0, .string a0_1, .string a0_2, .string a0_3, .string a0_4, .string a0_5, .slice A0_6 l0_6.length c0_6] 35 (0, 0)) (by (with_reducible repeat (first | refine blk_drewN ?_ _ | refine blk_drew ?_ | refine blk_alloc ?_ _)); exact BK362.out) hb); have n1_ := Aside0.mk (below_step (by repeat (first | (with_reducible first | exact HB.out | apply below_alloc | apply pw_below_drewN | apply below_drew1 | refine below_set ?_ GE362.out) | exact HB.out)) hb); clear BK362; clear HB; have BK362 := n0_; have HB := n1_; clear n0_ n1_; (try clear hb); (try clear hb2); (try clear hk); (try clear hi)))
  (try simp only [Act.put, List.setIfInBounds_toArray, List.set_cons_zero, List.set_cons_succ])
  go_cut [29] (fun v29 wc => ∃ (kq : Nat) (x29_4 : Bool), v29 = .bool x29_4 ∧ Aside0 (decklelaw15_HeaderLocals.j0 kq a1 t363 x29_4 a0_0 a0_1 a0_2 a0_3 a0_4 a0_5 l0_6 = some r) ∧ Aside0 (kq ≤ k) ∧ Aside0 (wc.heap[gb362]? = some (.cells #[.string a0_0, .string a0_1, .string a0_2, .string a0_3, .string a0_4, .string a0_5, (.slice A0_6 l0_6.length c0_6)] 35 (0, 0))) ∧ Aside0 (Below w.heap.size w wc))
  case first =>
    have H := HC5.out
    clear HC5
    by_cases c10 : t364 = true
    · subst c10
      have H1 : (if (a1.size : Int) > 100 then (decklelaw15_HeaderLocals.j0 k a1 t363 true a0_0 a0_1 a0_2 a0_3 a0_4 a0_5 l0_6) else ((header_Right.f k a0_0 a0_1 a0_2 a0_3 a0_4 a0_5 l0_6).bind fun t365 => (if t365 = true then ((name_Right.f a1).bind fun t366 => (decklelaw15_HeaderLocals.j0 k a1 t363 (!t366) a0_0 a0_1 a0_2 a0_3 a0_4 a0_5 l0_6)) else (decklelaw15_HeaderLocals.j0 k a1 t363 true a0_0 a0_1 a0_2 a0_3 a0_4 a0_5 l0_6)))) = some r := by rw [if_pos rfl] at H; exact H
      clear H
      have H := H1
      clear H1
      by_cases c11 : (a1.size : Int) > 100
      · rw [if_pos c11] at H
        have c11b0 : decide (100 < (a1.size : Int)) = true := decide_eq_true c11
        have c11b1 : decide (100 < a1.size) = true := decide_eq_true (by omega)
        clear c11
        (first | rw [c11b0] | (simp only [i64_w, i32_w]; rw [c11b0]) | skip)
        (try simp only [c11b8])
        have H' := Aside0.mk H
        clear H
        go_wp2
        go_meet
        case rel => exact ⟨_, (true), (by first | rfl | (simp; done) | (simp [*]; done)), H', ⟨by first | omega | exact Nat.le_refl _⟩, ⟨by (with_reducible repeat (first | refine blk_drewN ?_ _ | refine blk_drew ?_ | refine blk_alloc ?_ _)); exact BK362.out⟩, ⟨by repeat (first | (with_reducible first | exact HB.out | apply below_alloc | apply pw_below_drewN | apply below_drew1 | refine below_set ?_ GE362.out) | exact HB.out)⟩⟩
      · rw [if_neg c11] at H
        have c11b0 : decide (100 < (a1.size : Int)) = false := decide_eq_false c11
        have c11b1 : decide (100 < a1.size) = false := decide_eq_false (by omega)
        clear c11
        (first | rw [c11b0] | (simp only [i64_w, i32_w]; rw [c11b0]) | skip)
        (try simp only [c11b8])
        replace H := Option.bind_eq_some_iff.mp H
        obtain ⟨t365, A120, H⟩ := H
        replace H : (if t365 = true then ((name_Right.f a1).bind fun t366 => (decklelaw15_HeaderLocals.j0 k a1 t363 (!t366) a0_0 a0_1 a0_2 a0_3 a0_4 a0_5 l0_6)) else (decklelaw15_HeaderLocals.j0 k a1 t363 true a0_0 a0_1 a0_2 a0_3 a0_4 a0_5 l0_6)) = some r := H
        have A12 := Aside0.mk A120
        clear A120
        by_cases c13 : t365 = true
        · subst c13
          have H1 : ((name_Right.f a1).bind fun t366 => (decklelaw15_HeaderLocals.j0 k a1 t363 (!t366) a0_0 a0_1 a0_2 a0_3 a0_4 a0_5 l0_6)) = some r := by rw [if_pos rfl] at H; exact H
          clear H
          have H := H1
          clear H1
          replace H := Option.bind_eq_some_iff.mp H
          obtain ⟨t366, A140, H⟩ := H
          replace H : (decklelaw15_HeaderLocals.j0 k a1 t363 (!t366) a0_0 a0_1 a0_2 a0_3 a0_4 a0_5 l0_6) = some r := H
          have A14 := Aside0.mk A140
          clear A140
          have H' := Aside0.mk H
          clear H
          have hcz15_0 : w9.cell? ⟨gb362, 0, none⟩ = some (.string a0_0) := (blk_cell BK362.out 0).trans rfl
          have hcz15_1 : w9.cell? ⟨gb362, 1, none⟩ = some (.string a0_1) := (blk_cell BK362.out 1).trans rfl
          have hcz15_2 : w9.cell? ⟨gb362, 2, none⟩ = some (.string a0_2) := (blk_cell BK362.out 2).trans rfl
          have hcz15_3 : w9.cell? ⟨gb362, 3, none⟩ = some (.string a0_3) := (blk_cell BK362.out 3).trans rfl
          have hcz15_4 : w9.cell? ⟨gb362, 4, none⟩ = some (.string a0_4) := (blk_cell BK362.out 4).trans rfl
          have hcz15_5 : w9.cell? ⟨gb362, 5, none⟩ = some (.string a0_5) := (blk_cell BK362.out 5).trans rfl
          have hcz15_6 : w9.cell? ⟨gb362, 6, none⟩ = some (.slice A0_6 l0_6.length c0_6) := (blk_cell BK362.out 6).trans rfl
          have hfz15_0 := blk_frozen BK362.out 0
          have hfz15_1 := blk_frozen BK362.out 1
          have hfz15_2 := blk_frozen BK362.out 2
          have hfz15_3 := blk_frozen BK362.out 3
          have hfz15_4 := blk_frozen BK362.out 4
          have hfz15_5 := blk_frozen BK362.out 5
          have hfz15_6 := blk_frozen BK362.out 6
          go_wp2_with (first | (go_at_call 26; (with_reducible refine (header_Right.calls k a0_0 a0_1 a0_2 a0_3 a0_4 a0_5 _ _ l0_6 true _ ?side1 ?side2 A12.out).mono ?_); (case side1 => repeat (first | exact (Kd.C_below HR0_6.out HB.out) | (with_reducible refine Kd.C_alloc ?_ _) | (with_reducible refine Kd.C_drewN ?_ _) | (with_reducible refine Kd.C_drew ?_))); (case side2 => exact HC0_6.out); rintro e w16 ⟨rfl, hb⟩; have n0_ := Aside0.mk (blk_below (g := gb362) (o := .cells #[.string a0_0, .string a0_1, .string a0_2, .string a0_3, .string a0_4, .string a0_5, .slice A0_6 l0_6.length c0_6] 35 (0, 0)) (by (with_reducible repeat (first | refine blk_drewN ?_ _ | refine blk_drew ?_ | refine blk_alloc ?_ _)); exact BK362.out) hb); have n1_ := Aside0.mk (below_step (by repeat (first | (with_reducible first | exact HB.out | apply below_alloc | apply pw_below_drewN | apply below_drew1 | refine below_set ?_ GE362.out) | exact HB.out)) hb); clear BK362; clear HB; have BK362 := n0_; have HB := n1_; clear n0_ n1_; (try clear hb); (try clear hb2); (try clear hk); (try clear hi)) | (go_at_call 16; (with_reducible refine (name_Right.calls a1 t366 _ A14.out).mono ?_); rintro e w17 ⟨rfl, hb⟩; have n0_ := Aside0.mk (blk_below (g := gb362) (o := .cells #[.string a0_0, .string a0_1, .string a0_2, .string a0_3, .string a0_4, .string a0_5, .slice A0_6 l0_6.length c0_6] 35 (0, 0)) (by (with_reducible repeat (first | refine blk_drewN ?_ _ | refine blk_drew ?_ | refine blk_alloc ?_ _)); exact BK362.out) hb); have n1_ := Aside0.mk (below_step (by repeat (first | (with_reducible first | exact HB.out | apply below_alloc | apply pw_below_drewN | apply below_drew1 | refine below_set ?_ GE362.out) | exact HB.out)) hb); clear BK362; clear HB; have BK362 := n0_; have HB := n1_; clear n0_ n1_; (try clear hb); (try clear hb2); (try clear hk); (try clear hi)))
          go_meet
          case rel => exact ⟨_, (!t366), (by first | rfl | (simp; done) | (simp [*]; done)), H', ⟨by first | omega | exact Nat.le_refl _⟩, ⟨by (with_reducible repeat (first | refine blk_drewN ?_ _ | refine blk_drew ?_ | refine blk_alloc ?_ _)); exact BK362.out⟩, ⟨by repeat (first | (with_reducible first | exact HB.out | apply below_alloc | apply pw_below_drewN | apply below_drew1 | refine below_set ?_ GE362.out) | exact HB.out)⟩⟩
        · replace c13 := Bool.eq_false_iff.mpr c13
          subst c13
          have H1 : (decklelaw15_HeaderLocals.j0 k a1 t363 true a0_0 a0_1 a0_2 a0_3 a0_4 a0_5 l0_6) = some r := by rw [if_neg (show ¬ (false = true) by decide)] at H; exact H
          clear H
          have H := H1
          clear H1
          have H' := Aside0.mk H
          clear H
          have hcz18_0 : w9.cell? ⟨gb362, 0, none⟩ = some (.string a0_0) := (blk_cell BK362.out 0).trans rfl
          have hcz18_1 : w9.cell? ⟨gb362, 1, none⟩ = some (.string a0_1) := (blk_cell BK362.out 1).trans rfl
          have hcz18_2 : w9.cell? ⟨gb362, 2, none⟩ = some (.string a0_2) := (blk_cell BK362.out 2).trans rfl
          have hcz18_3 : w9.cell? ⟨gb362, 3, none⟩ = some (.string a0_3) := (blk_cell BK362.out 3).trans rfl
          have hcz18_4 : w9.cell? ⟨gb362, 4, none⟩ = some (.string a0_4) := (blk_cell BK362.out 4).trans rfl
          have hcz18_5 : w9.cell? ⟨gb362, 5, none⟩ = some (.string a0_5) := (blk_cell BK362.out 5).trans rfl
          have hcz18_6 : w9.cell? ⟨gb362, 6, none⟩ = some (.slice A0_6 l0_6.length c0_6) := (blk_cell BK362.out 6).trans rfl
          have hfz18_0 := blk_frozen BK362.out 0
          have hfz18_1 := blk_frozen BK362.out 1
          have hfz18_2 := blk_frozen BK362.out 2
          have hfz18_3 := blk_frozen BK362.out 3
          have hfz18_4 := blk_frozen BK362.out 4
          have hfz18_5 := blk_frozen BK362.out 5
          have hfz18_6 := blk_frozen BK362.out 6
          go_wp2_with (first | (go_at_call 26; (with_reducible refine (header_Right.calls k a0_0 a0_1 a0_2 a0_3 a0_4 a0_5 _ _ l0_6 false _ ?side1 ?side2 A12.out).mono ?_); (case side1 => repeat (first | exact (Kd.C_below HR0_6.out HB.out) | (with_reducible refine Kd.C_alloc ?_ _) | (with_reducible refine Kd.C_drewN ?_ _) | (with_reducible refine Kd.C_drew ?_))); (case side2 => exact HC0_6.out); rintro e w19 ⟨rfl, hb⟩; have n0_ := Aside0.mk (blk_below (g := gb362) (o := .cells #[.string a0_0, .string a0_1, .string a0_2, .string a0_3, .string a0_4, .string a0_5, .slice A0_6 l0_6.length c0_6] 35 (0, 0)) (by (with_reducible repeat (first | refine blk_drewN ?_ _ | refine blk_drew ?_ | refine blk_alloc ?_ _)); exact BK362.out) hb); have n1_ := Aside0.mk (below_step (by repeat (first | (with_reducible first | exact HB.out | apply below_alloc | apply pw_below_drewN | apply below_drew1 | refine below_set ?_ GE362.out) | exact HB.out)) hb); clear BK362; clear HB; have BK362 := n0_; have HB := n1_; clear n0_ n1_; (try clear hb); (try clear hb2); (try clear hk); (try clear hi)))
          go_meet
          case rel => exact ⟨_, (true), (by first | rfl | (simp; done) | (simp [*]; done)), H', ⟨by first | omega | exact Nat.le_refl _⟩, ⟨by (with_reducible repeat (first | refine blk_drewN ?_ _ | refine blk_drew ?_ | refine blk_alloc ?_ _)); exact BK362.out⟩, ⟨by repeat (first | (with_reducible first | exact HB.out | apply below_alloc | apply pw_below_drewN | apply below_drew1 | refine below_set ?_ GE362.out) | exact HB.out)⟩⟩
    · replace c10 := Bool.eq_false_iff.mpr c10
      subst c10
      have H1 : (decklelaw15_HeaderLocals.j0 k a1 t363 true a0_0 a0_1 a0_2 a0_3 a0_4 a0_5 l0_6) = some r := by rw [if_neg (show ¬ (false = true) by decide)] at H; exact H
      clear H
      have H := H1
      clear H1
      have H' := Aside0.mk H
      clear H
      go_wp2
      go_meet
      case rel => exact ⟨_, (true), (by first | rfl | (simp; done) | (simp [*]; done)), H', ⟨by first | omega | exact Nat.le_refl _⟩, ⟨by (with_reducible repeat (first | refine blk_drewN ?_ _ | refine blk_drew ?_ | refine blk_alloc ?_ _)); exact BK362.out⟩, ⟨by repeat (first | (with_reducible first | exact HB.out | apply below_alloc | apply pw_below_drewN | apply below_drew1 | refine below_set ?_ GE362.out) | exact HB.out)⟩⟩
  case rest =>
    clear HC5
    try clear c1
    try clear c2
    try clear p2
    try clear c10
    try clear c11
    try clear c11b0
    try clear c11b1
    try clear c13
    try clear hcz15_0
    try clear hcz15_1
    try clear hcz15_2
    try clear hcz15_3
    try clear hcz15_4
    try clear hcz15_5
    try clear hcz15_6
    try clear hcz18_0
    try clear hcz18_1
    try clear hcz18_2
    try clear hcz18_3
    try clear hcz18_4
    try clear hcz18_5
    try clear hcz18_6
    try clear hcz8_0
    try clear hcz8_1
    try clear hcz8_2
    try clear hcz8_3
    try clear hcz8_4
    try clear hcz8_5
    try clear hcz8_6
    try clear hfz15_0
    try clear hfz15_1
    try clear hfz15_2
    try clear hfz15_3
    try clear hfz15_4
    try clear hfz15_5
    try clear hfz15_6
    try clear hfz18_0
    try clear hfz18_1
    try clear hfz18_2
    try clear hfz18_3
    try clear hfz18_4
    try clear hfz18_5
    try clear hfz18_6
    try clear hfz8_0
    try clear hfz8_1
    try clear hfz8_2
    try clear hfz8_3
    try clear hfz8_4
    try clear hfz8_5
    try clear hfz8_6
    obtain ⟨kq, x29_4, rfl, HA, HJ4, BK362, HB⟩ := hcut
    cases kq with
    | zero => exact absurd HA.out (by simp [decklelaw15_HeaderLocals.j0])
    | succ kj4 =>
      have H := HA.out
      clear HA
      simp only [decklelaw15_HeaderLocals.j0] at H
      by_cases c20 : x29_4 = true
      · subst c20
        have H1 : (some t363) = some r := by rw [if_pos rfl] at H; exact H
        clear H
        have H := H1
        clear H1
        obtain rfl := Option.some.inj H
        go_wp2
        go_ret
        exact ⟨by first | rfl | (simp [errW_none, errW_some] <;> rfl) | (simp [*, errW_none, errW_some] <;> rfl), by repeat (first | (with_reducible first | exact HB.out | apply below_alloc | apply pw_below_drewN | apply below_drew1 | refine below_set ?_ GE362.out) | exact HB.out)⟩
      · replace c20 := Bool.eq_false_iff.mpr c20
        subst c20
        have H1 : ((some (([] : List ByteArray) : List ByteArray)).bind fun y368 => (if y368.length + l0_6.length < 8796093022208 then ((some (y368 ++ l0_6 : List ByteArray)).bind fun y371 => (if y371.length < 8796093022208 then ((some (y371 ++ [a1] : List ByteArray)).bind fun y374 => (if a1.toList = a0_0.toList then (decklelaw15_HeaderLocals.j1 kj4 a1 t363 true a0_0 a0_1 a0_2 a0_3 a0_4 a0_5 l0_6 a0_0 a0_1 a0_2 a0_3 a0_4 a0_5 y374) else (if a1.toList = a0_1.toList then (decklelaw15_HeaderLocals.j1 kj4 a1 t363 true a0_0 a0_1 a0_2 a0_3 a0_4 a0_5 l0_6 a0_0 a0_1 a0_2 a0_3 a0_4 a0_5 y374) else (if a1.toList = a0_2.toList then (decklelaw15_HeaderLocals.j1 kj4 a1 t363 true a0_0 a0_1 a0_2 a0_3 a0_4 a0_5 l0_6 a0_0 a0_1 a0_2 a0_3 a0_4 a0_5 y374) else (if a1.toList = a0_3.toList then (decklelaw15_HeaderLocals.j1 kj4 a1 t363 true a0_0 a0_1 a0_2 a0_3 a0_4 a0_5 l0_6 a0_0 a0_1 a0_2 a0_3 a0_4 a0_5 y374) else (if a1.toList = a0_4.toList then (decklelaw15_HeaderLocals.j1 kj4 a1 t363 true a0_0 a0_1 a0_2 a0_3 a0_4 a0_5 l0_6 a0_0 a0_1 a0_2 a0_3 a0_4 a0_5 y374) else (decklelaw15_HeaderLocals.j1 kj4 a1 t363 (a1.toList == a0_5.toList) a0_0 a0_1 a0_2 a0_3 a0_4 a0_5 l0_6 a0_0 a0_1 a0_2 a0_3 a0_4 a0_5 y374))))))) else (none))) else (none))) = some r := by rw [if_neg (show ¬ (false = true) by decide)] at H; exact H
        clear H
        have H := H1
        clear H1
        obtain ⟨y368, hy368⟩ : ∃ y_ : List ByteArray, y_ = (([] : List ByteArray)) := ⟨_, rfl⟩
        replace H : (if y368.length + l0_6.length < 8796093022208 then ((some (y368 ++ l0_6 : List ByteArray)).bind fun y371 => (if y371.length < 8796093022208 then ((some (y371 ++ [a1] : List ByteArray)).bind fun y374 => (if a1.toList = a0_0.toList then (decklelaw15_HeaderLocals.j1 kj4 a1 t363 true a0_0 a0_1 a0_2 a0_3 a0_4 a0_5 l0_6 a0_0 a0_1 a0_2 a0_3 a0_4 a0_5 y374) else (if a1.toList = a0_1.toList then (decklelaw15_HeaderLocals.j1 kj4 a1 t363 true a0_0 a0_1 a0_2 a0_3 a0_4 a0_5 l0_6 a0_0 a0_1 a0_2 a0_3 a0_4 a0_5 y374) else (if a1.toList = a0_2.toList then (decklelaw15_HeaderLocals.j1 kj4 a1 t363 true a0_0 a0_1 a0_2 a0_3 a0_4 a0_5 l0_6 a0_0 a0_1 a0_2 a0_3 a0_4 a0_5 y374) else (if a1.toList = a0_3.toList then (decklelaw15_HeaderLocals.j1 kj4 a1 t363 true a0_0 a0_1 a0_2 a0_3 a0_4 a0_5 l0_6 a0_0 a0_1 a0_2 a0_3 a0_4 a0_5 y374) else (if a1.toList = a0_4.toList then (decklelaw15_HeaderLocals.j1 kj4 a1 t363 true a0_0 a0_1 a0_2 a0_3 a0_4 a0_5 l0_6 a0_0 a0_1 a0_2 a0_3 a0_4 a0_5 y374) else (decklelaw15_HeaderLocals.j1 kj4 a1 t363 (a1.toList == a0_5.toList) a0_0 a0_1 a0_2 a0_3 a0_4 a0_5 l0_6 a0_0 a0_1 a0_2 a0_3 a0_4 a0_5 y374))))))) else (none))) else (none)) = some r := by first | (rw [hy368]; with_reducible exact H) | (have H2_ := (Option.bind_some _ _).symm.trans H; rw [hy368]; with_reducible exact H2_) | (have H2_ := (Option.bind_some _ _).symm.trans H; with_reducible exact H2_) | with_reducible exact H | (rw [hy368]; exact H) | exact H
        have Ny368 := Aside0.mk hy368
        clear hy368
        by_cases c21 : y368.length + l0_6.length < 8796093022208
        · rw [if_pos c21] at H
          have LMc21 := Aside0.mk c21
          clear c21
          obtain ⟨y371, hy371⟩ : ∃ y_ : List ByteArray, y_ = (y368 ++ l0_6) := ⟨_, rfl⟩
          replace H : (if y371.length < 8796093022208 then ((some (y371 ++ [a1] : List ByteArray)).bind fun y374 => (if a1.toList = a0_0.toList then (decklelaw15_HeaderLocals.j1 kj4 a1 t363 true a0_0 a0_1 a0_2 a0_3 a0_4 a0_5 l0_6 a0_0 a0_1 a0_2 a0_3 a0_4 a0_5 y374) else (if a1.toList = a0_1.toList then (decklelaw15_HeaderLocals.j1 kj4 a1 t363 true a0_0 a0_1 a0_2 a0_3 a0_4 a0_5 l0_6 a0_0 a0_1 a0_2 a0_3 a0_4 a0_5 y374) else (if a1.toList = a0_2.toList then (decklelaw15_HeaderLocals.j1 kj4 a1 t363 true a0_0 a0_1 a0_2 a0_3 a0_4 a0_5 l0_6 a0_0 a0_1 a0_2 a0_3 a0_4 a0_5 y374) else (if a1.toList = a0_3.toList then (decklelaw15_HeaderLocals.j1 kj4 a1 t363 true a0_0 a0_1 a0_2 a0_3 a0_4 a0_5 l0_6 a0_0 a0_1 a0_2 a0_3 a0_4 a0_5 y374) else (if a1.toList = a0_4.toList then (decklelaw15_HeaderLocals.j1 kj4 a1 t363 true a0_0 a0_1 a0_2 a0_3 a0_4 a0_5 l0_6 a0_0 a0_1 a0_2 a0_3 a0_4 a0_5 y374) else (decklelaw15_HeaderLocals.j1 kj4 a1 t363 (a1.toList == a0_5.toList) a0_0 a0_1 a0_2 a0_3 a0_4 a0_5 l0_6 a0_0 a0_1 a0_2 a0_3 a0_4 a0_5 y374))))))) else (none)) = some r := by first | (rw [hy371]; with_reducible exact H) | (have H2_ := (Option.bind_some _ _).symm.trans H; rw [hy371]; with_reducible exact H2_) | (have H2_ := (Option.bind_some _ _).symm.trans H; with_reducible exact H2_) | with_reducible exact H | (rw [hy371]; exact H) | exact H
          have Ny371 := Aside0.mk hy371
          clear hy371
          by_cases c22 : y371.length < 8796093022208
          · rw [if_pos c22] at H
            have LMc22 := Aside0.mk c22
            clear c22
            obtain ⟨y374, hy374⟩ : ∃ y_ : List ByteArray, y_ = (y371 ++ [a1]) := ⟨_, rfl⟩
            replace H : (if a1.toList = a0_0.toList then (decklelaw15_HeaderLocals.j1 kj4 a1 t363 true a0_0 a0_1 a0_2 a0_3 a0_4 a0_5 l0_6 a0_0 a0_1 a0_2 a0_3 a0_4 a0_5 y374) else (if a1.toList = a0_1.toList then (decklelaw15_HeaderLocals.j1 kj4 a1 t363 true a0_0 a0_1 a0_2 a0_3 a0_4 a0_5 l0_6 a0_0 a0_1 a0_2 a0_3 a0_4 a0_5 y374) else (if a1.toList = a0_2.toList then (decklelaw15_HeaderLocals.j1 kj4 a1 t363 true a0_0 a0_1 a0_2 a0_3 a0_4 a0_5 l0_6 a0_0 a0_1 a0_2 a0_3 a0_4 a0_5 y374) else (if a1.toList = a0_3.toList then (decklelaw15_HeaderLocals.j1 kj4 a1 t363 true a0_0 a0_1 a0_2 a0_3 a0_4 a0_5 l0_6 a0_0 a0_1 a0_2 a0_3 a0_4 a0_5 y374) else (if a1.toList = a0_4.toList then (decklelaw15_HeaderLocals.j1 kj4 a1 t363 true a0_0 a0_1 a0_2 a0_3 a0_4 a0_5 l0_6 a0_0 a0_1 a0_2 a0_3 a0_4 a0_5 y374) else (decklelaw15_HeaderLocals.j1 kj4 a1 t363 (a1.toList == a0_5.toList) a0_0 a0_1 a0_2 a0_3 a0_4 a0_5 l0_6 a0_0 a0_1 a0_2 a0_3 a0_4 a0_5 y374)))))) = some r := by first | (rw [hy374]; with_reducible exact H) | (have H2_ := (Option.bind_some _ _).symm.trans H; rw [hy374]; with_reducible exact H2_) | (have H2_ := (Option.bind_some _ _).symm.trans H; with_reducible exact H2_) | with_reducible exact H | (rw [hy374]; exact H) | exact H
            have Ny374 := Aside0.mk hy374
            clear hy374
            have HC23 := Aside0.mk H
            clear H
            have hcz24_0 : wc.cell? ⟨gb362, 0, none⟩ = some (.string a0_0) := (blk_cell BK362.out 0).trans rfl
            have hcz24_1 : wc.cell? ⟨gb362, 1, none⟩ = some (.string a0_1) := (blk_cell BK362.out 1).trans rfl
            have hcz24_2 : wc.cell? ⟨gb362, 2, none⟩ = some (.string a0_2) := (blk_cell BK362.out 2).trans rfl
            have hcz24_3 : wc.cell? ⟨gb362, 3, none⟩ = some (.string a0_3) := (blk_cell BK362.out 3).trans rfl
            have hcz24_4 : wc.cell? ⟨gb362, 4, none⟩ = some (.string a0_4) := (blk_cell BK362.out 4).trans rfl
            have hcz24_5 : wc.cell? ⟨gb362, 5, none⟩ = some (.string a0_5) := (blk_cell BK362.out 5).trans rfl
            have hcz24_6 : wc.cell? ⟨gb362, 6, none⟩ = some (.slice A0_6 l0_6.length c0_6) := (blk_cell BK362.out 6).trans rfl
            have hfz24_0 := blk_frozen BK362.out 0
            have hfz24_1 := blk_frozen BK362.out 1
            have hfz24_2 := blk_frozen BK362.out 2
            have hfz24_3 := blk_frozen BK362.out 3
            have hfz24_4 := blk_frozen BK362.out 4
            have hfz24_5 := blk_frozen BK362.out 5
            have hfz24_6 := blk_frozen BK362.out 6
            go_upto_region 7 with (first | ((with_reducible refine gate_dst (N := 7) rfl ?_); (try (refine gate_guard (by rfl) ?_; dsimp only)); refine box_event ?hg (N := 7) ?hd (cs := #[.string (⟨#[]⟩ : ByteArray), .string (⟨#[]⟩ : ByteArray), .string (⟨#[]⟩ : ByteArray), .string (⟨#[]⟩ : ByteArray), .string (⟨#[]⟩ : ByteArray), .string (⟨#[]⟩ : ByteArray), .slice none 0 0]) (t := 35) ?hr ?_; (case hd => rfl); (case hg => rfl); (case hr => first | (go_simp; done) | (go_simp; rfl)); intro gb367 hg w25 hbox hb; have n0_ := Aside0.mk (blk_below (g := gb362) (o := .cells #[.string a0_0, .string a0_1, .string a0_2, .string a0_3, .string a0_4, .string a0_5, .slice A0_6 l0_6.length c0_6] 35 (0, 0)) (by (with_reducible repeat (first | refine blk_drewN ?_ _ | refine blk_drew ?_ | refine blk_alloc ?_ _)); exact BK362.out) hb); have n1_ := Aside0.mk (below_step (by repeat (first | (with_reducible first | exact HB.out | apply below_alloc | apply pw_below_drewN | apply below_drew1 | refine below_set ?_ GE362.out) | exact HB.out)) hb); have n2_ := Aside0.mk (hbox); have n3_ := Aside0.mk ((by rw [hg]; exact (below_size (by repeat (first | (with_reducible first | exact HB.out | apply below_alloc | apply pw_below_drewN | apply below_drew1 | refine below_set ?_ GE362.out) | exact HB.out))) : w.heap.size ≤ gb367)); have n4_ := Aside0.mk ((by rw [hg]; exact (below_size (by repeat (first | (with_reducible first | exact HB.out | apply below_alloc | apply pw_below_drewN | apply below_drew1 | refine below_set ?_ GE362.out) | exact HB.out))) : w.heap.size ≤ gb367)); have n5_ := Aside0.mk ((by rw [hg]; exact Nat.ne_of_lt (blk_lt (g := gb362) (o := .cells #[.string a0_0, .string a0_1, .string a0_2, .string a0_3, .string a0_4, .string a0_5, .slice A0_6 l0_6.length c0_6] 35 (0, 0)) (by (with_reducible repeat (first | refine blk_drewN ?_ _ | refine blk_drew ?_ | refine blk_alloc ?_ _)); exact BK362.out)) : gb362 ≠ gb367)); have n6_ := Aside0.mk ((by rw [hg]; exact Nat.ne_of_gt (blk_lt (g := gb362) (o := .cells #[.string a0_0, .string a0_1, .string a0_2, .string a0_3, .string a0_4, .string a0_5, .slice A0_6 l0_6.length c0_6] 35 (0, 0)) (by (with_reducible repeat (first | refine blk_drewN ?_ _ | refine blk_drew ?_ | refine blk_alloc ?_ _)); exact BK362.out)) : gb367 ≠ gb362)); clear BK362; clear HB; have BK362 := n0_; have HB := n1_; have BK367 := n2_; have GW367 := n3_; have GE367 := n4_; have NB362_367 := n5_; have NB367_362 := n6_; clear n0_ n1_ n2_ n3_ n4_ n5_ n6_; clear hb hbox hg; have hnb26 := NB367_362.out; have hnc26 := NB362_367.out; have hcz27_0 : w25.cell? ⟨gb367, 0, none⟩ = some (.string (⟨#[]⟩ : ByteArray)) := (blk_cell BK367.out 0).trans rfl; have hcz27_1 : w25.cell? ⟨gb367, 1, none⟩ = some (.string (⟨#[]⟩ : ByteArray)) := (blk_cell BK367.out 1).trans rfl; have hcz27_2 : w25.cell? ⟨gb367, 2, none⟩ = some (.string (⟨#[]⟩ : ByteArray)) := (blk_cell BK367.out 2).trans rfl; have hcz27_3 : w25.cell? ⟨gb367, 3, none⟩ = some (.string (⟨#[]⟩ : ByteArray)) := (blk_cell BK367.out 3).trans rfl; have hcz27_4 : w25.cell? ⟨gb367, 4, none⟩ = some (.string (⟨#[]⟩ : ByteArray)) := (blk_cell BK367.out 4).trans rfl; have hcz27_5 : w25.cell? ⟨gb367, 5, none⟩ = some (.string (⟨#[]⟩ : ByteArray)) := (blk_cell BK367.out 5).trans rfl; have hcz27_6 : w25.cell? ⟨gb367, 6, none⟩ = some (.slice none 0 0) := (blk_cell BK367.out 6).trans rfl; have hfz27_0 := blk_frozen BK367.out 0; have hfz27_1 := blk_frozen BK367.out 1; have hfz27_2 := blk_frozen BK367.out 2; have hfz27_3 := blk_frozen BK367.out 3; have hfz27_4 := blk_frozen BK367.out 4; have hfz27_5 := blk_frozen BK367.out 5; have hfz27_6 := blk_frozen BK367.out 6) | ((with_reducible refine gate_dst (N := 32) rfl ?_); (try (refine gate_guard (by rfl) ?_; dsimp only)); refine Kd.R_lit Kd.string _ 9 ?hg (N := 32) ?hd (xs := ([] : List ByteArray)) (inner := []) (ok := fun _ => True) (okp := fun _ => True) ?hr ?hp (fun _ hk => hk) trivial (Below.refl _ _) (Nat.le_refl _) (by simp) ?_; (case hd => rfl); (case hg => rfl); (case hr => first | (go_simp; done) | (go_simp; rfl)); (case hp => exact (Reps.none _ _)); intro v369 w28 ho29 hb hg_ hnew_; clear hg_ hnew_; (first | rw [← Ny368.out] at ho29 | (simp only [Int.reduceToNat] at ho29; rw [← Ny368.out] at ho29)); have n0_ := Aside0.mk (Kd.R_lower ho29 (below_size (by repeat (first | (with_reducible first | exact HB.out | apply below_alloc | apply pw_below_drewN | apply below_drew1 | refine below_set ?_ GE362.out | refine below_set ?_ GE367.out) | exact HB.out)))); have n1_ := Aside0.mk (blk_below (g := gb362) (o := .cells #[.string a0_0, .string a0_1, .string a0_2, .string a0_3, .string a0_4, .string a0_5, .slice A0_6 l0_6.length c0_6] 35 (0, 0)) (by (with_reducible repeat (first | refine blk_drewN ?_ _ | refine blk_drew ?_ | refine blk_alloc ?_ _)); refine blk_far ?_ NB362_367.out _; (with_reducible repeat (first | refine blk_drewN ?_ _ | refine blk_drew ?_ | refine blk_alloc ?_ _)); refine blk_far ?_ NB362_367.out _; (with_reducible repeat (first | refine blk_drewN ?_ _ | refine blk_drew ?_ | refine blk_alloc ?_ _)); refine blk_far ?_ NB362_367.out _; (with_reducible repeat (first | refine blk_drewN ?_ _ | refine blk_drew ?_ | refine blk_alloc ?_ _)); refine blk_far ?_ NB362_367.out _; (with_reducible repeat (first | refine blk_drewN ?_ _ | refine blk_drew ?_ | refine blk_alloc ?_ _)); refine blk_far ?_ NB362_367.out _; (with_reducible repeat (first | refine blk_drewN ?_ _ | refine blk_drew ?_ | refine blk_alloc ?_ _)); refine blk_far ?_ NB362_367.out _; (with_reducible repeat (first | refine blk_drewN ?_ _ | refine blk_drew ?_ | refine blk_alloc ?_ _)); refine blk_far ?_ NB362_367.out _; (with_reducible repeat (first | refine blk_drewN ?_ _ | refine blk_drew ?_ | refine blk_alloc ?_ _)); exact BK362.out) hb); have n2_ := Aside0.mk (blk_below (g := gb367) (o := .cells #[.string a0_0, .string a0_1, .string a0_2, .string a0_3, .string a0_4, .string a0_5, .slice A0_6 l0_6.length c0_6] 35 (0, 0)) (by (with_reducible repeat (first | refine blk_drewN ?_ _ | refine blk_drew ?_ | refine blk_alloc ?_ _)); refine blk_put (cs := #[.string a0_0, .string a0_1, .string a0_2, .string a0_3, .string a0_4, .string a0_5, .slice none 0 0]) ?_ 6 _ rfl; (with_reducible repeat (first | refine blk_drewN ?_ _ | refine blk_drew ?_ | refine blk_alloc ?_ _)); refine blk_put (cs := #[.string a0_0, .string a0_1, .string a0_2, .string a0_3, .string a0_4, .string (⟨#[]⟩ : ByteArray), .slice none 0 0]) ?_ 5 _ rfl; (with_reducible repeat (first | refine blk_drewN ?_ _ | refine blk_drew ?_ | refine blk_alloc ?_ _)); refine blk_put (cs := #[.string a0_0, .string a0_1, .string a0_2, .string a0_3, .string (⟨#[]⟩ : ByteArray), .string (⟨#[]⟩ : ByteArray), .slice none 0 0]) ?_ 4 _ rfl; (with_reducible repeat (first | refine blk_drewN ?_ _ | refine blk_drew ?_ | refine blk_alloc ?_ _)); refine blk_put (cs := #[.string a0_0, .string a0_1, .string a0_2, .string (⟨#[]⟩ : ByteArray), .string (⟨#[]⟩ : ByteArray), .string (⟨#[]⟩ : ByteArray), .slice none 0 0]) ?_ 3 _ rfl; (with_reducible repeat (first | refine blk_drewN ?_ _ | refine blk_drew ?_ | refine blk_alloc ?_ _)); refine blk_put (cs := #[.string a0_0, .string a0_1, .string (⟨#[]⟩ : ByteArray), .string (⟨#[]⟩ : ByteArray), .string (⟨#[]⟩ : ByteArray), .string (⟨#[]⟩ : ByteArray), .slice none 0 0]) ?_ 2 _ rfl; (with_reducible repeat (first | refine blk_drewN ?_ _ | refine blk_drew ?_ | refine blk_alloc ?_ _)); refine blk_put (cs := #[.string a0_0, .string (⟨#[]⟩ : ByteArray), .string (⟨#[]⟩ : ByteArray), .string (⟨#[]⟩ : ByteArray), .string (⟨#[]⟩ : ByteArray), .string (⟨#[]⟩ : ByteArray), .slice none 0 0]) ?_ 1 _ rfl; (with_reducible repeat (first | refine blk_drewN ?_ _ | refine blk_drew ?_ | refine blk_alloc ?_ _)); refine blk_put (cs := #[.string (⟨#[]⟩ : ByteArray), .string (⟨#[]⟩ : ByteArray), .string (⟨#[]⟩ : ByteArray), .string (⟨#[]⟩ : ByteArray), .string (⟨#[]⟩ : ByteArray), .string (⟨#[]⟩ : ByteArray), .slice none 0 0]) ?_ 0 _ rfl; (with_reducible repeat (first | refine blk_drewN ?_ _ | refine blk_drew ?_ | refine blk_alloc ?_ _)); exact BK367.out) hb); have n3_ := Aside0.mk (below_step (by repeat (first | (with_reducible first | exact HB.out | apply below_alloc | apply pw_below_drewN | apply below_drew1 | refine below_set ?_ GE362.out | refine below_set ?_ GE367.out) | exact HB.out)) hb); clear BK362; clear BK367; clear HB; have HO370 := n0_; have BK362 := n1_; have BK367 := n2_; have HB := n3_; clear n0_ n1_ n2_ n3_; clear hb ho29; have hcz30_0 : w28.cell? ⟨gb362, 0, none⟩ = some (.string a0_0) := (blk_cell BK362.out 0).trans rfl; have hcz30_1 : w28.cell? ⟨gb362, 1, none⟩ = some (.string a0_1) := (blk_cell BK362.out 1).trans rfl; have hcz30_2 : w28.cell? ⟨gb362, 2, none⟩ = some (.string a0_2) := (blk_cell BK362.out 2).trans rfl; have hcz30_3 : w28.cell? ⟨gb362, 3, none⟩ = some (.string a0_3) := (blk_cell BK362.out 3).trans rfl; have hcz30_4 : w28.cell? ⟨gb362, 4, none⟩ = some (.string a0_4) := (blk_cell BK362.out 4).trans rfl; have hcz30_5 : w28.cell? ⟨gb362, 5, none⟩ = some (.string a0_5) := (blk_cell BK362.out 5).trans rfl; have hcz30_6 : w28.cell? ⟨gb362, 6, none⟩ = some (.slice A0_6 l0_6.length c0_6) := (blk_cell BK362.out 6).trans rfl; have hfz30_0 := blk_frozen BK362.out 0; have hfz30_1 := blk_frozen BK362.out 1; have hfz30_2 := blk_frozen BK362.out 2; have hfz30_3 := blk_frozen BK362.out 3; have hfz30_4 := blk_frozen BK362.out 4; have hfz30_5 := blk_frozen BK362.out 5; have hfz30_6 := blk_frozen BK362.out 6) | ((with_reducible refine gate_builtin (b := .append) (xs := #[.tmp 32, .tmp 34]) rfl ?_); (try (refine gate_guard (by rfl) ?_; dsimp only)); at_builtin; refine Kd.R_append_rows Kd.string (w0 := w) w.heap.size rfl (.tmp 32) (.tmp 34) 22 9 (.string ⟨#[]⟩) 16 rfl Try.underlying22 info9 rfl (by decide) (by omega) v369 y368 l0_6 _ _ _ (fun _ => True) (fun _ => False) rfl rfl ?aO ?aR (fun _ _ h => h) (fun _ h => h.elim) ?aF ?aB ?aS ?aL ?_; (case aR => repeat (first | exact (Kd.C_below HR0_6.out HB.out) | (with_reducible refine Kd.C_alloc ?_ _) | (with_reducible refine Kd.C_drewN ?_ _) | (with_reducible refine Kd.C_drew ?_))); (case aB => exact (by repeat (first | (with_reducible first | exact HB.out | apply below_alloc | apply pw_below_drewN | apply below_drew1 | refine below_set ?_ GE362.out | refine below_set ?_ GE367.out) | exact HB.out))); (case aF => exact (fun _ _ => trivial)); (case aO => exact (by (with_reducible repeat (first | apply Kd.R_alloc | apply Kd.R_drewN | apply Kd.R_drew)); exact HO370.out)); (case aS => exact (below_size (by repeat (first | (with_reducible first | exact HB.out | apply below_alloc | apply pw_below_drewN | apply below_drew1 | refine below_set ?_ GE362.out | refine below_set ?_ GE367.out) | exact HB.out)))); (case aL => have := LMc21.out; omega); intro v372 w31 ho hb hg hat; rw [← Ny371.out] at ho; have n0_ := Aside0.mk (blk_grown (g := gb362) (o := .cells #[.string a0_0, .string a0_1, .string a0_2, .string a0_3, .string a0_4, .string a0_5, .slice A0_6 l0_6.length c0_6] 35 (0, 0)) (by (with_reducible repeat (first | refine blk_drewN ?_ _ | refine blk_drew ?_ | refine blk_alloc ?_ _)); exact BK362.out) hg (Kd.R_ne HO370.out BK362.out (by decide))); have n1_ := Aside0.mk (blk_grown (g := gb367) (o := .cells #[.string a0_0, .string a0_1, .string a0_2, .string a0_3, .string a0_4, .string a0_5, .slice A0_6 l0_6.length c0_6] 35 (0, 0)) (by (with_reducible repeat (first | refine blk_drewN ?_ _ | refine blk_drew ?_ | refine blk_alloc ?_ _)); exact BK367.out) hg (Kd.R_ne HO370.out BK367.out (by decide))); have n2_ := Aside0.mk (hb); have n3_ := Aside0.mk (ho); clear BK362; clear BK367; clear HB; clear HO370; have BK362 := n0_; have BK367 := n1_; have HB := n2_; have HO373 := n3_; clear n0_ n1_ n2_ n3_; clear ho hb hg hat) | ((with_reducible refine gate_builtin (b := .append) (xs := #[.tmp 35, .tmp 37]) rfl ?_); (try (refine gate_guard (by rfl) ?_; dsimp only)); at_builtin; refine Kd.R_append Kd.string (w0 := w) w.heap.size rfl (.tmp 35) (.tmp 37) 22 9 (.string ⟨#[]⟩) 16 rfl Try.underlying22 info9 rfl (by decide) (by omega) v372 y371 a1 [.string a1] (fun _ => True) (fun _ => False) rfl rfl ?aP (fun _ hk => hk.elim) ?aF ?aO ?aB ?aS ?aL ?_; (case aP => exact rfl); (case aB => exact (by repeat (first | (with_reducible first | exact HB.out | apply below_alloc | apply pw_below_drewN | apply below_drew1 | refine below_set ?_ GE362.out | refine below_set ?_ GE367.out) | exact HB.out))); (case aF => exact (fun _ _ => trivial)); (case aO => exact (by (with_reducible repeat (first | apply Kd.R_alloc | apply Kd.R_drewN | apply Kd.R_drew)); exact HO373.out)); (case aS => exact (below_size (by repeat (first | (with_reducible first | exact HB.out | apply below_alloc | apply pw_below_drewN | apply below_drew1 | refine below_set ?_ GE362.out | refine below_set ?_ GE367.out) | exact HB.out)))); (case aL => have := LMc22.out; omega); intro v375 w32 ho hb hg hat; rw [← Ny374.out] at ho; have n0_ := Aside0.mk (blk_grown (g := gb362) (o := .cells #[.string a0_0, .string a0_1, .string a0_2, .string a0_3, .string a0_4, .string a0_5, .slice A0_6 l0_6.length c0_6] 35 (0, 0)) (by (with_reducible repeat (first | refine blk_drewN ?_ _ | refine blk_drew ?_ | refine blk_alloc ?_ _)); exact BK362.out) hg (Kd.R_ne HO373.out BK362.out (by decide))); have n1_ := Aside0.mk (blk_grown (g := gb367) (o := .cells #[.string a0_0, .string a0_1, .string a0_2, .string a0_3, .string a0_4, .string a0_5, .slice A0_6 l0_6.length c0_6] 35 (0, 0)) (by (with_reducible repeat (first | refine blk_drewN ?_ _ | refine blk_drew ?_ | refine blk_alloc ?_ _)); exact BK367.out) hg (Kd.R_ne HO373.out BK367.out (by decide))); have n2_ := Aside0.mk (hb); have n3_ := Aside0.mk (ho); clear BK362; clear BK367; clear HB; clear HO373; have BK362 := n0_; have BK367 := n1_; have HB := n2_; have HO376 := n3_; clear n0_ n1_ n2_ n3_; clear ho hb hg hat; obtain ⟨Ao33, co33, eo33⟩ := Kd.R_slice HO376.out; subst eo33; have hcz34_0 : w32.cell? ⟨gb367, 0, none⟩ = some (.string a0_0) := (blk_cell BK367.out 0).trans rfl; have hcz34_1 : w32.cell? ⟨gb367, 1, none⟩ = some (.string a0_1) := (blk_cell BK367.out 1).trans rfl; have hcz34_2 : w32.cell? ⟨gb367, 2, none⟩ = some (.string a0_2) := (blk_cell BK367.out 2).trans rfl; have hcz34_3 : w32.cell? ⟨gb367, 3, none⟩ = some (.string a0_3) := (blk_cell BK367.out 3).trans rfl; have hcz34_4 : w32.cell? ⟨gb367, 4, none⟩ = some (.string a0_4) := (blk_cell BK367.out 4).trans rfl; have hcz34_5 : w32.cell? ⟨gb367, 5, none⟩ = some (.string a0_5) := (blk_cell BK367.out 5).trans rfl; have hcz34_6 : w32.cell? ⟨gb367, 6, none⟩ = some (.slice A0_6 l0_6.length c0_6) := (blk_cell BK367.out 6).trans rfl; have hfz34_0 := blk_frozen BK367.out 0; have hfz34_1 := blk_frozen BK367.out 1; have hfz34_2 := blk_frozen BK367.out 2; have hfz34_3 := blk_frozen BK367.out 3; have hfz34_4 := blk_frozen BK367.out 4; have hfz34_5 := blk_frozen BK367.out 5; have hfz34_6 := blk_frozen BK367.out 6))
            (try simp only [Act.put, List.setIfInBounds_toArray, List.set_cons_zero, List.set_cons_succ])
            go_cut [8] (fun v8 wc => ∃ (kq : Nat) (x8_22 : Bool), v8 = .bool x8_22 ∧ Aside0 (decklelaw15_HeaderLocals.j1 kq a1 t363 x8_22 a0_0 a0_1 a0_2 a0_3 a0_4 a0_5 l0_6 a0_0 a0_1 a0_2 a0_3 a0_4 a0_5 y374 = some r) ∧ Aside0 (kq ≤ kj4) ∧ Aside0 (Kd.R Kd.string 9 wc w.heap.size (fun _ => True) (.slice Ao33 y374.length co33) y374) ∧ Aside0 (wc.heap[gb362]? = some (.cells #[.string a0_0, .string a0_1, .string a0_2, .string a0_3, .string a0_4, .string a0_5, (.slice A0_6 l0_6.length c0_6)] 35 (0, 0))) ∧ Aside0 (wc.heap[gb367]? = some (.cells #[.string a0_0, .string a0_1, .string a0_2, .string a0_3, .string a0_4, .string a0_5, (.slice Ao33 y374.length co33)] 35 (0, 0))) ∧ Aside0 (Below w.heap.size w wc))
            case first =>
              have H := HC23.out
              clear HC23
              by_cases c35 : a1.toList = a0_0.toList
              · rw [if_pos c35] at H
                have c35b0 : (a1.toList == a0_0.toList) = true := beq_iff_eq.mpr c35
                have c35b1 : (a1.toList != a0_0.toList) = false := bne_eq_false_iff_eq.mpr c35
                clear c35
                (first | rw [c35b0] | (simp only [i64_w, i32_w]; rw [c35b0]) | skip)
                (try simp only [c35b8])
                have H' := Aside0.mk H
                clear H
                have hnb36 := NB362_367.out
                have hnc36 := NB367_362.out
                have hcz37_0 : w32.cell? ⟨gb362, 0, none⟩ = some (.string a0_0) := (blk_cell BK362.out 0).trans rfl
                have hcz37_1 : w32.cell? ⟨gb362, 1, none⟩ = some (.string a0_1) := (blk_cell BK362.out 1).trans rfl
                have hcz37_2 : w32.cell? ⟨gb362, 2, none⟩ = some (.string a0_2) := (blk_cell BK362.out 2).trans rfl
                have hcz37_3 : w32.cell? ⟨gb362, 3, none⟩ = some (.string a0_3) := (blk_cell BK362.out 3).trans rfl
                have hcz37_4 : w32.cell? ⟨gb362, 4, none⟩ = some (.string a0_4) := (blk_cell BK362.out 4).trans rfl
                have hcz37_5 : w32.cell? ⟨gb362, 5, none⟩ = some (.string a0_5) := (blk_cell BK362.out 5).trans rfl
                have hcz37_6 : w32.cell? ⟨gb362, 6, none⟩ = some (.slice A0_6 l0_6.length c0_6) := (blk_cell BK362.out 6).trans rfl
                have hfz37_0 := blk_frozen BK362.out 0
                have hfz37_1 := blk_frozen BK362.out 1
                have hfz37_2 := blk_frozen BK362.out 2
                have hfz37_3 := blk_frozen BK362.out 3
                have hfz37_4 := blk_frozen BK362.out 4
                have hfz37_5 := blk_frozen BK362.out 5
                have hfz37_6 := blk_frozen BK362.out 6
                go_wp2
                go_meet
                case rel => exact ⟨_, (true), (by first | rfl | (simp; done) | (simp [*]; done)), H', ⟨by have := HJ4.out; first | omega | exact Nat.le_refl _⟩, ⟨by (with_reducible repeat (first | apply Kd.R_alloc | apply Kd.R_drewN | apply Kd.R_drew)); exact Kd.R_mono (Kd.R_far (p := ⟨gb367, 6, none⟩) (Kd.R_types HO376.out BK367.out (by decide)) (fun _ hk => hk.2) (.slice Ao33 y374.length co33)) (fun _ hk => trivial)⟩, ⟨by (with_reducible repeat (first | refine blk_drewN ?_ _ | refine blk_drew ?_ | refine blk_alloc ?_ _)); refine blk_far ?_ NB362_367.out _; (with_reducible repeat (first | refine blk_drewN ?_ _ | refine blk_drew ?_ | refine blk_alloc ?_ _)); exact BK362.out⟩, ⟨by (with_reducible repeat (first | refine blk_drewN ?_ _ | refine blk_drew ?_ | refine blk_alloc ?_ _)); refine blk_put (cs := #[.string a0_0, .string a0_1, .string a0_2, .string a0_3, .string a0_4, .string a0_5, .slice A0_6 l0_6.length c0_6]) ?_ 6 _ rfl; (with_reducible repeat (first | refine blk_drewN ?_ _ | refine blk_drew ?_ | refine blk_alloc ?_ _)); exact BK367.out⟩, ⟨by repeat (first | (with_reducible first | exact HB.out | apply below_alloc | apply pw_below_drewN | apply below_drew1 | refine below_set ?_ GE362.out | refine below_set ?_ GE367.out) | exact HB.out)⟩⟩
              · rw [if_neg c35] at H
                have c35b0 : (a1.toList == a0_0.toList) = false := beq_eq_false_iff_ne.mpr c35
                have c35b1 : (a1.toList != a0_0.toList) = true := bne_iff_ne.mpr c35
                (first | rw [c35b0] | (simp only [i64_w, i32_w]; rw [c35b0]) | skip)
                (try simp only [c35b8])
                by_cases c38 : a1.toList = a0_1.toList
                · rw [if_pos c38] at H
                  have c38b0 : (a1.toList == a0_1.toList) = true := beq_iff_eq.mpr c38
                  have c38b1 : (a1.toList != a0_1.toList) = false := bne_eq_false_iff_eq.mpr c38
                  clear c38
                  have H' := Aside0.mk H
                  clear H
                  have hnb39 := NB362_367.out
                  have hnc39 := NB367_362.out
                  have hcz40_0 : w32.cell? ⟨gb362, 0, none⟩ = some (.string a0_0) := (blk_cell BK362.out 0).trans rfl
                  have hcz40_1 : w32.cell? ⟨gb362, 1, none⟩ = some (.string a0_1) := (blk_cell BK362.out 1).trans rfl
                  have hcz40_2 : w32.cell? ⟨gb362, 2, none⟩ = some (.string a0_2) := (blk_cell BK362.out 2).trans rfl
                  have hcz40_3 : w32.cell? ⟨gb362, 3, none⟩ = some (.string a0_3) := (blk_cell BK362.out 3).trans rfl
                  have hcz40_4 : w32.cell? ⟨gb362, 4, none⟩ = some (.string a0_4) := (blk_cell BK362.out 4).trans rfl
                  have hcz40_5 : w32.cell? ⟨gb362, 5, none⟩ = some (.string a0_5) := (blk_cell BK362.out 5).trans rfl
                  have hcz40_6 : w32.cell? ⟨gb362, 6, none⟩ = some (.slice A0_6 l0_6.length c0_6) := (blk_cell BK362.out 6).trans rfl
                  have hfz40_0 := blk_frozen BK362.out 0
                  have hfz40_1 := blk_frozen BK362.out 1
                  have hfz40_2 := blk_frozen BK362.out 2
                  have hfz40_3 := blk_frozen BK362.out 3
                  have hfz40_4 := blk_frozen BK362.out 4
                  have hfz40_5 := blk_frozen BK362.out 5
                  have hfz40_6 := blk_frozen BK362.out 6
                  go_wp2
                  go_meet
                  case rel => exact ⟨_, (true), (by first | rfl | (simp; done) | (simp [*]; done)), H', ⟨by have := HJ4.out; first | omega | exact Nat.le_refl _⟩, ⟨by (with_reducible repeat (first | apply Kd.R_alloc | apply Kd.R_drewN | apply Kd.R_drew)); exact Kd.R_mono (Kd.R_far (p := ⟨gb367, 6, none⟩) (Kd.R_types HO376.out BK367.out (by decide)) (fun _ hk => hk.2) (.slice Ao33 y374.length co33)) (fun _ hk => trivial)⟩, ⟨by (with_reducible repeat (first | refine blk_drewN ?_ _ | refine blk_drew ?_ | refine blk_alloc ?_ _)); refine blk_far ?_ NB362_367.out _; (with_reducible repeat (first | refine blk_drewN ?_ _ | refine blk_drew ?_ | refine blk_alloc ?_ _)); exact BK362.out⟩, ⟨by (with_reducible repeat (first | refine blk_drewN ?_ _ | refine blk_drew ?_ | refine blk_alloc ?_ _)); refine blk_put (cs := #[.string a0_0, .string a0_1, .string a0_2, .string a0_3, .string a0_4, .string a0_5, .slice A0_6 l0_6.length c0_6]) ?_ 6 _ rfl; (with_reducible repeat (first | refine blk_drewN ?_ _ | refine blk_drew ?_ | refine blk_alloc ?_ _)); exact BK367.out⟩, ⟨by repeat (first | (with_reducible first | exact HB.out | apply below_alloc | apply pw_below_drewN | apply below_drew1 | refine below_set ?_ GE362.out | refine below_set ?_ GE367.out) | exact HB.out)⟩⟩
                · rw [if_neg c38] at H
                  have c38b0 : (a1.toList == a0_1.toList) = false := beq_eq_false_iff_ne.mpr c38
                  have c38b1 : (a1.toList != a0_1.toList) = true := bne_iff_ne.mpr c38
                  by_cases c41 : a1.toList = a0_2.toList
                  · rw [if_pos c41] at H
                    have c41b0 : (a1.toList == a0_2.toList) = true := beq_iff_eq.mpr c41
                    have c41b1 : (a1.toList != a0_2.toList) = false := bne_eq_false_iff_eq.mpr c41
                    clear c41
                    have H' := Aside0.mk H
                    clear H
                    have hnb42 := NB362_367.out
                    have hnc42 := NB367_362.out
                    have hcz43_0 : w32.cell? ⟨gb362, 0, none⟩ = some (.string a0_0) := (blk_cell BK362.out 0).trans rfl
                    have hcz43_1 : w32.cell? ⟨gb362, 1, none⟩ = some (.string a0_1) := (blk_cell BK362.out 1).trans rfl
                    have hcz43_2 : w32.cell? ⟨gb362, 2, none⟩ = some (.string a0_2) := (blk_cell BK362.out 2).trans rfl
                    have hcz43_3 : w32.cell? ⟨gb362, 3, none⟩ = some (.string a0_3) := (blk_cell BK362.out 3).trans rfl
                    have hcz43_4 : w32.cell? ⟨gb362, 4, none⟩ = some (.string a0_4) := (blk_cell BK362.out 4).trans rfl
                    have hcz43_5 : w32.cell? ⟨gb362, 5, none⟩ = some (.string a0_5) := (blk_cell BK362.out 5).trans rfl
                    have hcz43_6 : w32.cell? ⟨gb362, 6, none⟩ = some (.slice A0_6 l0_6.length c0_6) := (blk_cell BK362.out 6).trans rfl
                    have hfz43_0 := blk_frozen BK362.out 0
                    have hfz43_1 := blk_frozen BK362.out 1
                    have hfz43_2 := blk_frozen BK362.out 2
                    have hfz43_3 := blk_frozen BK362.out 3
                    have hfz43_4 := blk_frozen BK362.out 4
                    have hfz43_5 := blk_frozen BK362.out 5
                    have hfz43_6 := blk_frozen BK362.out 6
                    go_wp2
                    go_meet
                    case rel => exact ⟨_, (true), (by first | rfl | (simp; done) | (simp [*]; done)), H', ⟨by have := HJ4.out; first | omega | exact Nat.le_refl _⟩, ⟨by (with_reducible repeat (first | apply Kd.R_alloc | apply Kd.R_drewN | apply Kd.R_drew)); exact Kd.R_mono (Kd.R_far (p := ⟨gb367, 6, none⟩) (Kd.R_types HO376.out BK367.out (by decide)) (fun _ hk => hk.2) (.slice Ao33 y374.length co33)) (fun _ hk => trivial)⟩, ⟨by (with_reducible repeat (first | refine blk_drewN ?_ _ | refine blk_drew ?_ | refine blk_alloc ?_ _)); refine blk_far ?_ NB362_367.out _; (with_reducible repeat (first | refine blk_drewN ?_ _ | refine blk_drew ?_ | refine blk_alloc ?_ _)); exact BK362.out⟩, ⟨by (with_reducible repeat (first | refine blk_drewN ?_ _ | refine blk_drew ?_ | refine blk_alloc ?_ _)); refine blk_put (cs := #[.string a0_0, .string a0_1, .string a0_2, .string a0_3, .string a0_4, .string a0_5, .slice A0_6 l0_6.length c0_6]) ?_ 6 _ rfl; (with_reducible repeat (first | refine blk_drewN ?_ _ | refine blk_drew ?_ | refine blk_alloc ?_ _)); exact BK367.out⟩, ⟨by repeat (first | (with_reducible first | exact HB.out | apply below_alloc | apply pw_below_drewN | apply below_drew1 | refine below_set ?_ GE362.out | refine below_set ?_ GE367.out) | exact HB.out)⟩⟩
                  · rw [if_neg c41] at H
                    have c41b0 : (a1.toList == a0_2.toList) = false := beq_eq_false_iff_ne.mpr c41
                    have c41b1 : (a1.toList != a0_2.toList) = true := bne_iff_ne.mpr c41
                    by_cases c44 : a1.toList = a0_3.toList
                    · rw [if_pos c44] at H
                      have c44b0 : (a1.toList == a0_3.toList) = true := beq_iff_eq.mpr c44
                      have c44b1 : (a1.toList != a0_3.toList) = false := bne_eq_false_iff_eq.mpr c44
                      clear c44
                      have H' := Aside0.mk H
                      clear H
                      have hnb45 := NB362_367.out
                      have hnc45 := NB367_362.out
                      have hcz46_0 : w32.cell? ⟨gb362, 0, none⟩ = some (.string a0_0) := (blk_cell BK362.out 0).trans rfl
                      have hcz46_1 : w32.cell? ⟨gb362, 1, none⟩ = some (.string a0_1) := (blk_cell BK362.out 1).trans rfl
                      have hcz46_2 : w32.cell? ⟨gb362, 2, none⟩ = some (.string a0_2) := (blk_cell BK362.out 2).trans rfl
                      have hcz46_3 : w32.cell? ⟨gb362, 3, none⟩ = some (.string a0_3) := (blk_cell BK362.out 3).trans rfl
                      have hcz46_4 : w32.cell? ⟨gb362, 4, none⟩ = some (.string a0_4) := (blk_cell BK362.out 4).trans rfl
                      have hcz46_5 : w32.cell? ⟨gb362, 5, none⟩ = some (.string a0_5) := (blk_cell BK362.out 5).trans rfl
                      have hcz46_6 : w32.cell? ⟨gb362, 6, none⟩ = some (.slice A0_6 l0_6.length c0_6) := (blk_cell BK362.out 6).trans rfl
                      have hfz46_0 := blk_frozen BK362.out 0
                      have hfz46_1 := blk_frozen BK362.out 1
                      have hfz46_2 := blk_frozen BK362.out 2
                      have hfz46_3 := blk_frozen BK362.out 3
                      have hfz46_4 := blk_frozen BK362.out 4
                      have hfz46_5 := blk_frozen BK362.out 5
                      have hfz46_6 := blk_frozen BK362.out 6
                      go_wp2
                      go_meet
                      case rel => exact ⟨_, (true), (by first | rfl | (simp; done) | (simp [*]; done)), H', ⟨by have := HJ4.out; first | omega | exact Nat.le_refl _⟩, ⟨by (with_reducible repeat (first | apply Kd.R_alloc | apply Kd.R_drewN | apply Kd.R_drew)); exact Kd.R_mono (Kd.R_far (p := ⟨gb367, 6, none⟩) (Kd.R_types HO376.out BK367.out (by decide)) (fun _ hk => hk.2) (.slice Ao33 y374.length co33)) (fun _ hk => trivial)⟩, ⟨by (with_reducible repeat (first | refine blk_drewN ?_ _ | refine blk_drew ?_ | refine blk_alloc ?_ _)); refine blk_far ?_ NB362_367.out _; (with_reducible repeat (first | refine blk_drewN ?_ _ | refine blk_drew ?_ | refine blk_alloc ?_ _)); exact BK362.out⟩, ⟨by (with_reducible repeat (first | refine blk_drewN ?_ _ | refine blk_drew ?_ | refine blk_alloc ?_ _)); refine blk_put (cs := #[.string a0_0, .string a0_1, .string a0_2, .string a0_3, .string a0_4, .string a0_5, .slice A0_6 l0_6.length c0_6]) ?_ 6 _ rfl; (with_reducible repeat (first | refine blk_drewN ?_ _ | refine blk_drew ?_ | refine blk_alloc ?_ _)); exact BK367.out⟩, ⟨by repeat (first | (with_reducible first | exact HB.out | apply below_alloc | apply pw_below_drewN | apply below_drew1 | refine below_set ?_ GE362.out | refine below_set ?_ GE367.out) | exact HB.out)⟩⟩
                    · rw [if_neg c44] at H
                      have c44b0 : (a1.toList == a0_3.toList) = false := beq_eq_false_iff_ne.mpr c44
                      have c44b1 : (a1.toList != a0_3.toList) = true := bne_iff_ne.mpr c44
                      by_cases c47 : a1.toList = a0_4.toList
                      · rw [if_pos c47] at H
                        have c47b0 : (a1.toList == a0_4.toList) = true := beq_iff_eq.mpr c47
                        have c47b1 : (a1.toList != a0_4.toList) = false := bne_eq_false_iff_eq.mpr c47
                        clear c47
                        have H' := Aside0.mk H
                        clear H
                        have hnb48 := NB362_367.out
                        have hnc48 := NB367_362.out
                        have hcz49_0 : w32.cell? ⟨gb362, 0, none⟩ = some (.string a0_0) := (blk_cell BK362.out 0).trans rfl
                        have hcz49_1 : w32.cell? ⟨gb362, 1, none⟩ = some (.string a0_1) := (blk_cell BK362.out 1).trans rfl
                        have hcz49_2 : w32.cell? ⟨gb362, 2, none⟩ = some (.string a0_2) := (blk_cell BK362.out 2).trans rfl
                        have hcz49_3 : w32.cell? ⟨gb362, 3, none⟩ = some (.string a0_3) := (blk_cell BK362.out 3).trans rfl
                        have hcz49_4 : w32.cell? ⟨gb362, 4, none⟩ = some (.string a0_4) := (blk_cell BK362.out 4).trans rfl
                        have hcz49_5 : w32.cell? ⟨gb362, 5, none⟩ = some (.string a0_5) := (blk_cell BK362.out 5).trans rfl
                        have hcz49_6 : w32.cell? ⟨gb362, 6, none⟩ = some (.slice A0_6 l0_6.length c0_6) := (blk_cell BK362.out 6).trans rfl
                        have hfz49_0 := blk_frozen BK362.out 0
                        have hfz49_1 := blk_frozen BK362.out 1
                        have hfz49_2 := blk_frozen BK362.out 2
                        have hfz49_3 := blk_frozen BK362.out 3
                        have hfz49_4 := blk_frozen BK362.out 4
                        have hfz49_5 := blk_frozen BK362.out 5
                        have hfz49_6 := blk_frozen BK362.out 6
                        go_wp2
                        go_meet
                        case rel => exact ⟨_, (true), (by first | rfl | (simp; done) | (simp [*]; done)), H', ⟨by have := HJ4.out; first | omega | exact Nat.le_refl _⟩, ⟨by (with_reducible repeat (first | apply Kd.R_alloc | apply Kd.R_drewN | apply Kd.R_drew)); exact Kd.R_mono (Kd.R_far (p := ⟨gb367, 6, none⟩) (Kd.R_types HO376.out BK367.out (by decide)) (fun _ hk => hk.2) (.slice Ao33 y374.length co33)) (fun _ hk => trivial)⟩, ⟨by (with_reducible repeat (first | refine blk_drewN ?_ _ | refine blk_drew ?_ | refine blk_alloc ?_ _)); refine blk_far ?_ NB362_367.out _; (with_reducible repeat (first | refine blk_drewN ?_ _ | refine blk_drew ?_ | refine blk_alloc ?_ _)); exact BK362.out⟩, ⟨by (with_reducible repeat (first | refine blk_drewN ?_ _ | refine blk_drew ?_ | refine blk_alloc ?_ _)); refine blk_put (cs := #[.string a0_0, .string a0_1, .string a0_2, .string a0_3, .string a0_4, .string a0_5, .slice A0_6 l0_6.length c0_6]) ?_ 6 _ rfl; (with_reducible repeat (first | refine blk_drewN ?_ _ | refine blk_drew ?_ | refine blk_alloc ?_ _)); exact BK367.out⟩, ⟨by repeat (first | (with_reducible first | exact HB.out | apply below_alloc | apply pw_below_drewN | apply below_drew1 | refine below_set ?_ GE362.out | refine below_set ?_ GE367.out) | exact HB.out)⟩⟩
                      · rw [if_neg c47] at H
                        have c47b0 : (a1.toList == a0_4.toList) = false := beq_eq_false_iff_ne.mpr c47
                        have c47b1 : (a1.toList != a0_4.toList) = true := bne_iff_ne.mpr c47
                        have H' := Aside0.mk H
                        clear H
                        have hnb50 := NB362_367.out
                        have hnc50 := NB367_362.out
                        have hcz51_0 : w32.cell? ⟨gb362, 0, none⟩ = some (.string a0_0) := (blk_cell BK362.out 0).trans rfl
                        have hcz51_1 : w32.cell? ⟨gb362, 1, none⟩ = some (.string a0_1) := (blk_cell BK362.out 1).trans rfl
                        have hcz51_2 : w32.cell? ⟨gb362, 2, none⟩ = some (.string a0_2) := (blk_cell BK362.out 2).trans rfl
                        have hcz51_3 : w32.cell? ⟨gb362, 3, none⟩ = some (.string a0_3) := (blk_cell BK362.out 3).trans rfl
                        have hcz51_4 : w32.cell? ⟨gb362, 4, none⟩ = some (.string a0_4) := (blk_cell BK362.out 4).trans rfl
                        have hcz51_5 : w32.cell? ⟨gb362, 5, none⟩ = some (.string a0_5) := (blk_cell BK362.out 5).trans rfl
                        have hcz51_6 : w32.cell? ⟨gb362, 6, none⟩ = some (.slice A0_6 l0_6.length c0_6) := (blk_cell BK362.out 6).trans rfl
                        have hfz51_0 := blk_frozen BK362.out 0
                        have hfz51_1 := blk_frozen BK362.out 1
                        have hfz51_2 := blk_frozen BK362.out 2
                        have hfz51_3 := blk_frozen BK362.out 3
                        have hfz51_4 := blk_frozen BK362.out 4
                        have hfz51_5 := blk_frozen BK362.out 5
                        have hfz51_6 := blk_frozen BK362.out 6
                        go_wp2
                        go_meet
                        case rel => exact ⟨_, ((a1.toList == a0_5.toList)), (by first | rfl | (simp; done) | (simp [*]; done)), H', ⟨by have := HJ4.out; first | omega | exact Nat.le_refl _⟩, ⟨by (with_reducible repeat (first | apply Kd.R_alloc | apply Kd.R_drewN | apply Kd.R_drew)); exact Kd.R_mono (Kd.R_far (p := ⟨gb367, 6, none⟩) (Kd.R_types HO376.out BK367.out (by decide)) (fun _ hk => hk.2) (.slice Ao33 y374.length co33)) (fun _ hk => trivial)⟩, ⟨by (with_reducible repeat (first | refine blk_drewN ?_ _ | refine blk_drew ?_ | refine blk_alloc ?_ _)); refine blk_far ?_ NB362_367.out _; (with_reducible repeat (first | refine blk_drewN ?_ _ | refine blk_drew ?_ | refine blk_alloc ?_ _)); exact BK362.out⟩, ⟨by (with_reducible repeat (first | refine blk_drewN ?_ _ | refine blk_drew ?_ | refine blk_alloc ?_ _)); refine blk_put (cs := #[.string a0_0, .string a0_1, .string a0_2, .string a0_3, .string a0_4, .string a0_5, .slice A0_6 l0_6.length c0_6]) ?_ 6 _ rfl; (with_reducible repeat (first | refine blk_drewN ?_ _ | refine blk_drew ?_ | refine blk_alloc ?_ _)); exact BK367.out⟩, ⟨by repeat (first | (with_reducible first | exact HB.out | apply below_alloc | apply pw_below_drewN | apply below_drew1 | refine below_set ?_ GE362.out | refine below_set ?_ GE367.out) | exact HB.out)⟩⟩
            case rest =>
              clear HC23
              try clear c1
              try clear c2
              try clear p2
              try clear c3
              try clear c4
              try clear c5
              try clear c10
              try clear c11
              try clear c11b0
              try clear c11b1
              try clear c13
              try clear c20
              try clear c21
              try clear c22
              try clear c23
              try clear c26
              try clear c35
              try clear c35b0
              try clear c35b1
              try clear c36
              try clear c38
              try clear c38b0
              try clear c38b1
              try clear c39
              try clear c41
              try clear c41b0
              try clear c41b1
              try clear c42
              try clear c44
              try clear c44b0
              try clear c44b1
              try clear c45
              try clear c47
              try clear c47b0
              try clear c47b1
              try clear c48
              try clear c50
              try clear hcz15_0
              try clear hcz15_1
              try clear hcz15_2
              try clear hcz15_3
              try clear hcz15_4
              try clear hcz15_5
              try clear hcz15_6
              try clear hcz18_0
              try clear hcz18_1
              try clear hcz18_2
              try clear hcz18_3
              try clear hcz18_4
              try clear hcz18_5
              try clear hcz18_6
              try clear hcz24_0
              try clear hcz24_1
              try clear hcz24_2
              try clear hcz24_3
              try clear hcz24_4
              try clear hcz24_5
              try clear hcz24_6
              try clear hcz27_0
              try clear hcz27_1
              try clear hcz27_2
              try clear hcz27_3
              try clear hcz27_4
              try clear hcz27_5
              try clear hcz27_6
              try clear hcz30_0
              try clear hcz30_1
              try clear hcz30_2
              try clear hcz30_3
              try clear hcz30_4
              try clear hcz30_5
              try clear hcz30_6
              try clear hcz34_0
              try clear hcz34_1
              try clear hcz34_2
              try clear hcz34_3
              try clear hcz34_4
              try clear hcz34_5
              try clear hcz34_6
              try clear hcz37_0
              try clear hcz37_1
              try clear hcz37_2
              try clear hcz37_3
              try clear hcz37_4
              try clear hcz37_5
              try clear hcz37_6
              try clear hcz40_0
              try clear hcz40_1
              try clear hcz40_2
              try clear hcz40_3
              try clear hcz40_4
              try clear hcz40_5
              try clear hcz40_6
              try clear hcz43_0
              try clear hcz43_1
              try clear hcz43_2
              try clear hcz43_3
              try clear hcz43_4
              try clear hcz43_5
              try clear hcz43_6
              try clear hcz46_0
              try clear hcz46_1
              try clear hcz46_2
              try clear hcz46_3
              try clear hcz46_4
              try clear hcz46_5
              try clear hcz46_6
              try clear hcz49_0
              try clear hcz49_1
              try clear hcz49_2
              try clear hcz49_3
              try clear hcz49_4
              try clear hcz49_5
              try clear hcz49_6
              try clear hcz51_0
              try clear hcz51_1
              try clear hcz51_2
              try clear hcz51_3
              try clear hcz51_4
              try clear hcz51_5
              try clear hcz51_6
              try clear hcz8_0
              try clear hcz8_1
              try clear hcz8_2
              try clear hcz8_3
              try clear hcz8_4
              try clear hcz8_5
              try clear hcz8_6
              try clear hfz15_0
              try clear hfz15_1
              try clear hfz15_2
              try clear hfz15_3
              try clear hfz15_4
              try clear hfz15_5
              try clear hfz15_6
              try clear hfz18_0
              try clear hfz18_1
              try clear hfz18_2
              try clear hfz18_3
              try clear hfz18_4
              try clear hfz18_5
              try clear hfz18_6
              try clear hfz24_0
              try clear hfz24_1
              try clear hfz24_2
              try clear hfz24_3
              try clear hfz24_4
              try clear hfz24_5
              try clear hfz24_6
              try clear hfz27_0
              try clear hfz27_1
              try clear hfz27_2
              try clear hfz27_3
              try clear hfz27_4
              try clear hfz27_5
              try clear hfz27_6
              try clear hfz30_0
              try clear hfz30_1
              try clear hfz30_2
              try clear hfz30_3
              try clear hfz30_4
              try clear hfz30_5
              try clear hfz30_6
              try clear hfz34_0
              try clear hfz34_1
              try clear hfz34_2
              try clear hfz34_3
              try clear hfz34_4
              try clear hfz34_5
              try clear hfz34_6
              try clear hfz37_0
              try clear hfz37_1
              try clear hfz37_2
              try clear hfz37_3
              try clear hfz37_4
              try clear hfz37_5
              try clear hfz37_6
              try clear hfz40_0
              try clear hfz40_1
              try clear hfz40_2
              try clear hfz40_3
              try clear hfz40_4
              try clear hfz40_5
              try clear hfz40_6
              try clear hfz43_0
              try clear hfz43_1
              try clear hfz43_2
              try clear hfz43_3
              try clear hfz43_4
              try clear hfz43_5
              try clear hfz43_6
              try clear hfz46_0
              try clear hfz46_1
              try clear hfz46_2
              try clear hfz46_3
              try clear hfz46_4
              try clear hfz46_5
              try clear hfz46_6
              try clear hfz49_0
              try clear hfz49_1
              try clear hfz49_2
              try clear hfz49_3
              try clear hfz49_4
              try clear hfz49_5
              try clear hfz49_6
              try clear hfz51_0
              try clear hfz51_1
              try clear hfz51_2
              try clear hfz51_3
              try clear hfz51_4
              try clear hfz51_5
              try clear hfz51_6
              try clear hfz8_0
              try clear hfz8_1
              try clear hfz8_2
              try clear hfz8_3
              try clear hfz8_4
              try clear hfz8_5
              try clear hfz8_6
              try clear p2
              obtain ⟨kq, x8_22, rfl, HA, HJ22, HO_368006, BK362, BK367, HB⟩ := hcut
              cases kq with
              | zero => exact absurd HA.out (by simp [decklelaw15_HeaderLocals.j1])
              | succ kj22 =>
                have H := HA.out
                clear HA
                simp only [decklelaw15_HeaderLocals.j1] at H
                have H' := Aside0.mk H
                clear H
                go_wp2
                go_loopg [8, 9] kj22 (fun kq v8 v9 w' => ∃ (x8_3 : Bool) (x9_3 : Int), v8 = .bool x8_3 ∧ v9 = .int .i64 x9_3 ∧ Aside0 (decklelaw15_HeaderLocals.l0 kq a1 t363 x8_3 x9_3 a0_0 a0_1 a0_2 a0_3 a0_4 a0_5 l0_6 a0_0 a0_1 a0_2 a0_3 a0_4 a0_5 y374 = some r) ∧ Aside0 (kq ≤ kj22) ∧ Aside0 (Kd.R Kd.string 9 w' w.heap.size (fun _ => True) (.slice Ao33 y374.length co33) y374) ∧ Aside0 (w'.heap[gb362]? = some (.cells #[.string a0_0, .string a0_1, .string a0_2, .string a0_3, .string a0_4, .string a0_5, (.slice A0_6 l0_6.length c0_6)] 35 (0, 0))) ∧ Aside0 (w'.heap[gb367]? = some (.cells #[.string a0_0, .string a0_1, .string a0_2, .string a0_3, .string a0_4, .string a0_5, (.slice Ao33 y374.length co33)] 35 (0, 0))) ∧ Aside0 (Below w.heap.size w w'))
                case atStart => exact ⟨(x8_22), (0), (by first | rfl | (simp; done) | (simp [*]; done)), (by first | rfl | (simp; done) | (simp [*]; done)), H', ⟨Nat.le_refl _⟩, ⟨by (with_reducible repeat (first | apply Kd.R_alloc | apply Kd.R_drewN | apply Kd.R_drew)); exact HO_368006.out⟩, ⟨by (with_reducible repeat (first | refine blk_drewN ?_ _ | refine blk_drew ?_ | refine blk_alloc ?_ _)); exact BK362.out⟩, ⟨by (with_reducible repeat (first | refine blk_drewN ?_ _ | refine blk_drew ?_ | refine blk_alloc ?_ _)); exact BK367.out⟩, ⟨by repeat (first | (with_reducible first | exact HB.out | apply below_alloc | apply pw_below_drewN | apply below_drew1 | refine below_set ?_ GE362.out | refine below_set ?_ GE367.out) | exact HB.out)⟩⟩
                case round =>
                  clear H'
                  try clear c1
                  try clear c2
                  try clear p2
                  try clear c3
                  try clear c4
                  try clear c5
                  try clear c10
                  try clear c11
                  try clear c11b0
                  try clear c11b1
                  try clear c13
                  try clear c20
                  try clear c21
                  try clear c22
                  try clear c23
                  try clear c26
                  try clear c35
                  try clear c35b0
                  try clear c35b1
                  try clear c36
                  try clear c38
                  try clear c38b0
                  try clear c38b1
                  try clear c39
                  try clear c41
                  try clear c41b0
                  try clear c41b1
                  try clear c42
                  try clear c44
                  try clear c44b0
                  try clear c44b1
                  try clear c45
                  try clear c47
                  try clear c47b0
                  try clear c47b1
                  try clear c48
                  try clear c50
                  try clear hcz15_0
                  try clear hcz15_1
                  try clear hcz15_2
                  try clear hcz15_3
                  try clear hcz15_4
                  try clear hcz15_5
                  try clear hcz15_6
                  try clear hcz18_0
                  try clear hcz18_1
                  try clear hcz18_2
                  try clear hcz18_3
                  try clear hcz18_4
                  try clear hcz18_5
                  try clear hcz18_6
                  try clear hcz24_0
                  try clear hcz24_1
                  try clear hcz24_2
                  try clear hcz24_3
                  try clear hcz24_4
                  try clear hcz24_5
                  try clear hcz24_6
                  try clear hcz27_0
                  try clear hcz27_1
                  try clear hcz27_2
                  try clear hcz27_3
                  try clear hcz27_4
                  try clear hcz27_5
                  try clear hcz27_6
                  try clear hcz30_0
                  try clear hcz30_1
                  try clear hcz30_2
                  try clear hcz30_3
                  try clear hcz30_4
                  try clear hcz30_5
                  try clear hcz30_6
                  try clear hcz34_0
                  try clear hcz34_1
                  try clear hcz34_2
                  try clear hcz34_3
                  try clear hcz34_4
                  try clear hcz34_5
                  try clear hcz34_6
                  try clear hcz37_0
                  try clear hcz37_1
                  try clear hcz37_2
                  try clear hcz37_3
                  try clear hcz37_4
                  try clear hcz37_5
                  try clear hcz37_6
                  try clear hcz40_0
                  try clear hcz40_1
                  try clear hcz40_2
                  try clear hcz40_3
                  try clear hcz40_4
                  try clear hcz40_5
                  try clear hcz40_6
                  try clear hcz43_0
                  try clear hcz43_1
                  try clear hcz43_2
                  try clear hcz43_3
                  try clear hcz43_4
                  try clear hcz43_5
                  try clear hcz43_6
                  try clear hcz46_0
                  try clear hcz46_1
                  try clear hcz46_2
                  try clear hcz46_3
                  try clear hcz46_4
                  try clear hcz46_5
                  try clear hcz46_6
                  try clear hcz49_0
                  try clear hcz49_1
                  try clear hcz49_2
                  try clear hcz49_3
                  try clear hcz49_4
                  try clear hcz49_5
                  try clear hcz49_6
                  try clear hcz51_0
                  try clear hcz51_1
                  try clear hcz51_2
                  try clear hcz51_3
                  try clear hcz51_4
                  try clear hcz51_5
                  try clear hcz51_6
                  try clear hcz8_0
                  try clear hcz8_1
                  try clear hcz8_2
                  try clear hcz8_3
                  try clear hcz8_4
                  try clear hcz8_5
                  try clear hcz8_6
                  try clear hfz15_0
                  try clear hfz15_1
                  try clear hfz15_2
                  try clear hfz15_3
                  try clear hfz15_4
                  try clear hfz15_5
                  try clear hfz15_6
                  try clear hfz18_0
                  try clear hfz18_1
                  try clear hfz18_2
                  try clear hfz18_3
                  try clear hfz18_4
                  try clear hfz18_5
                  try clear hfz18_6
                  try clear hfz24_0
                  try clear hfz24_1
                  try clear hfz24_2
                  try clear hfz24_3
                  try clear hfz24_4
                  try clear hfz24_5
                  try clear hfz24_6
                  try clear hfz27_0
                  try clear hfz27_1
                  try clear hfz27_2
                  try clear hfz27_3
                  try clear hfz27_4
                  try clear hfz27_5
                  try clear hfz27_6
                  try clear hfz30_0
                  try clear hfz30_1
                  try clear hfz30_2
                  try clear hfz30_3
                  try clear hfz30_4
                  try clear hfz30_5
                  try clear hfz30_6
                  try clear hfz34_0
                  try clear hfz34_1
                  try clear hfz34_2
                  try clear hfz34_3
                  try clear hfz34_4
                  try clear hfz34_5
                  try clear hfz34_6
                  try clear hfz37_0
                  try clear hfz37_1
                  try clear hfz37_2
                  try clear hfz37_3
                  try clear hfz37_4
                  try clear hfz37_5
                  try clear hfz37_6
                  try clear hfz40_0
                  try clear hfz40_1
                  try clear hfz40_2
                  try clear hfz40_3
                  try clear hfz40_4
                  try clear hfz40_5
                  try clear hfz40_6
                  try clear hfz43_0
                  try clear hfz43_1
                  try clear hfz43_2
                  try clear hfz43_3
                  try clear hfz43_4
                  try clear hfz43_5
                  try clear hfz43_6
                  try clear hfz46_0
                  try clear hfz46_1
                  try clear hfz46_2
                  try clear hfz46_3
                  try clear hfz46_4
                  try clear hfz46_5
                  try clear hfz46_6
                  try clear hfz49_0
                  try clear hfz49_1
                  try clear hfz49_2
                  try clear hfz49_3
                  try clear hfz49_4
                  try clear hfz49_5
                  try clear hfz49_6
                  try clear hfz51_0
                  try clear hfz51_1
                  try clear hfz51_2
                  try clear hfz51_3
                  try clear hfz51_4
                  try clear hfz51_5
                  try clear hfz51_6
                  try clear hfz8_0
                  try clear hfz8_1
                  try clear hfz8_2
                  try clear hfz8_3
                  try clear hfz8_4
                  try clear hfz8_5
                  try clear hfz8_6
                  try clear p2
                  obtain ⟨x8_3, x9_3, rfl, rfl, HA, HK3, HO_368006, BK362, BK367, HB⟩ := hrel
                  cases gk with
                  | zero => exact absurd HA.out (by simp [decklelaw15_HeaderLocals.l0])
                  | succ k3 =>
                    have H := HA.out
                    clear HA
                    simp only [decklelaw15_HeaderLocals.l0] at H
                    by_cases c52 : x9_3 < (l0_6.length : Int)
                    · rw [if_pos c52] at H
                      have c52b0 : decide (x9_3 < (l0_6.length : Int)) = true := decide_eq_true c52
                      clear c52
                      by_cases c53 : x8_3 = true
                      · subst c53
                        have H1 : (decklelaw15_HeaderLocals.l0 k3 a1 t363 true (wrap64 (x9_3 + 1)) a0_0 a0_1 a0_2 a0_3 a0_4 a0_5 l0_6 a0_0 a0_1 a0_2 a0_3 a0_4 a0_5 y374) = some r := by rw [if_pos rfl] at H; exact H
                        clear H
                        have H := H1
                        clear H1
                        have H' := Aside0.mk H
                        clear H
                        have hnb54 := NB362_367.out
                        have hnc54 := NB367_362.out
                        have hcz55_0 : wr.cell? ⟨gb362, 0, none⟩ = some (.string a0_0) := (blk_cell BK362.out 0).trans rfl
                        have hcz55_1 : wr.cell? ⟨gb362, 1, none⟩ = some (.string a0_1) := (blk_cell BK362.out 1).trans rfl
                        have hcz55_2 : wr.cell? ⟨gb362, 2, none⟩ = some (.string a0_2) := (blk_cell BK362.out 2).trans rfl
                        have hcz55_3 : wr.cell? ⟨gb362, 3, none⟩ = some (.string a0_3) := (blk_cell BK362.out 3).trans rfl
                        have hcz55_4 : wr.cell? ⟨gb362, 4, none⟩ = some (.string a0_4) := (blk_cell BK362.out 4).trans rfl
                        have hcz55_5 : wr.cell? ⟨gb362, 5, none⟩ = some (.string a0_5) := (blk_cell BK362.out 5).trans rfl
                        have hcz55_6 : wr.cell? ⟨gb362, 6, none⟩ = some (.slice A0_6 l0_6.length c0_6) := (blk_cell BK362.out 6).trans rfl
                        have hfz55_0 := blk_frozen BK362.out 0
                        have hfz55_1 := blk_frozen BK362.out 1
                        have hfz55_2 := blk_frozen BK362.out 2
                        have hfz55_3 := blk_frozen BK362.out 3
                        have hfz55_4 := blk_frozen BK362.out 4
                        have hfz55_5 := blk_frozen BK362.out 5
                        have hfz55_6 := blk_frozen BK362.out 6
                        go_wp2
                        go_roundg k3
                        case measure => have := HJ4.out; have := HJ22.out; have := HK3.out; omega
                        case rel => exact ⟨(true), (wrap64 (x9_3 + 1)), (by first | rfl | (simp; done) | (simp [*]; done)), (by first | rfl | (simp; done) | (simp [*]; done)), H', ⟨by have := HJ4.out; have := HJ22.out; have := HK3.out; omega⟩, ⟨by (with_reducible repeat (first | apply Kd.R_alloc | apply Kd.R_drewN | apply Kd.R_drew)); exact HO_368006.out⟩, ⟨by (with_reducible repeat (first | refine blk_drewN ?_ _ | refine blk_drew ?_ | refine blk_alloc ?_ _)); exact BK362.out⟩, ⟨by (with_reducible repeat (first | refine blk_drewN ?_ _ | refine blk_drew ?_ | refine blk_alloc ?_ _)); exact BK367.out⟩, ⟨by repeat (first | (with_reducible first | exact HB.out | apply below_alloc | apply pw_below_drewN | apply below_drew1 | refine below_set ?_ GE362.out | refine below_set ?_ GE367.out) | exact HB.out)⟩⟩
                      · replace c53 := Bool.eq_false_iff.mpr c53
                        subst c53
                        have H1 : (if 0 ≤ x9_3 then (decklelaw15_HeaderLocals.l0 k3 a1 t363 (a1.toList == (rdOf ByteArray.empty l0_6 x9_3).toList) (wrap64 (x9_3 + 1)) a0_0 a0_1 a0_2 a0_3 a0_4 a0_5 l0_6 a0_0 a0_1 a0_2 a0_3 a0_4 a0_5 y374) else (none)) = some r := by rw [if_neg (show ¬ (false = true) by decide)] at H; exact H
                        clear H
                        have H := H1
                        clear H1
                        by_cases c56 : 0 ≤ x9_3
                        · rw [if_pos c56] at H
                          have c56b0 : decide (0 ≤ x9_3) = true := decide_eq_true c56
                          clear c56
                          have H' := Aside0.mk H
                          clear H
                          have hnb57 := NB362_367.out
                          have hnc57 := NB367_362.out
                          have hcz58_0 : wr.cell? ⟨gb362, 0, none⟩ = some (.string a0_0) := (blk_cell BK362.out 0).trans rfl
                          have hcz58_1 : wr.cell? ⟨gb362, 1, none⟩ = some (.string a0_1) := (blk_cell BK362.out 1).trans rfl
                          have hcz58_2 : wr.cell? ⟨gb362, 2, none⟩ = some (.string a0_2) := (blk_cell BK362.out 2).trans rfl
                          have hcz58_3 : wr.cell? ⟨gb362, 3, none⟩ = some (.string a0_3) := (blk_cell BK362.out 3).trans rfl
                          have hcz58_4 : wr.cell? ⟨gb362, 4, none⟩ = some (.string a0_4) := (blk_cell BK362.out 4).trans rfl
                          have hcz58_5 : wr.cell? ⟨gb362, 5, none⟩ = some (.string a0_5) := (blk_cell BK362.out 5).trans rfl
                          have hcz58_6 : wr.cell? ⟨gb362, 6, none⟩ = some (.slice A0_6 l0_6.length c0_6) := (blk_cell BK362.out 6).trans rfl
                          have hfz58_0 := blk_frozen BK362.out 0
                          have hfz58_1 := blk_frozen BK362.out 1
                          have hfz58_2 := blk_frozen BK362.out 2
                          have hfz58_3 := blk_frozen BK362.out 3
                          have hfz58_4 := blk_frozen BK362.out 4
                          have hfz58_5 := blk_frozen BK362.out 5
                          have hfz58_6 := blk_frozen BK362.out 6
                          have p377 : 0 ≤ (x9_3 : Int) := of_decide_eq_true (by first | (with_reducible assumption) | assumption)
                          have q377 : x9_3 < (l0_6.length : Int) := of_decide_eq_true (by first | (with_reducible assumption) | assumption)
                          obtain ⟨ad377, e377, hx377_0⟩ := Kd.at_string HR0_6.out x9_3 p377 q377
                          have BKK_ := BK367; cases e377; have BK367 := BKK_
                          replace hx377_0 := (HB.out.cell (World.block_lt_of_cell? w _ hx377_0)).trans hx377_0
                          replace p377 := eq_true p377
                          replace q377 := eq_true q377
                          go_wp2
                          go_roundg k3
                          case measure => have := HJ4.out; have := HJ22.out; have := HK3.out; omega
                          case rel => exact ⟨((a1.toList == (rdOf ByteArray.empty l0_6 x9_3).toList)), (wrap64 (x9_3 + 1)), (by first | rfl | (simp; done) | (simp [*]; done)), (by first | rfl | (simp; done) | (simp [*]; done)), H', ⟨by have := HJ4.out; have := HJ22.out; have := HK3.out; omega⟩, ⟨by (with_reducible repeat (first | apply Kd.R_alloc | apply Kd.R_drewN | apply Kd.R_drew)); exact HO_368006.out⟩, ⟨by (with_reducible repeat (first | refine blk_drewN ?_ _ | refine blk_drew ?_ | refine blk_alloc ?_ _)); exact BK362.out⟩, ⟨by (with_reducible repeat (first | refine blk_drewN ?_ _ | refine blk_drew ?_ | refine blk_alloc ?_ _)); exact BK367.out⟩, ⟨by repeat (first | (with_reducible first | exact HB.out | apply below_alloc | apply pw_below_drewN | apply below_drew1 | refine below_set ?_ GE362.out | refine below_set ?_ GE367.out) | exact HB.out)⟩⟩
                        · rw [if_neg c56] at H
                          exact absurd H (by simp)
                    · rw [if_neg c52] at H
                      have c52b0 : decide (x9_3 < (l0_6.length : Int)) = false := decide_eq_false c52
                      clear c52
                      by_cases c59 : x8_3 = true
                      · subst c59
                        have H1 : (if t363 = true then ((header_Right.f k3 a0_0 a0_1 a0_2 a0_3 a0_4 a0_5 y374).bind fun t378 => (if t378 = true then (none) else ((header_Text.f a0_0 a0_1 a0_2 a0_3 a0_4 a0_5 y374).bind fun t379 => (some (t379.toList == ([] : List UInt8)))))) else (none)) = some r := by rw [if_pos rfl] at H; exact H
                        clear H
                        have H := H1
                        clear H1
                        by_cases c60 : t363 = true
                        · subst c60
                          have H1 : ((header_Right.f k3 a0_0 a0_1 a0_2 a0_3 a0_4 a0_5 y374).bind fun t378 => (if t378 = true then (none) else ((header_Text.f a0_0 a0_1 a0_2 a0_3 a0_4 a0_5 y374).bind fun t379 => (some (t379.toList == ([] : List UInt8)))))) = some r := by rw [if_pos rfl] at H; exact H
                          clear H
                          have H := H1
                          clear H1
                          replace H := Option.bind_eq_some_iff.mp H
                          obtain ⟨t378, A610, H⟩ := H
                          replace H : (if t378 = true then (none) else ((header_Text.f a0_0 a0_1 a0_2 a0_3 a0_4 a0_5 y374).bind fun t379 => (some (t379.toList == ([] : List UInt8))))) = some r := H
                          have A61 := Aside0.mk A610
                          clear A610
                          by_cases c62 : t378 = true
                          · subst c62
                            have H1 : (none) = some r := by rw [if_pos rfl] at H; exact H
                            clear H
                            have H := H1
                            clear H1
                            exact absurd H (by simp)
                          · replace c62 := Bool.eq_false_iff.mpr c62
                            subst c62
                            have H1 : ((header_Text.f a0_0 a0_1 a0_2 a0_3 a0_4 a0_5 y374).bind fun t379 => (some (t379.toList == ([] : List UInt8)))) = some r := by rw [if_neg (show ¬ (false = true) by decide)] at H; exact H
                            clear H
                            have H := H1
                            clear H1
                            replace H := Option.bind_eq_some_iff.mp H
                            obtain ⟨t379, A630, H⟩ := H
                            replace H : (some (t379.toList == ([] : List UInt8))) = some r := H
                            have A63 := Aside0.mk A630
                            clear A630
                            obtain rfl := Option.some.inj H
                            have hnb64 := NB362_367.out
                            have hnc64 := NB367_362.out
                            have hcz65_0 : wr.cell? ⟨gb362, 0, none⟩ = some (.string a0_0) := (blk_cell BK362.out 0).trans rfl
                            have hcz65_1 : wr.cell? ⟨gb362, 1, none⟩ = some (.string a0_1) := (blk_cell BK362.out 1).trans rfl
                            have hcz65_2 : wr.cell? ⟨gb362, 2, none⟩ = some (.string a0_2) := (blk_cell BK362.out 2).trans rfl
                            have hcz65_3 : wr.cell? ⟨gb362, 3, none⟩ = some (.string a0_3) := (blk_cell BK362.out 3).trans rfl
                            have hcz65_4 : wr.cell? ⟨gb362, 4, none⟩ = some (.string a0_4) := (blk_cell BK362.out 4).trans rfl
                            have hcz65_5 : wr.cell? ⟨gb362, 5, none⟩ = some (.string a0_5) := (blk_cell BK362.out 5).trans rfl
                            have hcz65_6 : wr.cell? ⟨gb362, 6, none⟩ = some (.slice A0_6 l0_6.length c0_6) := (blk_cell BK362.out 6).trans rfl
                            have hfz65_0 := blk_frozen BK362.out 0
                            have hfz65_1 := blk_frozen BK362.out 1
                            have hfz65_2 := blk_frozen BK362.out 2
                            have hfz65_3 := blk_frozen BK362.out 3
                            have hfz65_4 := blk_frozen BK362.out 4
                            have hfz65_5 := blk_frozen BK362.out 5
                            have hfz65_6 := blk_frozen BK362.out 6
                            have hcz66_0 : wr.cell? ⟨gb367, 0, none⟩ = some (.string a0_0) := (blk_cell BK367.out 0).trans rfl
                            have hcz66_1 : wr.cell? ⟨gb367, 1, none⟩ = some (.string a0_1) := (blk_cell BK367.out 1).trans rfl
                            have hcz66_2 : wr.cell? ⟨gb367, 2, none⟩ = some (.string a0_2) := (blk_cell BK367.out 2).trans rfl
                            have hcz66_3 : wr.cell? ⟨gb367, 3, none⟩ = some (.string a0_3) := (blk_cell BK367.out 3).trans rfl
                            have hcz66_4 : wr.cell? ⟨gb367, 4, none⟩ = some (.string a0_4) := (blk_cell BK367.out 4).trans rfl
                            have hcz66_5 : wr.cell? ⟨gb367, 5, none⟩ = some (.string a0_5) := (blk_cell BK367.out 5).trans rfl
                            have hcz66_6 : wr.cell? ⟨gb367, 6, none⟩ = some (.slice Ao33 y374.length co33) := (blk_cell BK367.out 6).trans rfl
                            have hfz66_0 := blk_frozen BK367.out 0
                            have hfz66_1 := blk_frozen BK367.out 1
                            have hfz66_2 := blk_frozen BK367.out 2
                            have hfz66_3 := blk_frozen BK367.out 3
                            have hfz66_4 := blk_frozen BK367.out 4
                            have hfz66_5 := blk_frozen BK367.out 5
                            have hfz66_6 := blk_frozen BK367.out 6
                            go_wp2_with (first | (go_at_call 26; (with_reducible refine (header_Right.calls k3 a0_0 a0_1 a0_2 a0_3 a0_4 a0_5 _ _ y374 false _ ?side1 ?side2 A61.out).mono ?_); (case side1 => repeat (first | exact (Kd.R_reads' HO_368006.out).2.2 | (with_reducible refine Kd.C_alloc ?_ _) | (with_reducible refine Kd.C_drewN ?_ _) | (with_reducible refine Kd.C_drew ?_))); (case side2 => exact (Kd.R_reads' HO_368006.out).2.1); rintro e w67 ⟨rfl, hb⟩; have n0_ := Aside0.mk (Kd.R_below (by (with_reducible repeat (first | apply Kd.R_alloc | apply Kd.R_drewN | apply Kd.R_drew)); exact HO_368006.out) hb); have n1_ := Aside0.mk (blk_below (g := gb362) (o := .cells #[.string a0_0, .string a0_1, .string a0_2, .string a0_3, .string a0_4, .string a0_5, .slice A0_6 l0_6.length c0_6] 35 (0, 0)) (by (with_reducible repeat (first | refine blk_drewN ?_ _ | refine blk_drew ?_ | refine blk_alloc ?_ _)); exact BK362.out) hb); have n2_ := Aside0.mk (blk_below (g := gb367) (o := .cells #[.string a0_0, .string a0_1, .string a0_2, .string a0_3, .string a0_4, .string a0_5, .slice Ao33 y374.length co33] 35 (0, 0)) (by (with_reducible repeat (first | refine blk_drewN ?_ _ | refine blk_drew ?_ | refine blk_alloc ?_ _)); exact BK367.out) hb); have n3_ := Aside0.mk (below_step (by repeat (first | (with_reducible first | exact HB.out | apply below_alloc | apply pw_below_drewN | apply below_drew1 | refine below_set ?_ GE362.out | refine below_set ?_ GE367.out) | exact HB.out)) hb); clear HO_368006; clear BK362; clear BK367; clear HB; have HO_368006 := n0_; have BK362 := n1_; have BK367 := n2_; have HB := n3_; clear n0_ n1_ n2_ n3_; (try clear hb); (try clear hb2); (try clear hk); (try clear hi); have hcz68_0 : w67.cell? ⟨gb367, 0, none⟩ = some (.string a0_0) := (blk_cell BK367.out 0).trans rfl; have hcz68_1 : w67.cell? ⟨gb367, 1, none⟩ = some (.string a0_1) := (blk_cell BK367.out 1).trans rfl; have hcz68_2 : w67.cell? ⟨gb367, 2, none⟩ = some (.string a0_2) := (blk_cell BK367.out 2).trans rfl; have hcz68_3 : w67.cell? ⟨gb367, 3, none⟩ = some (.string a0_3) := (blk_cell BK367.out 3).trans rfl; have hcz68_4 : w67.cell? ⟨gb367, 4, none⟩ = some (.string a0_4) := (blk_cell BK367.out 4).trans rfl; have hcz68_5 : w67.cell? ⟨gb367, 5, none⟩ = some (.string a0_5) := (blk_cell BK367.out 5).trans rfl; have hcz68_6 : w67.cell? ⟨gb367, 6, none⟩ = some (.slice Ao33 y374.length co33) := (blk_cell BK367.out 6).trans rfl; have hfz68_0 := blk_frozen BK367.out 0; have hfz68_1 := blk_frozen BK367.out 1; have hfz68_2 := blk_frozen BK367.out 2; have hfz68_3 := blk_frozen BK367.out 3; have hfz68_4 := blk_frozen BK367.out 4; have hfz68_5 := blk_frozen BK367.out 5; have hfz68_6 := blk_frozen BK367.out 6) | (go_at_call 28; (with_reducible refine (header_Text.calls a0_0 a0_1 a0_2 a0_3 a0_4 a0_5 _ _ y374 t379 _ ?side1 ?side2 A63.out).mono ?_); (case side1 => repeat (first | exact (Kd.R_reads' HO_368006.out).2.2 | (with_reducible refine Kd.C_alloc ?_ _) | (with_reducible refine Kd.C_drewN ?_ _) | (with_reducible refine Kd.C_drew ?_))); (case side2 => exact (Kd.R_reads' HO_368006.out).2.1); rintro e w69 ⟨rfl, hb⟩; have n0_ := Aside0.mk (Kd.R_below (by (with_reducible repeat (first | apply Kd.R_alloc | apply Kd.R_drewN | apply Kd.R_drew)); exact HO_368006.out) hb); have n1_ := Aside0.mk (blk_below (g := gb362) (o := .cells #[.string a0_0, .string a0_1, .string a0_2, .string a0_3, .string a0_4, .string a0_5, .slice A0_6 l0_6.length c0_6] 35 (0, 0)) (by (with_reducible repeat (first | refine blk_drewN ?_ _ | refine blk_drew ?_ | refine blk_alloc ?_ _)); exact BK362.out) hb); have n2_ := Aside0.mk (blk_below (g := gb367) (o := .cells #[.string a0_0, .string a0_1, .string a0_2, .string a0_3, .string a0_4, .string a0_5, .slice Ao33 y374.length co33] 35 (0, 0)) (by (with_reducible repeat (first | refine blk_drewN ?_ _ | refine blk_drew ?_ | refine blk_alloc ?_ _)); exact BK367.out) hb); have n3_ := Aside0.mk (below_step (by repeat (first | (with_reducible first | exact HB.out | apply below_alloc | apply pw_below_drewN | apply below_drew1 | refine below_set ?_ GE362.out | refine below_set ?_ GE367.out) | exact HB.out)) hb); clear HO_368006; clear BK362; clear BK367; clear HB; have HO_368006 := n0_; have BK362 := n1_; have BK367 := n2_; have HB := n3_; clear n0_ n1_ n2_ n3_; (try clear hb); (try clear hb2); (try clear hk); (try clear hi)))
                            go_ret
                            exact ⟨by first | rfl | (simp [errW_none, errW_some] <;> rfl) | (simp [*, errW_none, errW_some] <;> rfl), by repeat (first | (with_reducible first | exact HB.out | apply below_alloc | apply pw_below_drewN | apply below_drew1 | refine below_set ?_ GE362.out | refine below_set ?_ GE367.out) | exact HB.out)⟩
                        · replace c60 := Bool.eq_false_iff.mpr c60
                          subst c60
                          have H1 : (none) = some r := by rw [if_neg (show ¬ (false = true) by decide)] at H; exact H
                          clear H
                          have H := H1
                          clear H1
                          exact absurd H (by simp)
                      · replace c59 := Bool.eq_false_iff.mpr c59
                        subst c59
                        have H1 : (if t363 = true then ((header_Right.f k3 a0_0 a0_1 a0_2 a0_3 a0_4 a0_5 y374).bind fun t380 => (if t380 = true then ((header_Text.f a0_0 a0_1 a0_2 a0_3 a0_4 a0_5 y374).bind fun t381 => ((header_Text.f a0_0 a0_1 a0_2 a0_3 a0_4 a0_5 l0_6).bind fun t382 => (if t382.size + 1 ≤ 9223372036854775807 then (if (t382 ++ (⟨#[59]⟩ : ByteArray)).size + a1.size ≤ 9223372036854775807 then (some (t381.toList == ((t382 ++ (⟨#[59]⟩ : ByteArray)) ++ a1).toList)) else (none)) else (none)))) else (none))) else (none)) = some r := by rw [if_neg (show ¬ (false = true) by decide)] at H; exact H
                        clear H
                        have H := H1
                        clear H1
                        by_cases c70 : t363 = true
                        · subst c70
                          have H1 : ((header_Right.f k3 a0_0 a0_1 a0_2 a0_3 a0_4 a0_5 y374).bind fun t380 => (if t380 = true then ((header_Text.f a0_0 a0_1 a0_2 a0_3 a0_4 a0_5 y374).bind fun t381 => ((header_Text.f a0_0 a0_1 a0_2 a0_3 a0_4 a0_5 l0_6).bind fun t382 => (if t382.size + 1 ≤ 9223372036854775807 then (if (t382 ++ (⟨#[59]⟩ : ByteArray)).size + a1.size ≤ 9223372036854775807 then (some (t381.toList == ((t382 ++ (⟨#[59]⟩ : ByteArray)) ++ a1).toList)) else (none)) else (none)))) else (none))) = some r := by rw [if_pos rfl] at H; exact H
                          clear H
                          have H := H1
                          clear H1
                          replace H := Option.bind_eq_some_iff.mp H
                          obtain ⟨t380, A710, H⟩ := H
                          replace H : (if t380 = true then ((header_Text.f a0_0 a0_1 a0_2 a0_3 a0_4 a0_5 y374).bind fun t381 => ((header_Text.f a0_0 a0_1 a0_2 a0_3 a0_4 a0_5 l0_6).bind fun t382 => (if t382.size + 1 ≤ 9223372036854775807 then (if (t382 ++ (⟨#[59]⟩ : ByteArray)).size + a1.size ≤ 9223372036854775807 then (some (t381.toList == ((t382 ++ (⟨#[59]⟩ : ByteArray)) ++ a1).toList)) else (none)) else (none)))) else (none)) = some r := H
                          have A71 := Aside0.mk A710
                          clear A710
                          by_cases c72 : t380 = true
                          · subst c72
                            have H1 : ((header_Text.f a0_0 a0_1 a0_2 a0_3 a0_4 a0_5 y374).bind fun t381 => ((header_Text.f a0_0 a0_1 a0_2 a0_3 a0_4 a0_5 l0_6).bind fun t382 => (if t382.size + 1 ≤ 9223372036854775807 then (if (t382 ++ (⟨#[59]⟩ : ByteArray)).size + a1.size ≤ 9223372036854775807 then (some (t381.toList == ((t382 ++ (⟨#[59]⟩ : ByteArray)) ++ a1).toList)) else (none)) else (none)))) = some r := by rw [if_pos rfl] at H; exact H
                            clear H
                            have H := H1
                            clear H1
                            replace H := Option.bind_eq_some_iff.mp H
                            obtain ⟨t381, A730, H⟩ := H
                            replace H : ((header_Text.f a0_0 a0_1 a0_2 a0_3 a0_4 a0_5 l0_6).bind fun t382 => (if t382.size + 1 ≤ 9223372036854775807 then (if (t382 ++ (⟨#[59]⟩ : ByteArray)).size + a1.size ≤ 9223372036854775807 then (some (t381.toList == ((t382 ++ (⟨#[59]⟩ : ByteArray)) ++ a1).toList)) else (none)) else (none))) = some r := H
                            have A73 := Aside0.mk A730
                            clear A730
                            replace H := Option.bind_eq_some_iff.mp H
                            obtain ⟨t382, A740, H⟩ := H
                            replace H : (if t382.size + 1 ≤ 9223372036854775807 then (if (t382 ++ (⟨#[59]⟩ : ByteArray)).size + a1.size ≤ 9223372036854775807 then (some (t381.toList == ((t382 ++ (⟨#[59]⟩ : ByteArray)) ++ a1).toList)) else (none)) else (none)) = some r := H
                            have A74 := Aside0.mk A740
                            clear A740
                            by_cases c75 : t382.size + 1 ≤ 9223372036854775807
                            · rw [if_pos c75] at H
                              have c75b0 := eq_true c75
                              (try (have c75b9 := c75; simp only [ByteArray.size_append, show (⟨#[40]⟩ : ByteArray).size = 1 from rfl, show (⟨#[41]⟩ : ByteArray).size = 1 from rfl, show (⟨#[32]⟩ : ByteArray).size = 1 from rfl, show (⟨#[59]⟩ : ByteArray).size = 1 from rfl, show (⟨#[226, 134, 144]⟩ : ByteArray).size = 3 from rfl] at c75b9; have c75b6 := eq_false (Nat.not_lt.2 c75b9); replace c75b9 := eq_true c75b9))
                              have c75b1 : decide (t382.size + 1 ≤ 9223372036854775807) = true := decide_eq_true c75
                              try have c75b2 : (9223372036854775807 < t382.size + 1) = False := eq_false (Nat.not_lt.2 c75)
                              by_cases c76 : (t382 ++ (⟨#[59]⟩ : ByteArray)).size + a1.size ≤ 9223372036854775807
                              · rw [if_pos c76] at H
                                have c76b0 := eq_true c76
                                (try (have c76b9 := c76; simp only [ByteArray.size_append, show (⟨#[40]⟩ : ByteArray).size = 1 from rfl, show (⟨#[41]⟩ : ByteArray).size = 1 from rfl, show (⟨#[32]⟩ : ByteArray).size = 1 from rfl, show (⟨#[59]⟩ : ByteArray).size = 1 from rfl, show (⟨#[226, 134, 144]⟩ : ByteArray).size = 3 from rfl] at c76b9; have c76b6 := eq_false (Nat.not_lt.2 c76b9); replace c76b9 := eq_true c76b9))
                                have c76b1 : decide ((t382 ++ (⟨#[59]⟩ : ByteArray)).size + a1.size ≤ 9223372036854775807) = true := decide_eq_true c76
                                try have c76b2 : (9223372036854775807 < (t382 ++ (⟨#[59]⟩ : ByteArray)).size + a1.size) = False := eq_false (Nat.not_lt.2 c76)
                                obtain rfl := Option.some.inj H
                                have hnb77 := NB362_367.out
                                have hnc77 := NB367_362.out
                                have hcz78_0 : wr.cell? ⟨gb362, 0, none⟩ = some (.string a0_0) := (blk_cell BK362.out 0).trans rfl
                                have hcz78_1 : wr.cell? ⟨gb362, 1, none⟩ = some (.string a0_1) := (blk_cell BK362.out 1).trans rfl
                                have hcz78_2 : wr.cell? ⟨gb362, 2, none⟩ = some (.string a0_2) := (blk_cell BK362.out 2).trans rfl
                                have hcz78_3 : wr.cell? ⟨gb362, 3, none⟩ = some (.string a0_3) := (blk_cell BK362.out 3).trans rfl
                                have hcz78_4 : wr.cell? ⟨gb362, 4, none⟩ = some (.string a0_4) := (blk_cell BK362.out 4).trans rfl
                                have hcz78_5 : wr.cell? ⟨gb362, 5, none⟩ = some (.string a0_5) := (blk_cell BK362.out 5).trans rfl
                                have hcz78_6 : wr.cell? ⟨gb362, 6, none⟩ = some (.slice A0_6 l0_6.length c0_6) := (blk_cell BK362.out 6).trans rfl
                                have hfz78_0 := blk_frozen BK362.out 0
                                have hfz78_1 := blk_frozen BK362.out 1
                                have hfz78_2 := blk_frozen BK362.out 2
                                have hfz78_3 := blk_frozen BK362.out 3
                                have hfz78_4 := blk_frozen BK362.out 4
                                have hfz78_5 := blk_frozen BK362.out 5
                                have hfz78_6 := blk_frozen BK362.out 6
                                try go_wp2
                                have n0_ := Aside0.mk (Kd.R_drew HO_368006.out)
                                have n1_ := Aside0.mk (blk_drew BK362.out)
                                have n2_ := Aside0.mk (blk_drew BK367.out)
                                have n3_ := Aside0.mk (below_drew1 HB.out)
                                clear HO_368006
                                clear BK362
                                clear BK367
                                clear HB
                                have HO_368006 := n0_
                                have BK362 := n1_
                                have BK367 := n2_
                                have HB := n3_
                                clear n0_ n1_ n2_ n3_
                                refine start_ (n := 16) (S := fun w' => w'.cell? ⟨gb367, 0, none⟩ = some (.string a0_0) ∧ w'.cell? ⟨gb367, 1, none⟩ = some (.string a0_1) ∧ w'.cell? ⟨gb367, 2, none⟩ = some (.string a0_2) ∧ w'.cell? ⟨gb367, 3, none⟩ = some (.string a0_3) ∧ w'.cell? ⟨gb367, 4, none⟩ = some (.string a0_4) ∧ w'.cell? ⟨gb367, 5, none⟩ = some (.string a0_5) ∧ w'.cell? ⟨gb367, 6, none⟩ = some (.slice Ao33 y374.length co33) ∧ w'.cell? ⟨gb362, 0, none⟩ = some (.string a0_0) ∧ w'.cell? ⟨gb362, 1, none⟩ = some (.string a0_1) ∧ w'.cell? ⟨gb362, 2, none⟩ = some (.string a0_2) ∧ w'.cell? ⟨gb362, 3, none⟩ = some (.string a0_3) ∧ w'.cell? ⟨gb362, 4, none⟩ = some (.string a0_4) ∧ w'.cell? ⟨gb362, 5, none⟩ = some (.string a0_5) ∧ w'.cell? ⟨gb362, 6, none⟩ = some (.slice A0_6 l0_6.length c0_6)) (ds := []) #[false, false, false, false, false, false, false, false, false, false, false, false, false, false, false, false] (by kernel_rfl) rfl rfl ⟨(blk_cell BK367.out 0).trans rfl, (blk_cell BK367.out 1).trans rfl, (blk_cell BK367.out 2).trans rfl, (blk_cell BK367.out 3).trans rfl, (blk_cell BK367.out 4).trans rfl, (blk_cell BK367.out 5).trans rfl, (blk_cell BK367.out 6).trans rfl, (blk_cell BK362.out 0).trans rfl, (blk_cell BK362.out 1).trans rfl, (blk_cell BK362.out 2).trans rfl, (blk_cell BK362.out 3).trans rfl, (blk_cell BK362.out 4).trans rfl, (blk_cell BK362.out 5).trans rfl, (blk_cell BK362.out 6).trans rfl⟩ (fun hHeld => ?_); refine with_tabW decklelaw15_HeaderLocals.tab14 decklelaw15_HeaderLocals.bits14 (fun HT_ HW_ => ?_)
                                generalize wr.drew = w79 at HO_368006 BK362 BK367 HB hHeld ⊢
                                refine pure_ (i := 0) (N := some 103) (v := ?_) (a' := ?_) #[true, false, false, false, false, false, false, false, false, false, false, false, false, false, false, false] rfl rfl (any_of HT_.out (by kernel_rfl)) (fun _ _ _ h => h) (Or.inl ⟨by rfl, ?_⟩) ?_ ?_
                                rotate_left
                                · intro w'
                                  go_simp
                                  with_reducible rfl
                                rotate_left
                                · simp only [Act.put, List.setIfInBounds_toArray, List.set_cons_zero, List.set_cons_succ, i64_w, i32_w]
                                  rfl
                                refine pure_ (i := 1) (N := some 104) (v := ?_) (a' := ?_) #[true, true, false, false, false, false, false, false, false, false, false, false, false, false, false, false] rfl rfl (any_of HT_.out (by kernel_rfl)) (fun _ _ _ h => h) (Or.inl ⟨by rfl, ?_⟩) ?_ ?_
                                rotate_left
                                · intro w'
                                  go_simp
                                  with_reducible rfl
                                rotate_left
                                · simp only [Act.put, List.setIfInBounds_toArray, List.set_cons_zero, List.set_cons_succ, i64_w, i32_w]
                                  rfl
                                refine take_ (i := 2) (N := some 105) (v := ?_) (a' := ?_) #[true, true, true, false, false, false, false, false, false, false, false, false, false, false, false, false] rfl rfl (take_ofW HT_.out HW_.out (by kernel_rfl)) (fun _ _ _ h => h) (Or.inl ⟨by rfl, ?_⟩) hHeld ?_ ?_
                                rotate_left
                                · rintro w' ⟨s0, s1, s2, s3, s4, s5, s6, s7, s8, s9, s10, s11, s12, s13⟩
                                  go_simp
                                  with_reducible rfl
                                rotate_left
                                · simp only [Act.put, List.setIfInBounds_toArray, List.set_cons_zero, List.set_cons_succ, i64_w, i32_w]
                                  rfl
                                refine one_ (i := 3) (N := some 106) #[true, true, true, true, false, false, false, false, false, false, false, false, false, false, false, false] rfl rfl (one_of HT_.out (by kernel_rfl)) (by decide) (fun K hK => ?_)
                                refine goes_ Try.func26 (by kernel_rfl) rfl #[.agg #[.string a0_0, .string a0_1, .string a0_2, .string a0_3, .string a0_4, .string a0_5, .slice Ao33 y374.length co33]] (by rfl) rfl rfl (by (try simp only [List.map_toArray, List.map_cons, List.map_nil]); first | done | rfl | (simp only [List.length_drop, List.length_take]; rfl)) ?_
                                with_reducible refine (header_Right.calls k3 a0_0 a0_1 a0_2 a0_3 a0_4 a0_5 _ _ y374 true _ ?side1 ?side2 A71.out).mono ?_
                                (case side1 => repeat (first | exact (Kd.R_reads' HO_368006.out).2.2 | (with_reducible refine Kd.C_alloc ?_ _) | (with_reducible refine Kd.C_drewN ?_ _) | (with_reducible refine Kd.C_drew ?_)))
                                (case side2 => exact (Kd.R_reads' HO_368006.out).2.1)
                                rintro e w80 ⟨rfl, hb⟩
                                refine ⟨_, rfl, ?_⟩
                                have n0_ := Aside0.mk (Kd.R_below (by (with_reducible repeat (first | apply Kd.R_alloc | apply Kd.R_drewN | apply Kd.R_drew)); exact HO_368006.out) hb)
                                have n1_ := Aside0.mk (blk_below (g := gb362) (o := .cells #[.string a0_0, .string a0_1, .string a0_2, .string a0_3, .string a0_4, .string a0_5, .slice A0_6 l0_6.length c0_6] 35 (0, 0)) (by (with_reducible repeat (first | refine blk_drewN ?_ _ | refine blk_drew ?_ | refine blk_alloc ?_ _)); exact BK362.out) hb)
                                have n2_ := Aside0.mk (blk_below (g := gb367) (o := .cells #[.string a0_0, .string a0_1, .string a0_2, .string a0_3, .string a0_4, .string a0_5, .slice Ao33 y374.length co33] 35 (0, 0)) (by (with_reducible repeat (first | refine blk_drewN ?_ _ | refine blk_drew ?_ | refine blk_alloc ?_ _)); exact BK367.out) hb)
                                have n3_ := Aside0.mk (below_step (by repeat (first | (with_reducible first | exact HB.out | apply below_alloc | apply pw_below_drewN | apply below_drew1 | refine below_set ?_ GE362.out | refine below_set ?_ GE367.out) | exact HB.out)) hb)
                                clear HO_368006
                                clear BK362
                                clear BK367
                                clear HB
                                have HO_368006 := n0_
                                have BK362 := n1_
                                have BK367 := n2_
                                have HB := n3_
                                clear n0_ n1_ n2_ n3_
                                (try clear hb)
                                (try clear hb2)
                                (try clear hk)
                                (try clear hi)
                                refine hK.out _ _ ⟨(blk_cell BK367.out 0).trans rfl, (blk_cell BK367.out 1).trans rfl, (blk_cell BK367.out 2).trans rfl, (blk_cell BK367.out 3).trans rfl, (blk_cell BK367.out 4).trans rfl, (blk_cell BK367.out 5).trans rfl, (blk_cell BK367.out 6).trans rfl, (blk_cell BK362.out 0).trans rfl, (blk_cell BK362.out 1).trans rfl, (blk_cell BK362.out 2).trans rfl, (blk_cell BK362.out 3).trans rfl, (blk_cell BK362.out 4).trans rfl, (blk_cell BK362.out 5).trans rfl, (blk_cell BK362.out 6).trans rfl⟩ (fun hHeld => ?_)
                                clear hK K
                                refine norm_ (a' := ?_) ?_ ?_
                                rotate_left
                                · show Act.put _ (some 106) _ = _
                                  simp only [Act.put, List.setIfInBounds_toArray, List.set_cons_zero, List.set_cons_succ, i64_w, i32_w]
                                  rfl
                                refine pure_ (i := 4) (N := some 107) (v := ?_) (a' := ?_) #[true, true, true, true, true, false, false, false, false, false, false, false, false, false, false, false] rfl rfl (any_of HT_.out (by kernel_rfl)) (fun _ _ _ h => h) (Or.inl ⟨by rfl, ?_⟩) ?_ ?_
                                rotate_left
                                · intro w'
                                  go_simp
                                  with_reducible rfl
                                rotate_left
                                · simp only [Act.put, List.setIfInBounds_toArray, List.set_cons_zero, List.set_cons_succ, i64_w, i32_w]
                                  rfl
                                refine pure_ (i := 5) (N := some 108) (v := ?_) (a' := ?_) #[true, true, true, true, true, true, false, false, false, false, false, false, false, false, false, false] rfl rfl (any_of HT_.out (by kernel_rfl)) (fun _ _ _ h => h) (Or.inl ⟨by rfl, ?_⟩) ?_ ?_
                                rotate_left
                                · intro w'
                                  go_simp
                                  with_reducible rfl
                                rotate_left
                                · simp only [Act.put, List.setIfInBounds_toArray, List.set_cons_zero, List.set_cons_succ, i64_w, i32_w]
                                  rfl
                                refine pure_ (i := 11) (N := some 114) (v := ?_) (a' := ?_) #[true, true, true, true, true, true, false, false, false, false, false, true, false, false, false, false] rfl rfl (any_of HT_.out (by kernel_rfl)) (fun _ _ _ h => h) (Or.inl ⟨by rfl, ?_⟩) ?_ ?_
                                rotate_left
                                · intro w'
                                  go_simp
                                  with_reducible rfl
                                rotate_left
                                · simp only [Act.put, List.setIfInBounds_toArray, List.set_cons_zero, List.set_cons_succ, i64_w, i32_w]
                                  rfl
                                refine take_ (i := 6) (N := some 109) (v := ?_) (a' := ?_) #[true, true, true, true, true, true, true, false, false, false, false, true, false, false, false, false] rfl rfl (take_ofW HT_.out HW_.out (by kernel_rfl)) (fun _ _ _ h => h) (Or.inl ⟨by rfl, ?_⟩) hHeld ?_ ?_
                                rotate_left
                                · rintro w' ⟨s0, s1, s2, s3, s4, s5, s6, s7, s8, s9, s10, s11, s12, s13⟩
                                  go_simp
                                  with_reducible rfl
                                rotate_left
                                · simp only [Act.put, List.setIfInBounds_toArray, List.set_cons_zero, List.set_cons_succ, i64_w, i32_w]
                                  rfl
                                refine take_ (i := 8) (N := some 111) (v := ?_) (a' := ?_) #[true, true, true, true, true, true, true, false, true, false, false, true, false, false, false, false] rfl rfl (take_ofW HT_.out HW_.out (by kernel_rfl)) (fun _ _ _ h => h) (Or.inl ⟨by rfl, ?_⟩) hHeld ?_ ?_
                                rotate_left
                                · rintro w' ⟨s0, s1, s2, s3, s4, s5, s6, s7, s8, s9, s10, s11, s12, s13⟩
                                  go_simp
                                  with_reducible rfl
                                rotate_left
                                · simp only [Act.put, List.setIfInBounds_toArray, List.set_cons_zero, List.set_cons_succ, i64_w, i32_w]
                                  rfl
                                refine one_ (i := 7) (N := some 110) #[true, true, true, true, true, true, true, true, true, false, false, true, false, false, false, false] rfl rfl (one_of HT_.out (by kernel_rfl)) (by decide) (fun K hK => ?_)
                                refine goes_ Try.func28 (by kernel_rfl) rfl #[.agg #[.string a0_0, .string a0_1, .string a0_2, .string a0_3, .string a0_4, .string a0_5, .slice Ao33 y374.length co33]] (by rfl) rfl rfl (by (try simp only [List.map_toArray, List.map_cons, List.map_nil]); first | done | rfl | (simp only [List.length_drop, List.length_take]; rfl)) ?_
                                with_reducible refine (header_Text.calls a0_0 a0_1 a0_2 a0_3 a0_4 a0_5 _ _ y374 t381 _ ?side1 ?side2 A73.out).mono ?_
                                (case side1 => repeat (first | exact (Kd.R_reads' HO_368006.out).2.2 | (with_reducible refine Kd.C_alloc ?_ _) | (with_reducible refine Kd.C_drewN ?_ _) | (with_reducible refine Kd.C_drew ?_)))
                                (case side2 => exact (Kd.R_reads' HO_368006.out).2.1)
                                rintro e w81 ⟨rfl, hb⟩
                                refine ⟨_, rfl, ?_⟩
                                have n0_ := Aside0.mk (Kd.R_below (by (with_reducible repeat (first | apply Kd.R_alloc | apply Kd.R_drewN | apply Kd.R_drew)); exact HO_368006.out) hb)
                                have n1_ := Aside0.mk (blk_below (g := gb362) (o := .cells #[.string a0_0, .string a0_1, .string a0_2, .string a0_3, .string a0_4, .string a0_5, .slice A0_6 l0_6.length c0_6] 35 (0, 0)) (by (with_reducible repeat (first | refine blk_drewN ?_ _ | refine blk_drew ?_ | refine blk_alloc ?_ _)); exact BK362.out) hb)
                                have n2_ := Aside0.mk (blk_below (g := gb367) (o := .cells #[.string a0_0, .string a0_1, .string a0_2, .string a0_3, .string a0_4, .string a0_5, .slice Ao33 y374.length co33] 35 (0, 0)) (by (with_reducible repeat (first | refine blk_drewN ?_ _ | refine blk_drew ?_ | refine blk_alloc ?_ _)); exact BK367.out) hb)
                                have n3_ := Aside0.mk (below_step (by repeat (first | (with_reducible first | exact HB.out | apply below_alloc | apply pw_below_drewN | apply below_drew1 | refine below_set ?_ GE362.out | refine below_set ?_ GE367.out) | exact HB.out)) hb)
                                clear HO_368006
                                clear BK362
                                clear BK367
                                clear HB
                                have HO_368006 := n0_
                                have BK362 := n1_
                                have BK367 := n2_
                                have HB := n3_
                                clear n0_ n1_ n2_ n3_
                                (try clear hb)
                                (try clear hb2)
                                (try clear hk)
                                (try clear hi)
                                refine hK.out _ _ ⟨(blk_cell BK367.out 0).trans rfl, (blk_cell BK367.out 1).trans rfl, (blk_cell BK367.out 2).trans rfl, (blk_cell BK367.out 3).trans rfl, (blk_cell BK367.out 4).trans rfl, (blk_cell BK367.out 5).trans rfl, (blk_cell BK367.out 6).trans rfl, (blk_cell BK362.out 0).trans rfl, (blk_cell BK362.out 1).trans rfl, (blk_cell BK362.out 2).trans rfl, (blk_cell BK362.out 3).trans rfl, (blk_cell BK362.out 4).trans rfl, (blk_cell BK362.out 5).trans rfl, (blk_cell BK362.out 6).trans rfl⟩ (fun hHeld => ?_)
                                clear hK K
                                refine norm_ (a' := ?_) ?_ ?_
                                rotate_left
                                · show Act.put _ (some 110) _ = _
                                  simp only [Act.put, List.setIfInBounds_toArray, List.set_cons_zero, List.set_cons_succ, i64_w, i32_w]
                                  rfl
                                refine one_ (i := 9) (N := some 112) #[true, true, true, true, true, true, true, true, true, true, false, true, false, false, false, false] rfl rfl (one_of HT_.out (by kernel_rfl)) (by decide) (fun K hK => ?_)
                                refine goes_ Try.func28 (by kernel_rfl) rfl #[.agg #[.string a0_0, .string a0_1, .string a0_2, .string a0_3, .string a0_4, .string a0_5, .slice A0_6 l0_6.length c0_6]] (by rfl) rfl rfl (by (try simp only [List.map_toArray, List.map_cons, List.map_nil]); first | done | rfl | (simp only [List.length_drop, List.length_take]; rfl)) ?_
                                with_reducible refine (header_Text.calls a0_0 a0_1 a0_2 a0_3 a0_4 a0_5 _ _ l0_6 t382 _ ?side1 ?side2 A74.out).mono ?_
                                (case side1 => repeat (first | exact (Kd.C_below HR0_6.out HB.out) | (with_reducible refine Kd.C_alloc ?_ _) | (with_reducible refine Kd.C_drewN ?_ _) | (with_reducible refine Kd.C_drew ?_)))
                                (case side2 => exact HC0_6.out)
                                rintro e w82 ⟨rfl, hb⟩
                                refine ⟨_, rfl, ?_⟩
                                have n0_ := Aside0.mk (Kd.R_below (by (with_reducible repeat (first | apply Kd.R_alloc | apply Kd.R_drewN | apply Kd.R_drew)); exact HO_368006.out) hb)
                                have n1_ := Aside0.mk (blk_below (g := gb362) (o := .cells #[.string a0_0, .string a0_1, .string a0_2, .string a0_3, .string a0_4, .string a0_5, .slice A0_6 l0_6.length c0_6] 35 (0, 0)) (by (with_reducible repeat (first | refine blk_drewN ?_ _ | refine blk_drew ?_ | refine blk_alloc ?_ _)); exact BK362.out) hb)
                                have n2_ := Aside0.mk (blk_below (g := gb367) (o := .cells #[.string a0_0, .string a0_1, .string a0_2, .string a0_3, .string a0_4, .string a0_5, .slice Ao33 y374.length co33] 35 (0, 0)) (by (with_reducible repeat (first | refine blk_drewN ?_ _ | refine blk_drew ?_ | refine blk_alloc ?_ _)); exact BK367.out) hb)
                                have n3_ := Aside0.mk (below_step (by repeat (first | (with_reducible first | exact HB.out | apply below_alloc | apply pw_below_drewN | apply below_drew1 | refine below_set ?_ GE362.out | refine below_set ?_ GE367.out) | exact HB.out)) hb)
                                clear HO_368006
                                clear BK362
                                clear BK367
                                clear HB
                                have HO_368006 := n0_
                                have BK362 := n1_
                                have BK367 := n2_
                                have HB := n3_
                                clear n0_ n1_ n2_ n3_
                                (try clear hb)
                                (try clear hb2)
                                (try clear hk)
                                (try clear hi)
                                refine hK.out _ _ ⟨(blk_cell BK367.out 0).trans rfl, (blk_cell BK367.out 1).trans rfl, (blk_cell BK367.out 2).trans rfl, (blk_cell BK367.out 3).trans rfl, (blk_cell BK367.out 4).trans rfl, (blk_cell BK367.out 5).trans rfl, (blk_cell BK367.out 6).trans rfl, (blk_cell BK362.out 0).trans rfl, (blk_cell BK362.out 1).trans rfl, (blk_cell BK362.out 2).trans rfl, (blk_cell BK362.out 3).trans rfl, (blk_cell BK362.out 4).trans rfl, (blk_cell BK362.out 5).trans rfl, (blk_cell BK362.out 6).trans rfl⟩ (fun hHeld => ?_)
                                clear hK K
                                refine norm_ (a' := ?_) ?_ ?_
                                rotate_left
                                · show Act.put _ (some 112) _ = _
                                  simp only [Act.put, List.setIfInBounds_toArray, List.set_cons_zero, List.set_cons_succ, i64_w, i32_w]
                                  rfl
                                refine pure_ (i := 10) (N := some 113) (v := ?_) (a' := ?_) #[true, true, true, true, true, true, true, true, true, true, true, true, false, false, false, false] rfl rfl (any_of HT_.out (by kernel_rfl)) (fun _ _ _ h => h) (Or.inl ⟨by rfl, ?_⟩) ?_ ?_
                                rotate_left
                                · intro w'
                                  go_simp
                                  with_reducible rfl
                                rotate_left
                                · simp only [Act.put, List.setIfInBounds_toArray, List.set_cons_zero, List.set_cons_succ, i64_w, i32_w]
                                  rfl
                                refine pure_ (i := 12) (N := some 115) (v := ?_) (a' := ?_) #[true, true, true, true, true, true, true, true, true, true, true, true, true, false, false, false] rfl rfl (any_of HT_.out (by kernel_rfl)) (fun _ _ _ h => h) (Or.inl ⟨by rfl, ?_⟩) ?_ ?_
                                rotate_left
                                · intro w'
                                  go_simp
                                  with_reducible rfl
                                rotate_left
                                · simp only [Act.put, List.setIfInBounds_toArray, List.set_cons_zero, List.set_cons_succ, i64_w, i32_w]
                                  rfl
                                refine pure_ (i := 13) (N := some 116) (v := ?_) (a' := ?_) #[true, true, true, true, true, true, true, true, true, true, true, true, true, true, false, false] rfl rfl (any_of HT_.out (by kernel_rfl)) (fun _ _ _ h => h) (Or.inl ⟨by rfl, ?_⟩) ?_ ?_
                                rotate_left
                                · intro w'
                                  go_simp
                                  with_reducible rfl
                                rotate_left
                                · simp only [Act.put, List.setIfInBounds_toArray, List.set_cons_zero, List.set_cons_succ, i64_w, i32_w]
                                  rfl
                                refine pure_ (i := 14) (N := some 117) (v := ?_) (a' := ?_) #[true, true, true, true, true, true, true, true, true, true, true, true, true, true, true, false] rfl rfl (any_of HT_.out (by kernel_rfl)) (fun _ _ _ h => h) (Or.inl ⟨by rfl, ?_⟩) ?_ ?_
                                rotate_left
                                · intro w'
                                  go_simp
                                  with_reducible rfl
                                rotate_left
                                · simp only [Act.put, List.setIfInBounds_toArray, List.set_cons_zero, List.set_cons_succ, i64_w, i32_w]
                                  rfl
                                refine pure_ (i := 15) (N := some 4) (v := ?_) (a' := ?_) #[true, true, true, true, true, true, true, true, true, true, true, true, true, true, true, true] rfl rfl (any_of HT_.out (by kernel_rfl)) (fun _ _ _ h => h) (Or.inl ⟨by rfl, ?_⟩) ?_ ?_
                                rotate_left
                                · intro w'
                                  go_simp
                                  with_reducible rfl
                                rotate_left
                                · simp only [Act.put, List.setIfInBounds_toArray, List.set_cons_zero, List.set_cons_succ, i64_w, i32_w]
                                  rfl
                                refine done_ (done_of HT_.out (by kernel_rfl)) ?_
                                try go_wp2
                                go_ret
                                exact ⟨by first | rfl | (simp [errW_none, errW_some] <;> rfl) | (simp [*, errW_none, errW_some] <;> rfl), by repeat (first | (with_reducible first | exact HB.out | apply below_alloc | apply pw_below_drewN | apply below_drew1 | refine below_set ?_ GE362.out | refine below_set ?_ GE367.out) | exact HB.out)⟩
                              · rw [if_neg c76] at H
                                exact absurd H (by simp)
                            · rw [if_neg c75] at H
                              exact absurd H (by simp)
                          · replace c72 := Bool.eq_false_iff.mpr c72
                            subst c72
                            have H1 : (none) = some r := by rw [if_neg (show ¬ (false = true) by decide)] at H; exact H
                            clear H
                            have H := H1
                            clear H1
                            exact absurd H (by simp)
                        · replace c70 := Bool.eq_false_iff.mpr c70
                          subst c70
                          have H1 : (none) = some r := by rw [if_neg (show ¬ (false = true) by decide)] at H; exact H
                          clear H
                          have H := H1
                          clear H1
                          exact absurd H (by simp)
          · rw [if_neg c22] at H
            exact absurd H (by simp)
        · rw [if_neg c21] at H
          exact absurd H (by simp)

end Go.Proofs.Ytmddkjmcbddhiaa.P
