/-
  P36
-/
import Derived.Test.YtmddkjmcbddhiaaDoorP0KQ
import Derived.Test.YtmddkjmcbddhiaaDoorRw8KQ
-- written by wip/tools/print2.py (a program of this session over the kit's print); not trusted: Lean checks it
namespace Go.Proofs.YtmddkjmcbddhiaaDoor.P
open Go.RowKit Go.Proofs.YtmddkjmcbddhiaaDoorW.PrintWords Go.Proofs.YtmddkjmcbddhiaaDoorW.PrintLast Go.Proofs.YtmddkjmcbddhiaaDoorW.PrintMore
attribute [local go_sem] max2_int min2_int max_two min_two max_three min_three max_four min_four   -- for this text's walks alone
set_option linter.unusedVariables false
set_option linter.unusedSimpArgs false

/-! ### deckleref15_all: function 102 -/
def deckleref15_all.f (a0_0 : ByteArray) (a0_1 : ByteArray) (a0_2 : ByteArray) (a0_3 : ByteArray) (a0_4 : ByteArray) (a0_5 : ByteArray) (l0_6 : List ByteArray) : Option (List ByteArray) := (some (([a0_0, a0_1, a0_2, a0_3, a0_4, a0_5] : List ByteArray) : List ByteArray)).bind fun y402 => (if y402.length + l0_6.length < 8796093022208 then (some (y402 ++ l0_6)) else (none))
set_option maxHeartbeats 8000000 in
set_option maxRecDepth 100000 in
theorem deckleref15_all.calls (a0_0 : ByteArray) (a0_1 : ByteArray) (a0_2 : ByteArray) (a0_3 : ByteArray) (a0_4 : ByteArray) (a0_5 : ByteArray) (A0_6 : Option Addr) (c0_6 : Nat) (l0_6 : List ByteArray) (r : List ByteArray) (w : World) (hr0_6 : Kd.C Kd.string w A0_6 l0_6.length l0_6) (hc0_6 : l0_6.length ≤ c0_6) (h : deckleref15_all.f a0_0 a0_1 a0_2 a0_3 a0_4 a0_5 l0_6 = some r) :
    Calls Tryd.prog 102 #[.agg #[.string a0_0, .string a0_1, .string a0_2, .string a0_3, .string a0_4, .string a0_5, .slice A0_6 l0_6.length c0_6]] w fun e w' => ∃ v0_ : Value, e = .returned (v0_) ∧ Kd.R Kd.string 9 w' w.heap.size (fun _ => True) v0_ r ∧ Below w.heap.size w w' := by
  have hu42 := Tryd.underlying42
  have HR0_6 := Aside0.mk hr0_6
  have HC0_6 := Aside0.mk hc0_6
  clear hr0_6 hc0_6
  have HB := Aside0.mk (Below.refl w.heap.size w)
  have H : ((some (([a0_0, a0_1, a0_2, a0_3, a0_4, a0_5] : List ByteArray) : List ByteArray)).bind fun y402 => (if y402.length + l0_6.length < 8796093022208 then (some (y402 ++ l0_6)) else (none))) = some r := h
  clear h
  obtain ⟨y402, hy402⟩ : ∃ y_ : List ByteArray, y_ = (([a0_0, a0_1, a0_2, a0_3, a0_4, a0_5] : List ByteArray)) := ⟨_, rfl⟩
  replace H : (if y402.length + l0_6.length < 8796093022208 then (some (y402 ++ l0_6)) else (none)) = some r := by first | (rw [hy402]; with_reducible exact H) | (have H2_ := (Option.bind_some _ _).symm.trans H; rw [hy402]; with_reducible exact H2_) | (have H2_ := (Option.bind_some _ _).symm.trans H; with_reducible exact H2_) | with_reducible exact H | (rw [hy402]; exact H) | exact H
  have Ny402 := Aside0.mk hy402
  clear hy402
  by_cases c2 : y402.length + l0_6.length < 8796093022208
  · rw [if_pos c2] at H
    have LMc2 := Aside0.mk c2
    clear c2
    obtain ⟨y405, hy405⟩ : ∃ y_ : List ByteArray, y_ = (y402 ++ l0_6) := ⟨_, rfl⟩
    replace H : (some y405) = some r := by first | (rw [hy405]; with_reducible exact H) | (have H2_ := (Option.bind_some _ _).symm.trans H; rw [hy405]; with_reducible exact H2_) | (have H2_ := (Option.bind_some _ _).symm.trans H; with_reducible exact H2_) | with_reducible exact H | (rw [hy405]; exact H) | exact H
    have Ny405 := Aside0.mk hy405
    clear hy405
    obtain rfl := Option.some.inj H
    go_enter Tryd.func102, Tryd.ntmps102
    go_wp2_with (first | ((with_reducible refine gate_dst (N := 1) rfl ?_); refine box_event ?hg (N := 1) ?hd (cs := #[.string a0_0, .string a0_1, .string a0_2, .string a0_3, .string a0_4, .string a0_5, .slice A0_6 l0_6.length c0_6]) (t := 42) ?hr ?_; (case hd => rfl); (case hg => rfl); (case hr => first | (go_simp; done) | (go_simp; rfl)); intro gb401 hg w3 hbox hb; have n0_ := Aside0.mk (below_step (by repeat (first | (with_reducible first | exact HB.out | apply below_alloc | apply pw_below_drewN | apply below_drew1) | exact HB.out)) hb); have n1_ := Aside0.mk (hbox); have n2_ := Aside0.mk ((by rw [hg]; exact (below_size (by repeat (first | (with_reducible first | exact HB.out | apply below_alloc | apply pw_below_drewN | apply below_drew1) | exact HB.out))) : w.heap.size ≤ gb401)); have n3_ := Aside0.mk ((by rw [hg]; exact (below_size (by repeat (first | (with_reducible first | exact HB.out | apply below_alloc | apply pw_below_drewN | apply below_drew1) | exact HB.out))) : w.heap.size ≤ gb401)); clear HB; have HB := n0_; have BK401 := n1_; have GW401 := n2_; have GE401 := n3_; clear n0_ n1_ n2_ n3_; clear hb hbox hg; have hcz4_0 : w3.cell? ⟨gb401, 0, none⟩ = some (.string a0_0) := (blk_cell BK401.out 0).trans rfl; have hcz4_1 : w3.cell? ⟨gb401, 1, none⟩ = some (.string a0_1) := (blk_cell BK401.out 1).trans rfl; have hcz4_2 : w3.cell? ⟨gb401, 2, none⟩ = some (.string a0_2) := (blk_cell BK401.out 2).trans rfl; have hcz4_3 : w3.cell? ⟨gb401, 3, none⟩ = some (.string a0_3) := (blk_cell BK401.out 3).trans rfl; have hcz4_4 : w3.cell? ⟨gb401, 4, none⟩ = some (.string a0_4) := (blk_cell BK401.out 4).trans rfl; have hcz4_5 : w3.cell? ⟨gb401, 5, none⟩ = some (.string a0_5) := (blk_cell BK401.out 5).trans rfl; have hcz4_6 : w3.cell? ⟨gb401, 6, none⟩ = some (.slice A0_6 l0_6.length c0_6) := (blk_cell BK401.out 6).trans rfl; have hfz4_0 := blk_frozen BK401.out 0; have hfz4_1 := blk_frozen BK401.out 1; have hfz4_2 := blk_frozen BK401.out 2; have hfz4_3 := blk_frozen BK401.out 3; have hfz4_4 := blk_frozen BK401.out 4; have hfz4_5 := blk_frozen BK401.out 5; have hfz4_6 := blk_frozen BK401.out 6) | ((with_reducible refine gate_dst (N := 15) rfl ?_); refine Kd.R_lit Kd.string _ 9 ?hg (N := 15) ?hd (xs := ([a0_0, a0_1, a0_2, a0_3, a0_4, a0_5] : List ByteArray)) (inner := [.string a0_0, .string a0_1, .string a0_2, .string a0_3, .string a0_4, .string a0_5]) (ok := fun _ => True) (okp := fun _ => True) ?hr ?hp (fun _ hk => hk) trivial (Below.refl _ _) (Nat.le_refl _) (by simp) ?_; (case hd => rfl); (case hg => rfl); (case hr => first | (go_simp; done) | (go_simp; rfl)); (case hp => exact (Reps.one (show Kd.M Kd.string _ _ _ a0_0 [.string a0_0] from rfl) (Reps.one (show Kd.M Kd.string _ _ _ a0_1 [.string a0_1] from rfl) (Reps.one (show Kd.M Kd.string _ _ _ a0_2 [.string a0_2] from rfl) (Reps.one (show Kd.M Kd.string _ _ _ a0_3 [.string a0_3] from rfl) (Reps.one (show Kd.M Kd.string _ _ _ a0_4 [.string a0_4] from rfl) (Reps.one (show Kd.M Kd.string _ _ _ a0_5 [.string a0_5] from rfl) (Reps.none _ _)))))))); intro v403 w5 ho6 hb hg_ hnew_; clear hg_ hnew_; (first | rw [← Ny402.out] at ho6 | (simp only [Int.reduceToNat] at ho6; rw [← Ny402.out] at ho6)); have n0_ := Aside0.mk (Kd.R_lower ho6 (below_size (by repeat (first | (with_reducible first | exact HB.out | apply below_alloc | apply pw_below_drewN | apply below_drew1 | refine below_set ?_ GE401.out) | exact HB.out)))); have n1_ := Aside0.mk (blk_below (g := gb401) (o := .cells #[.string a0_0, .string a0_1, .string a0_2, .string a0_3, .string a0_4, .string a0_5, .slice A0_6 l0_6.length c0_6] 42 (0, 0)) (by (with_reducible repeat (first | refine blk_drewN ?_ _ | refine blk_drew ?_ | refine blk_alloc ?_ _)); exact BK401.out) hb); have n2_ := Aside0.mk (below_step (by repeat (first | (with_reducible first | exact HB.out | apply below_alloc | apply pw_below_drewN | apply below_drew1 | refine below_set ?_ GE401.out) | exact HB.out)) hb); clear BK401; clear HB; have HO404 := n0_; have BK401 := n1_; have HB := n2_; clear n0_ n1_ n2_; clear hb ho6; have hcz7_0 : w5.cell? ⟨gb401, 0, none⟩ = some (.string a0_0) := (blk_cell BK401.out 0).trans rfl; have hcz7_1 : w5.cell? ⟨gb401, 1, none⟩ = some (.string a0_1) := (blk_cell BK401.out 1).trans rfl; have hcz7_2 : w5.cell? ⟨gb401, 2, none⟩ = some (.string a0_2) := (blk_cell BK401.out 2).trans rfl; have hcz7_3 : w5.cell? ⟨gb401, 3, none⟩ = some (.string a0_3) := (blk_cell BK401.out 3).trans rfl; have hcz7_4 : w5.cell? ⟨gb401, 4, none⟩ = some (.string a0_4) := (blk_cell BK401.out 4).trans rfl; have hcz7_5 : w5.cell? ⟨gb401, 5, none⟩ = some (.string a0_5) := (blk_cell BK401.out 5).trans rfl; have hcz7_6 : w5.cell? ⟨gb401, 6, none⟩ = some (.slice A0_6 l0_6.length c0_6) := (blk_cell BK401.out 6).trans rfl; have hfz7_0 := blk_frozen BK401.out 0; have hfz7_1 := blk_frozen BK401.out 1; have hfz7_2 := blk_frozen BK401.out 2; have hfz7_3 := blk_frozen BK401.out 3; have hfz7_4 := blk_frozen BK401.out 4; have hfz7_5 := blk_frozen BK401.out 5; have hfz7_6 := blk_frozen BK401.out 6) | ((with_reducible refine gate_builtin (b := .append) (xs := #[.tmp 15, .tmp 17]) rfl ?_); at_builtin; refine Kd.R_append_rows Kd.string (w0 := w) w.heap.size rfl (.tmp 15) (.tmp 17) 33 9 (.string ⟨#[]⟩) 16 rfl Tryd.underlying33 info9 rfl (by decide) (by omega) v403 y402 l0_6 _ _ _ (fun _ => True) (fun _ => False) rfl rfl ?aO ?aR (fun _ _ h => h) (fun _ h => h.elim) ?aF ?aB ?aS ?aL ?_; (case aR => repeat (first | exact (Kd.C_below HR0_6.out HB.out) | (with_reducible refine Kd.C_alloc ?_ _) | (with_reducible refine Kd.C_drewN ?_ _) | (with_reducible refine Kd.C_drew ?_))); (case aB => exact (by repeat (first | (with_reducible first | exact HB.out | apply below_alloc | apply pw_below_drewN | apply below_drew1 | refine below_set ?_ GE401.out) | exact HB.out))); (case aF => exact (fun _ _ => trivial)); (case aO => exact (by (with_reducible repeat (first | apply Kd.R_alloc | apply Kd.R_drewN | apply Kd.R_drew)); exact HO404.out)); (case aS => exact (below_size (by repeat (first | (with_reducible first | exact HB.out | apply below_alloc | apply pw_below_drewN | apply below_drew1 | refine below_set ?_ GE401.out) | exact HB.out)))); (case aL => have := LMc2.out; omega); intro v406 w8 ho hb hg hat; rw [← Ny405.out] at ho; have n0_ := Aside0.mk (blk_grown (g := gb401) (o := .cells #[.string a0_0, .string a0_1, .string a0_2, .string a0_3, .string a0_4, .string a0_5, .slice A0_6 l0_6.length c0_6] 42 (0, 0)) (by (with_reducible repeat (first | refine blk_drewN ?_ _ | refine blk_drew ?_ | refine blk_alloc ?_ _)); exact BK401.out) hg (Kd.R_ne HO404.out BK401.out (by decide))); have n1_ := Aside0.mk (hb); have n2_ := Aside0.mk (ho); clear BK401; clear HB; clear HO404; have BK401 := n0_; have HB := n1_; have HO407 := n2_; clear n0_ n1_ n2_; clear ho hb hg hat))
    go_ret
    exact ⟨_, by first | rfl | (simp [errW_none, errW_some] <;> rfl) | (simp [*, errW_none, errW_some] <;> rfl), by (with_reducible repeat (first | apply Kd.R_alloc | apply Kd.R_drewN | apply Kd.R_drew)); exact HO407.out, by repeat (first | (with_reducible first | exact HB.out | apply below_alloc | apply pw_below_drewN | apply below_drew1 | refine below_set ?_ GE401.out) | exact HB.out)⟩
  · rw [if_neg c2] at H
    exact absurd H (by simp)

/-! ### deckleref15_Right: function 96 -/
def deckleref15_Right.l0 : Nat → List ByteArray → Int → ByteArray → ByteArray → ByteArray → ByteArray → ByteArray → ByteArray → List ByteArray → Option (Bool)
  | 0, _, _, _, _, _, _, _, _, _ => none
  | k + 1, x3, x4, x409000, x409001, x409002, x409003, x409004, x409005, x409006 => if x4 < (x3.length : Int) then (if 0 ≤ x4 then ((deckleref08_Right.f k (rdOf ByteArray.empty x3 x4)).bind fun t413 => (if t413 = true then (deckleref15_Right.l0 k x3 (wrap64 (x4 + 1)) x409000 x409001 x409002 x409003 x409004 x409005 x409006) else (if (rdOf ByteArray.empty x3 x4).toList = ([] : List UInt8) then (if x4 = 2 then (some false) else (if x4 > 5 then (some false) else (deckleref15_Right.l0 k x3 (wrap64 (x4 + 1)) x409000 x409001 x409002 x409003 x409004 x409005 x409006))) else (some false)))) else (none)) else (if x409003.toList = ([] : List UInt8) then (if x409001.toList = ([] : List UInt8) then (if x409004.toList = ([] : List UInt8) then (if x409005.toList = ([] : List UInt8) then ((deckleref08_Unlike.f k x3).bind fun t415 => (some t415)) else (some false)) else (some false)) else (some false)) else (if x409004.toList = ([] : List UInt8) then (if x409005.toList = ([] : List UInt8) then ((deckleref08_Unlike.f k x3).bind fun t416 => (some t416)) else (some false)) else ((deckleref08_Unlike.f k x3).bind fun t417 => (some t417))))
def deckleref15_Right.f (k : Nat) (a0_0 : ByteArray) (a0_1 : ByteArray) (a0_2 : ByteArray) (a0_3 : ByteArray) (a0_4 : ByteArray) (a0_5 : ByteArray) (l0_6 : List ByteArray) : Option (Bool) := (deckleref15_all.f a0_0 a0_1 a0_2 a0_3 a0_4 a0_5 l0_6).bind fun t409 => (deckleref15_Right.l0 k t409 0 a0_0 a0_1 a0_2 a0_3 a0_4 a0_5 l0_6)
set_option maxHeartbeats 8000000 in
set_option maxRecDepth 100000 in
theorem deckleref15_Right.calls (k : Nat) (a0_0 : ByteArray) (a0_1 : ByteArray) (a0_2 : ByteArray) (a0_3 : ByteArray) (a0_4 : ByteArray) (a0_5 : ByteArray) (A0_6 : Option Addr) (c0_6 : Nat) (l0_6 : List ByteArray) (r : Bool) (w : World) (hr0_6 : Kd.C Kd.string w A0_6 l0_6.length l0_6) (hc0_6 : l0_6.length ≤ c0_6) (h : deckleref15_Right.f k a0_0 a0_1 a0_2 a0_3 a0_4 a0_5 l0_6 = some r) :
    Calls Tryd.prog 96 #[.agg #[.string a0_0, .string a0_1, .string a0_2, .string a0_3, .string a0_4, .string a0_5, .slice A0_6 l0_6.length c0_6]] w fun e w' => e = .returned (.bool r) ∧ Below w.heap.size w w' := by
  have hu42 := Tryd.underlying42
  have HR0_6 := Aside0.mk hr0_6
  have HC0_6 := Aside0.mk hc0_6
  clear hr0_6 hc0_6
  have HB := Aside0.mk (Below.refl w.heap.size w)
  have H : ((deckleref15_all.f a0_0 a0_1 a0_2 a0_3 a0_4 a0_5 l0_6).bind fun t409 => (deckleref15_Right.l0 k t409 0 a0_0 a0_1 a0_2 a0_3 a0_4 a0_5 l0_6)) = some r := h
  clear h
  replace H := Option.bind_eq_some_iff.mp H
  obtain ⟨t409, A20, H⟩ := H
  replace H : (deckleref15_Right.l0 k t409 0 a0_0 a0_1 a0_2 a0_3 a0_4 a0_5 l0_6) = some r := H
  have A2 := Aside0.mk A20
  clear A20
  have H' := Aside0.mk H
  clear H
  go_enter Tryd.func96, Tryd.ntmps96
  go_wp2_with (first | ((with_reducible refine gate_dst (N := 1) rfl ?_); refine box_event ?hg (N := 1) ?hd (cs := #[.string a0_0, .string a0_1, .string a0_2, .string a0_3, .string a0_4, .string a0_5, .slice A0_6 l0_6.length c0_6]) (t := 42) ?hr ?_; (case hd => rfl); (case hg => rfl); (case hr => first | (go_simp; done) | (go_simp; rfl)); intro gb408 hg w3 hbox hb; have n0_ := Aside0.mk (below_step (by repeat (first | (with_reducible first | exact HB.out | apply below_alloc | apply pw_below_drewN | apply below_drew1) | exact HB.out)) hb); have n1_ := Aside0.mk (hbox); have n2_ := Aside0.mk ((by rw [hg]; exact (below_size (by repeat (first | (with_reducible first | exact HB.out | apply below_alloc | apply pw_below_drewN | apply below_drew1) | exact HB.out))) : w.heap.size ≤ gb408)); have n3_ := Aside0.mk ((by rw [hg]; exact (below_size (by repeat (first | (with_reducible first | exact HB.out | apply below_alloc | apply pw_below_drewN | apply below_drew1) | exact HB.out))) : w.heap.size ≤ gb408)); clear HB; have HB := n0_; have BK408 := n1_; have GW408 := n2_; have GE408 := n3_; clear n0_ n1_ n2_ n3_; clear hb hbox hg; have hcz4_0 : w3.cell? ⟨gb408, 0, none⟩ = some (.string a0_0) := (blk_cell BK408.out 0).trans rfl; have hcz4_1 : w3.cell? ⟨gb408, 1, none⟩ = some (.string a0_1) := (blk_cell BK408.out 1).trans rfl; have hcz4_2 : w3.cell? ⟨gb408, 2, none⟩ = some (.string a0_2) := (blk_cell BK408.out 2).trans rfl; have hcz4_3 : w3.cell? ⟨gb408, 3, none⟩ = some (.string a0_3) := (blk_cell BK408.out 3).trans rfl; have hcz4_4 : w3.cell? ⟨gb408, 4, none⟩ = some (.string a0_4) := (blk_cell BK408.out 4).trans rfl; have hcz4_5 : w3.cell? ⟨gb408, 5, none⟩ = some (.string a0_5) := (blk_cell BK408.out 5).trans rfl; have hcz4_6 : w3.cell? ⟨gb408, 6, none⟩ = some (.slice A0_6 l0_6.length c0_6) := (blk_cell BK408.out 6).trans rfl; have hfz4_0 := blk_frozen BK408.out 0; have hfz4_1 := blk_frozen BK408.out 1; have hfz4_2 := blk_frozen BK408.out 2; have hfz4_3 := blk_frozen BK408.out 3; have hfz4_4 := blk_frozen BK408.out 4; have hfz4_5 := blk_frozen BK408.out 5; have hfz4_6 := blk_frozen BK408.out 6) | ((with_reducible refine gate_callee (f := 102) rfl ?_); refine goesL_ (some 7) rfl rfl Tryd.func102 (by kernel_rfl) rfl #[.agg #[.string a0_0, .string a0_1, .string a0_2, .string a0_3, .string a0_4, .string a0_5, .slice A0_6 l0_6.length c0_6]] rfl (by (try simp only [List.map_toArray, List.map_cons, List.map_nil]); first | done | rfl | (simp only [List.length_drop, List.length_take]; rfl)) ?_; (with_reducible refine (deckleref15_all.calls a0_0 a0_1 a0_2 a0_3 a0_4 a0_5 _ _ l0_6 t409 _ ?side1 ?side2 A2.out).mono ?_); (case side1 => repeat (first | exact (Kd.C_below HR0_6.out HB.out) | (with_reducible refine Kd.C_alloc ?_ _) | (with_reducible refine Kd.C_drewN ?_ _) | (with_reducible refine Kd.C_drew ?_))); (case side2 => exact HC0_6.out); rintro e w5 ⟨v410, rfl, ho0, hb⟩; refine ⟨_, rfl, ?_⟩; have n0_ := Aside0.mk (Kd.R_lower ho0 (below_size (by repeat (first | (with_reducible first | exact HB.out | apply below_alloc | apply pw_below_drewN | apply below_drew1 | refine below_set ?_ GE408.out) | exact HB.out)))); have n1_ := Aside0.mk (blk_below (g := gb408) (o := .cells #[.string a0_0, .string a0_1, .string a0_2, .string a0_3, .string a0_4, .string a0_5, .slice A0_6 l0_6.length c0_6] 42 (0, 0)) (by (with_reducible repeat (first | refine blk_drewN ?_ _ | refine blk_drew ?_ | refine blk_alloc ?_ _)); exact BK408.out) hb); have n2_ := Aside0.mk (below_step (by repeat (first | (with_reducible first | exact HB.out | apply below_alloc | apply pw_below_drewN | apply below_drew1 | refine below_set ?_ GE408.out) | exact HB.out)) hb); clear BK408; clear HB; have HO411 := n0_; have BK408 := n1_; have HB := n2_; clear n0_ n1_ n2_; (try clear hb); (try clear hb2); (try clear hk); (try clear hi); (try clear ho0)))
  go_loopg [4] k (fun kq v4 w' => ∃ (x4_1 : Int), v4 = .int .i64 x4_1 ∧ Aside0 (deckleref15_Right.l0 kq t409 x4_1 a0_0 a0_1 a0_2 a0_3 a0_4 a0_5 l0_6 = some r) ∧ Aside0 (kq ≤ k) ∧ Aside0 (Kd.R Kd.string 9 w' w.heap.size (fun _ => True) v410 t409) ∧ Aside0 (w'.heap[gb408]? = some (.cells #[.string a0_0, .string a0_1, .string a0_2, .string a0_3, .string a0_4, .string a0_5, (.slice A0_6 l0_6.length c0_6)] 42 (0, 0))) ∧ Aside0 (Below w.heap.size w w'))
  case atStart => exact ⟨(0), (by first | rfl | (simp; done) | (simp [*]; done)), H', ⟨Nat.le_refl _⟩, ⟨by (with_reducible repeat (first | apply Kd.R_alloc | apply Kd.R_drewN | apply Kd.R_drew)); exact HO411.out⟩, ⟨by (with_reducible repeat (first | refine blk_drewN ?_ _ | refine blk_drew ?_ | refine blk_alloc ?_ _)); exact BK408.out⟩, ⟨by repeat (first | (with_reducible first | exact HB.out | apply below_alloc | apply pw_below_drewN | apply below_drew1 | refine below_set ?_ GE408.out) | exact HB.out)⟩⟩
  case round =>
    clear H'
    try clear c1
    try clear p2
    try clear hcz4_0
    try clear hcz4_1
    try clear hcz4_2
    try clear hcz4_3
    try clear hcz4_4
    try clear hcz4_5
    try clear hcz4_6
    try clear hfz4_0
    try clear hfz4_1
    try clear hfz4_2
    try clear hfz4_3
    try clear hfz4_4
    try clear hfz4_5
    try clear hfz4_6
    obtain ⟨x4_1, rfl, HA, HK1, HO_3, BK408, HB⟩ := hrel
    cases gk with
    | zero => exact absurd HA.out (by simp [deckleref15_Right.l0])
    | succ k1 =>
      have H := HA.out
      clear HA
      simp only [deckleref15_Right.l0] at H
      by_cases c6 : x4_1 < (t409.length : Int)
      · rw [if_pos c6] at H
        have c6b0 : decide (x4_1 < (t409.length : Int)) = true := decide_eq_true c6
        clear c6
        by_cases c7 : 0 ≤ x4_1
        · rw [if_pos c7] at H
          have c7b0 : decide (0 ≤ x4_1) = true := decide_eq_true c7
          clear c7
          replace H := Option.bind_eq_some_iff.mp H
          obtain ⟨t413, A80, H⟩ := H
          replace H : (if t413 = true then (deckleref15_Right.l0 k1 t409 (wrap64 (x4_1 + 1)) a0_0 a0_1 a0_2 a0_3 a0_4 a0_5 l0_6) else (if (rdOf ByteArray.empty t409 x4_1).toList = ([] : List UInt8) then (if x4_1 = 2 then (some false) else (if x4_1 > 5 then (some false) else (deckleref15_Right.l0 k1 t409 (wrap64 (x4_1 + 1)) a0_0 a0_1 a0_2 a0_3 a0_4 a0_5 l0_6))) else (some false))) = some r := H
          have A8 := Aside0.mk A80
          clear A80
          by_cases c9 : t413 = true
          · subst c9
            have H1 : (deckleref15_Right.l0 k1 t409 (wrap64 (x4_1 + 1)) a0_0 a0_1 a0_2 a0_3 a0_4 a0_5 l0_6) = some r := by rw [if_pos rfl] at H; exact H
            clear H
            have H := H1
            clear H1
            have H' := Aside0.mk H
            clear H
            obtain ⟨Ao10, co10, eo10⟩ := Kd.R_slice HO_3.out
            subst eo10
            have p412 : 0 ≤ (x4_1 : Int) := of_decide_eq_true (by first | (with_reducible assumption) | assumption)
            have q412 : x4_1 < (t409.length : Int) := of_decide_eq_true (by first | (with_reducible assumption) | assumption)
            obtain ⟨ad412, e412, hx412_0⟩ := Kd.at_string (Kd.R_reads' HO_3.out).2.2 x4_1 p412 q412
            cases e412
            replace p412 := eq_true p412
            replace q412 := eq_true q412
            go_wp2_with (first | ((with_reducible refine gate_callee (f := 60) rfl ?_); refine goesL_ (some 18) rfl rfl Tryd.func60 (by kernel_rfl) rfl #[.string (rdOf ByteArray.empty t409 x4_1)] rfl (by (try simp only [List.map_toArray, List.map_cons, List.map_nil]); first | done | rfl | (simp only [List.length_drop, List.length_take]; rfl)) ?_; (with_reducible refine (deckleref08_Right.calls k1 (rdOf ByteArray.empty t409 x4_1) true _ A8.out).mono ?_); rintro e w11 ⟨rfl, hb⟩; refine ⟨_, rfl, ?_⟩; have n0_ := Aside0.mk (Kd.R_below (by (with_reducible repeat (first | apply Kd.R_alloc | apply Kd.R_drewN | apply Kd.R_drew)); exact HO_3.out) hb); have n1_ := Aside0.mk (blk_below (g := gb408) (o := .cells #[.string a0_0, .string a0_1, .string a0_2, .string a0_3, .string a0_4, .string a0_5, .slice A0_6 l0_6.length c0_6] 42 (0, 0)) (by (with_reducible repeat (first | refine blk_drewN ?_ _ | refine blk_drew ?_ | refine blk_alloc ?_ _)); exact BK408.out) hb); have n2_ := Aside0.mk (below_step (by repeat (first | (with_reducible first | exact HB.out | apply below_alloc | apply pw_below_drewN | apply below_drew1 | refine below_set ?_ GE408.out) | exact HB.out)) hb); clear HO_3; clear BK408; clear HB; have HO_3 := n0_; have BK408 := n1_; have HB := n2_; clear n0_ n1_ n2_; (try clear hb); (try clear hb2); (try clear hk); (try clear hi)))
            go_roundg k1
            case measure => have := HK1.out; omega
            case rel => exact ⟨(wrap64 (x4_1 + 1)), (by first | rfl | (simp; done) | (simp [*]; done)), H', ⟨by have := HK1.out; omega⟩, ⟨by (with_reducible repeat (first | apply Kd.R_alloc | apply Kd.R_drewN | apply Kd.R_drew)); exact HO_3.out⟩, ⟨by (with_reducible repeat (first | refine blk_drewN ?_ _ | refine blk_drew ?_ | refine blk_alloc ?_ _)); exact BK408.out⟩, ⟨by repeat (first | (with_reducible first | exact HB.out | apply below_alloc | apply pw_below_drewN | apply below_drew1 | refine below_set ?_ GE408.out) | exact HB.out)⟩⟩
          · replace c9 := Bool.eq_false_iff.mpr c9
            subst c9
            have H1 : (if (rdOf ByteArray.empty t409 x4_1).toList = ([] : List UInt8) then (if x4_1 = 2 then (some false) else (if x4_1 > 5 then (some false) else (deckleref15_Right.l0 k1 t409 (wrap64 (x4_1 + 1)) a0_0 a0_1 a0_2 a0_3 a0_4 a0_5 l0_6))) else (some false)) = some r := by rw [if_neg (show ¬ (false = true) by decide)] at H; exact H
            clear H
            have H := H1
            clear H1
            by_cases c12 : (rdOf ByteArray.empty t409 x4_1).toList = ([] : List UInt8)
            · rw [if_pos c12] at H
              have c12b0 : ((rdOf ByteArray.empty t409 x4_1).toList == ([] : List UInt8)) = true := beq_iff_eq.mpr c12
              have c12b1 : ((rdOf ByteArray.empty t409 x4_1).toList != ([] : List UInt8)) = false := bne_eq_false_iff_eq.mpr c12
              clear c12
              by_cases c13 : x4_1 = 2
              · rw [if_pos c13] at H
                have c13b0 : (x4_1 == 2) = true := beq_iff_eq.mpr c13
                have c13b1 : (x4_1 != 2) = false := bne_eq_false_iff_eq.mpr c13
                clear c13
                obtain rfl := Option.some.inj H
                obtain ⟨Ao14, co14, eo14⟩ := Kd.R_slice HO_3.out
                subst eo14
                have p412 : 0 ≤ (x4_1 : Int) := of_decide_eq_true (by first | (with_reducible assumption) | assumption)
                have q412 : x4_1 < (t409.length : Int) := of_decide_eq_true (by first | (with_reducible assumption) | assumption)
                obtain ⟨ad412, e412, hx412_0⟩ := Kd.at_string (Kd.R_reads' HO_3.out).2.2 x4_1 p412 q412
                cases e412
                replace p412 := eq_true p412
                replace q412 := eq_true q412
                go_wp2_with (first | ((with_reducible refine gate_callee (f := 60) rfl ?_); refine goesL_ (some 18) rfl rfl Tryd.func60 (by kernel_rfl) rfl #[.string (rdOf ByteArray.empty t409 x4_1)] rfl (by (try simp only [List.map_toArray, List.map_cons, List.map_nil]); first | done | rfl | (simp only [List.length_drop, List.length_take]; rfl)) ?_; (with_reducible refine (deckleref08_Right.calls k1 (rdOf ByteArray.empty t409 x4_1) false _ A8.out).mono ?_); rintro e w15 ⟨rfl, hb⟩; refine ⟨_, rfl, ?_⟩; have n0_ := Aside0.mk (Kd.R_below (by (with_reducible repeat (first | apply Kd.R_alloc | apply Kd.R_drewN | apply Kd.R_drew)); exact HO_3.out) hb); have n1_ := Aside0.mk (blk_below (g := gb408) (o := .cells #[.string a0_0, .string a0_1, .string a0_2, .string a0_3, .string a0_4, .string a0_5, .slice A0_6 l0_6.length c0_6] 42 (0, 0)) (by (with_reducible repeat (first | refine blk_drewN ?_ _ | refine blk_drew ?_ | refine blk_alloc ?_ _)); exact BK408.out) hb); have n2_ := Aside0.mk (below_step (by repeat (first | (with_reducible first | exact HB.out | apply below_alloc | apply pw_below_drewN | apply below_drew1 | refine below_set ?_ GE408.out) | exact HB.out)) hb); clear HO_3; clear BK408; clear HB; have HO_3 := n0_; have BK408 := n1_; have HB := n2_; clear n0_ n1_ n2_; (try clear hb); (try clear hb2); (try clear hk); (try clear hi); have p414 : 0 ≤ (x4_1 : Int) := of_decide_eq_true (by first | (with_reducible assumption) | assumption); have q414 : x4_1 < (t409.length : Int) := of_decide_eq_true (by first | (with_reducible assumption) | assumption); obtain ⟨ad414, e414, hx414_0⟩ := Kd.at_string (Kd.R_reads' HO_3.out).2.2 x4_1 p414 q414; obtain rfl : ad412 = ad414 := (by injection e414); replace p414 := eq_true p414; replace q414 := eq_true q414))
                go_ret
                exact ⟨by first | rfl | (simp [errW_none, errW_some] <;> rfl) | (simp [*, errW_none, errW_some] <;> rfl), by repeat (first | (with_reducible first | exact HB.out | apply below_alloc | apply pw_below_drewN | apply below_drew1 | refine below_set ?_ GE408.out) | exact HB.out)⟩
              · rw [if_neg c13] at H
                have c13b0 : (x4_1 == 2) = false := beq_eq_false_iff_ne.mpr c13
                have c13b1 : (x4_1 != 2) = true := bne_iff_ne.mpr c13
                by_cases c16 : x4_1 > 5
                · rw [if_pos c16] at H
                  have c16b0 : decide (5 < x4_1) = true := decide_eq_true c16
                  clear c16
                  obtain rfl := Option.some.inj H
                  obtain ⟨Ao17, co17, eo17⟩ := Kd.R_slice HO_3.out
                  subst eo17
                  have p412 : 0 ≤ (x4_1 : Int) := of_decide_eq_true (by first | (with_reducible assumption) | assumption)
                  have q412 : x4_1 < (t409.length : Int) := of_decide_eq_true (by first | (with_reducible assumption) | assumption)
                  obtain ⟨ad412, e412, hx412_0⟩ := Kd.at_string (Kd.R_reads' HO_3.out).2.2 x4_1 p412 q412
                  cases e412
                  replace p412 := eq_true p412
                  replace q412 := eq_true q412
                  go_wp2_with (first | ((with_reducible refine gate_callee (f := 60) rfl ?_); refine goesL_ (some 18) rfl rfl Tryd.func60 (by kernel_rfl) rfl #[.string (rdOf ByteArray.empty t409 x4_1)] rfl (by (try simp only [List.map_toArray, List.map_cons, List.map_nil]); first | done | rfl | (simp only [List.length_drop, List.length_take]; rfl)) ?_; (with_reducible refine (deckleref08_Right.calls k1 (rdOf ByteArray.empty t409 x4_1) false _ A8.out).mono ?_); rintro e w18 ⟨rfl, hb⟩; refine ⟨_, rfl, ?_⟩; have n0_ := Aside0.mk (Kd.R_below (by (with_reducible repeat (first | apply Kd.R_alloc | apply Kd.R_drewN | apply Kd.R_drew)); exact HO_3.out) hb); have n1_ := Aside0.mk (blk_below (g := gb408) (o := .cells #[.string a0_0, .string a0_1, .string a0_2, .string a0_3, .string a0_4, .string a0_5, .slice A0_6 l0_6.length c0_6] 42 (0, 0)) (by (with_reducible repeat (first | refine blk_drewN ?_ _ | refine blk_drew ?_ | refine blk_alloc ?_ _)); exact BK408.out) hb); have n2_ := Aside0.mk (below_step (by repeat (first | (with_reducible first | exact HB.out | apply below_alloc | apply pw_below_drewN | apply below_drew1 | refine below_set ?_ GE408.out) | exact HB.out)) hb); clear HO_3; clear BK408; clear HB; have HO_3 := n0_; have BK408 := n1_; have HB := n2_; clear n0_ n1_ n2_; (try clear hb); (try clear hb2); (try clear hk); (try clear hi); have p414 : 0 ≤ (x4_1 : Int) := of_decide_eq_true (by first | (with_reducible assumption) | assumption); have q414 : x4_1 < (t409.length : Int) := of_decide_eq_true (by first | (with_reducible assumption) | assumption); obtain ⟨ad414, e414, hx414_0⟩ := Kd.at_string (Kd.R_reads' HO_3.out).2.2 x4_1 p414 q414; obtain rfl : ad412 = ad414 := (by injection e414); replace p414 := eq_true p414; replace q414 := eq_true q414))
                  go_ret
                  exact ⟨by first | rfl | (simp [errW_none, errW_some] <;> rfl) | (simp [*, errW_none, errW_some] <;> rfl), by repeat (first | (with_reducible first | exact HB.out | apply below_alloc | apply pw_below_drewN | apply below_drew1 | refine below_set ?_ GE408.out) | exact HB.out)⟩
                · rw [if_neg c16] at H
                  have c16b0 : decide (5 < x4_1) = false := decide_eq_false c16
                  clear c16
                  have H' := Aside0.mk H
                  clear H
                  obtain ⟨Ao19, co19, eo19⟩ := Kd.R_slice HO_3.out
                  subst eo19
                  have p412 : 0 ≤ (x4_1 : Int) := of_decide_eq_true (by first | (with_reducible assumption) | assumption)
                  have q412 : x4_1 < (t409.length : Int) := of_decide_eq_true (by first | (with_reducible assumption) | assumption)
                  obtain ⟨ad412, e412, hx412_0⟩ := Kd.at_string (Kd.R_reads' HO_3.out).2.2 x4_1 p412 q412
                  cases e412
                  replace p412 := eq_true p412
                  replace q412 := eq_true q412
                  go_wp2_with (first | ((with_reducible refine gate_callee (f := 60) rfl ?_); refine goesL_ (some 18) rfl rfl Tryd.func60 (by kernel_rfl) rfl #[.string (rdOf ByteArray.empty t409 x4_1)] rfl (by (try simp only [List.map_toArray, List.map_cons, List.map_nil]); first | done | rfl | (simp only [List.length_drop, List.length_take]; rfl)) ?_; (with_reducible refine (deckleref08_Right.calls k1 (rdOf ByteArray.empty t409 x4_1) false _ A8.out).mono ?_); rintro e w20 ⟨rfl, hb⟩; refine ⟨_, rfl, ?_⟩; have n0_ := Aside0.mk (Kd.R_below (by (with_reducible repeat (first | apply Kd.R_alloc | apply Kd.R_drewN | apply Kd.R_drew)); exact HO_3.out) hb); have n1_ := Aside0.mk (blk_below (g := gb408) (o := .cells #[.string a0_0, .string a0_1, .string a0_2, .string a0_3, .string a0_4, .string a0_5, .slice A0_6 l0_6.length c0_6] 42 (0, 0)) (by (with_reducible repeat (first | refine blk_drewN ?_ _ | refine blk_drew ?_ | refine blk_alloc ?_ _)); exact BK408.out) hb); have n2_ := Aside0.mk (below_step (by repeat (first | (with_reducible first | exact HB.out | apply below_alloc | apply pw_below_drewN | apply below_drew1 | refine below_set ?_ GE408.out) | exact HB.out)) hb); clear HO_3; clear BK408; clear HB; have HO_3 := n0_; have BK408 := n1_; have HB := n2_; clear n0_ n1_ n2_; (try clear hb); (try clear hb2); (try clear hk); (try clear hi); have p414 : 0 ≤ (x4_1 : Int) := of_decide_eq_true (by first | (with_reducible assumption) | assumption); have q414 : x4_1 < (t409.length : Int) := of_decide_eq_true (by first | (with_reducible assumption) | assumption); obtain ⟨ad414, e414, hx414_0⟩ := Kd.at_string (Kd.R_reads' HO_3.out).2.2 x4_1 p414 q414; obtain rfl : ad412 = ad414 := (by injection e414); replace p414 := eq_true p414; replace q414 := eq_true q414))
                  go_roundg k1
                  case measure => have := HK1.out; omega
                  case rel => exact ⟨(wrap64 (x4_1 + 1)), (by first | rfl | (simp; done) | (simp [*]; done)), H', ⟨by have := HK1.out; omega⟩, ⟨by (with_reducible repeat (first | apply Kd.R_alloc | apply Kd.R_drewN | apply Kd.R_drew)); exact HO_3.out⟩, ⟨by (with_reducible repeat (first | refine blk_drewN ?_ _ | refine blk_drew ?_ | refine blk_alloc ?_ _)); exact BK408.out⟩, ⟨by repeat (first | (with_reducible first | exact HB.out | apply below_alloc | apply pw_below_drewN | apply below_drew1 | refine below_set ?_ GE408.out) | exact HB.out)⟩⟩
            · rw [if_neg c12] at H
              have c12b0 : ((rdOf ByteArray.empty t409 x4_1).toList == ([] : List UInt8)) = false := beq_eq_false_iff_ne.mpr c12
              have c12b1 : ((rdOf ByteArray.empty t409 x4_1).toList != ([] : List UInt8)) = true := bne_iff_ne.mpr c12
              obtain rfl := Option.some.inj H
              obtain ⟨Ao21, co21, eo21⟩ := Kd.R_slice HO_3.out
              subst eo21
              have p412 : 0 ≤ (x4_1 : Int) := of_decide_eq_true (by first | (with_reducible assumption) | assumption)
              have q412 : x4_1 < (t409.length : Int) := of_decide_eq_true (by first | (with_reducible assumption) | assumption)
              obtain ⟨ad412, e412, hx412_0⟩ := Kd.at_string (Kd.R_reads' HO_3.out).2.2 x4_1 p412 q412
              cases e412
              replace p412 := eq_true p412
              replace q412 := eq_true q412
              go_wp2_with (first | ((with_reducible refine gate_callee (f := 60) rfl ?_); refine goesL_ (some 18) rfl rfl Tryd.func60 (by kernel_rfl) rfl #[.string (rdOf ByteArray.empty t409 x4_1)] rfl (by (try simp only [List.map_toArray, List.map_cons, List.map_nil]); first | done | rfl | (simp only [List.length_drop, List.length_take]; rfl)) ?_; (with_reducible refine (deckleref08_Right.calls k1 (rdOf ByteArray.empty t409 x4_1) false _ A8.out).mono ?_); rintro e w22 ⟨rfl, hb⟩; refine ⟨_, rfl, ?_⟩; have n0_ := Aside0.mk (Kd.R_below (by (with_reducible repeat (first | apply Kd.R_alloc | apply Kd.R_drewN | apply Kd.R_drew)); exact HO_3.out) hb); have n1_ := Aside0.mk (blk_below (g := gb408) (o := .cells #[.string a0_0, .string a0_1, .string a0_2, .string a0_3, .string a0_4, .string a0_5, .slice A0_6 l0_6.length c0_6] 42 (0, 0)) (by (with_reducible repeat (first | refine blk_drewN ?_ _ | refine blk_drew ?_ | refine blk_alloc ?_ _)); exact BK408.out) hb); have n2_ := Aside0.mk (below_step (by repeat (first | (with_reducible first | exact HB.out | apply below_alloc | apply pw_below_drewN | apply below_drew1 | refine below_set ?_ GE408.out) | exact HB.out)) hb); clear HO_3; clear BK408; clear HB; have HO_3 := n0_; have BK408 := n1_; have HB := n2_; clear n0_ n1_ n2_; (try clear hb); (try clear hb2); (try clear hk); (try clear hi); have p414 : 0 ≤ (x4_1 : Int) := of_decide_eq_true (by first | (with_reducible assumption) | assumption); have q414 : x4_1 < (t409.length : Int) := of_decide_eq_true (by first | (with_reducible assumption) | assumption); obtain ⟨ad414, e414, hx414_0⟩ := Kd.at_string (Kd.R_reads' HO_3.out).2.2 x4_1 p414 q414; obtain rfl : ad412 = ad414 := (by injection e414); replace p414 := eq_true p414; replace q414 := eq_true q414))
              go_ret
              exact ⟨by first | rfl | (simp [errW_none, errW_some] <;> rfl) | (simp [*, errW_none, errW_some] <;> rfl), by repeat (first | (with_reducible first | exact HB.out | apply below_alloc | apply pw_below_drewN | apply below_drew1 | refine below_set ?_ GE408.out) | exact HB.out)⟩
        · rw [if_neg c7] at H
          exact absurd H (by simp)
      · rw [if_neg c6] at H
        have c6b0 : decide (x4_1 < (t409.length : Int)) = false := decide_eq_false c6
        clear c6
        by_cases c23 : a0_3.toList = ([] : List UInt8)
        · rw [if_pos c23] at H
          have c23b0 : (a0_3.toList == ([] : List UInt8)) = true := beq_iff_eq.mpr c23
          have c23b1 : (a0_3.toList != ([] : List UInt8)) = false := bne_eq_false_iff_eq.mpr c23
          clear c23
          by_cases c24 : a0_1.toList = ([] : List UInt8)
          · rw [if_pos c24] at H
            have c24b0 : (a0_1.toList == ([] : List UInt8)) = true := beq_iff_eq.mpr c24
            have c24b1 : (a0_1.toList != ([] : List UInt8)) = false := bne_eq_false_iff_eq.mpr c24
            clear c24
            by_cases c25 : a0_4.toList = ([] : List UInt8)
            · rw [if_pos c25] at H
              have c25b0 : (a0_4.toList == ([] : List UInt8)) = true := beq_iff_eq.mpr c25
              have c25b1 : (a0_4.toList != ([] : List UInt8)) = false := bne_eq_false_iff_eq.mpr c25
              clear c25
              by_cases c26 : a0_5.toList = ([] : List UInt8)
              · rw [if_pos c26] at H
                have c26b0 : (a0_5.toList == ([] : List UInt8)) = true := beq_iff_eq.mpr c26
                have c26b1 : (a0_5.toList != ([] : List UInt8)) = false := bne_eq_false_iff_eq.mpr c26
                clear c26
                replace H := Option.bind_eq_some_iff.mp H
                obtain ⟨t415, A270, H⟩ := H
                replace H : (some t415) = some r := H
                have A27 := Aside0.mk A270
                clear A270
                obtain rfl := Option.some.inj H
                obtain ⟨Ao28, co28, eo28⟩ := Kd.R_slice HO_3.out
                subst eo28
                have hcz29_0 : wr.cell? ⟨gb408, 0, none⟩ = some (.string a0_0) := (blk_cell BK408.out 0).trans rfl
                have hcz29_1 : wr.cell? ⟨gb408, 1, none⟩ = some (.string a0_1) := (blk_cell BK408.out 1).trans rfl
                have hcz29_2 : wr.cell? ⟨gb408, 2, none⟩ = some (.string a0_2) := (blk_cell BK408.out 2).trans rfl
                have hcz29_3 : wr.cell? ⟨gb408, 3, none⟩ = some (.string a0_3) := (blk_cell BK408.out 3).trans rfl
                have hcz29_4 : wr.cell? ⟨gb408, 4, none⟩ = some (.string a0_4) := (blk_cell BK408.out 4).trans rfl
                have hcz29_5 : wr.cell? ⟨gb408, 5, none⟩ = some (.string a0_5) := (blk_cell BK408.out 5).trans rfl
                have hcz29_6 : wr.cell? ⟨gb408, 6, none⟩ = some (.slice A0_6 l0_6.length c0_6) := (blk_cell BK408.out 6).trans rfl
                have hfz29_0 := blk_frozen BK408.out 0
                have hfz29_1 := blk_frozen BK408.out 1
                have hfz29_2 := blk_frozen BK408.out 2
                have hfz29_3 := blk_frozen BK408.out 3
                have hfz29_4 := blk_frozen BK408.out 4
                have hfz29_5 := blk_frozen BK408.out 5
                have hfz29_6 := blk_frozen BK408.out 6
                go_wp2_with (first | ((with_reducible refine gate_callee (f := 61) rfl ?_); refine goesL_ (some 60) rfl rfl Tryd.func61 (by kernel_rfl) rfl #[.slice Ao28 t409.length co28] rfl (by (try simp only [List.map_toArray, List.map_cons, List.map_nil]); first | done | rfl | (simp only [List.length_drop, List.length_take]; rfl)) ?_; (with_reducible refine (deckleref08_Unlike.calls k1 _ _ t409 t415 _ ?side1 ?side2 A27.out).mono ?_); (case side1 => repeat (first | exact (Kd.R_reads' HO_3.out).2.2 | (with_reducible refine Kd.C_alloc ?_ _) | (with_reducible refine Kd.C_drewN ?_ _) | (with_reducible refine Kd.C_drew ?_))); (case side2 => exact (Kd.R_reads' HO_3.out).2.1); rintro e w' ⟨rfl, ⟨nd, rfl⟩⟩; refine ⟨_, rfl, ?_⟩))
                go_ret
                exact ⟨by first | rfl | (simp [errW_none, errW_some] <;> rfl) | (simp [*, errW_none, errW_some] <;> rfl), by repeat (first | (with_reducible first | exact HB.out | apply below_alloc | apply pw_below_drewN | apply below_drew1 | refine below_set ?_ GE408.out) | exact HB.out)⟩
              · rw [if_neg c26] at H
                have c26b0 : (a0_5.toList == ([] : List UInt8)) = false := beq_eq_false_iff_ne.mpr c26
                have c26b1 : (a0_5.toList != ([] : List UInt8)) = true := bne_iff_ne.mpr c26
                obtain rfl := Option.some.inj H
                obtain ⟨Ao30, co30, eo30⟩ := Kd.R_slice HO_3.out
                subst eo30
                have hcz31_0 : wr.cell? ⟨gb408, 0, none⟩ = some (.string a0_0) := (blk_cell BK408.out 0).trans rfl
                have hcz31_1 : wr.cell? ⟨gb408, 1, none⟩ = some (.string a0_1) := (blk_cell BK408.out 1).trans rfl
                have hcz31_2 : wr.cell? ⟨gb408, 2, none⟩ = some (.string a0_2) := (blk_cell BK408.out 2).trans rfl
                have hcz31_3 : wr.cell? ⟨gb408, 3, none⟩ = some (.string a0_3) := (blk_cell BK408.out 3).trans rfl
                have hcz31_4 : wr.cell? ⟨gb408, 4, none⟩ = some (.string a0_4) := (blk_cell BK408.out 4).trans rfl
                have hcz31_5 : wr.cell? ⟨gb408, 5, none⟩ = some (.string a0_5) := (blk_cell BK408.out 5).trans rfl
                have hcz31_6 : wr.cell? ⟨gb408, 6, none⟩ = some (.slice A0_6 l0_6.length c0_6) := (blk_cell BK408.out 6).trans rfl
                have hfz31_0 := blk_frozen BK408.out 0
                have hfz31_1 := blk_frozen BK408.out 1
                have hfz31_2 := blk_frozen BK408.out 2
                have hfz31_3 := blk_frozen BK408.out 3
                have hfz31_4 := blk_frozen BK408.out 4
                have hfz31_5 := blk_frozen BK408.out 5
                have hfz31_6 := blk_frozen BK408.out 6
                go_wp2
                go_ret
                exact ⟨by first | rfl | (simp [errW_none, errW_some] <;> rfl) | (simp [*, errW_none, errW_some] <;> rfl), by repeat (first | (with_reducible first | exact HB.out | apply below_alloc | apply pw_below_drewN | apply below_drew1 | refine below_set ?_ GE408.out) | exact HB.out)⟩
            · rw [if_neg c25] at H
              have c25b0 : (a0_4.toList == ([] : List UInt8)) = false := beq_eq_false_iff_ne.mpr c25
              have c25b1 : (a0_4.toList != ([] : List UInt8)) = true := bne_iff_ne.mpr c25
              obtain rfl := Option.some.inj H
              obtain ⟨Ao32, co32, eo32⟩ := Kd.R_slice HO_3.out
              subst eo32
              have hcz33_0 : wr.cell? ⟨gb408, 0, none⟩ = some (.string a0_0) := (blk_cell BK408.out 0).trans rfl
              have hcz33_1 : wr.cell? ⟨gb408, 1, none⟩ = some (.string a0_1) := (blk_cell BK408.out 1).trans rfl
              have hcz33_2 : wr.cell? ⟨gb408, 2, none⟩ = some (.string a0_2) := (blk_cell BK408.out 2).trans rfl
              have hcz33_3 : wr.cell? ⟨gb408, 3, none⟩ = some (.string a0_3) := (blk_cell BK408.out 3).trans rfl
              have hcz33_4 : wr.cell? ⟨gb408, 4, none⟩ = some (.string a0_4) := (blk_cell BK408.out 4).trans rfl
              have hcz33_5 : wr.cell? ⟨gb408, 5, none⟩ = some (.string a0_5) := (blk_cell BK408.out 5).trans rfl
              have hcz33_6 : wr.cell? ⟨gb408, 6, none⟩ = some (.slice A0_6 l0_6.length c0_6) := (blk_cell BK408.out 6).trans rfl
              have hfz33_0 := blk_frozen BK408.out 0
              have hfz33_1 := blk_frozen BK408.out 1
              have hfz33_2 := blk_frozen BK408.out 2
              have hfz33_3 := blk_frozen BK408.out 3
              have hfz33_4 := blk_frozen BK408.out 4
              have hfz33_5 := blk_frozen BK408.out 5
              have hfz33_6 := blk_frozen BK408.out 6
              go_wp2
              go_ret
              exact ⟨by first | rfl | (simp [errW_none, errW_some] <;> rfl) | (simp [*, errW_none, errW_some] <;> rfl), by repeat (first | (with_reducible first | exact HB.out | apply below_alloc | apply pw_below_drewN | apply below_drew1 | refine below_set ?_ GE408.out) | exact HB.out)⟩
          · rw [if_neg c24] at H
            have c24b0 : (a0_1.toList == ([] : List UInt8)) = false := beq_eq_false_iff_ne.mpr c24
            have c24b1 : (a0_1.toList != ([] : List UInt8)) = true := bne_iff_ne.mpr c24
            obtain rfl := Option.some.inj H
            obtain ⟨Ao34, co34, eo34⟩ := Kd.R_slice HO_3.out
            subst eo34
            have hcz35_0 : wr.cell? ⟨gb408, 0, none⟩ = some (.string a0_0) := (blk_cell BK408.out 0).trans rfl
            have hcz35_1 : wr.cell? ⟨gb408, 1, none⟩ = some (.string a0_1) := (blk_cell BK408.out 1).trans rfl
            have hcz35_2 : wr.cell? ⟨gb408, 2, none⟩ = some (.string a0_2) := (blk_cell BK408.out 2).trans rfl
            have hcz35_3 : wr.cell? ⟨gb408, 3, none⟩ = some (.string a0_3) := (blk_cell BK408.out 3).trans rfl
            have hcz35_4 : wr.cell? ⟨gb408, 4, none⟩ = some (.string a0_4) := (blk_cell BK408.out 4).trans rfl
            have hcz35_5 : wr.cell? ⟨gb408, 5, none⟩ = some (.string a0_5) := (blk_cell BK408.out 5).trans rfl
            have hcz35_6 : wr.cell? ⟨gb408, 6, none⟩ = some (.slice A0_6 l0_6.length c0_6) := (blk_cell BK408.out 6).trans rfl
            have hfz35_0 := blk_frozen BK408.out 0
            have hfz35_1 := blk_frozen BK408.out 1
            have hfz35_2 := blk_frozen BK408.out 2
            have hfz35_3 := blk_frozen BK408.out 3
            have hfz35_4 := blk_frozen BK408.out 4
            have hfz35_5 := blk_frozen BK408.out 5
            have hfz35_6 := blk_frozen BK408.out 6
            go_wp2
            go_ret
            exact ⟨by first | rfl | (simp [errW_none, errW_some] <;> rfl) | (simp [*, errW_none, errW_some] <;> rfl), by repeat (first | (with_reducible first | exact HB.out | apply below_alloc | apply pw_below_drewN | apply below_drew1 | refine below_set ?_ GE408.out) | exact HB.out)⟩
        · rw [if_neg c23] at H
          have c23b0 : (a0_3.toList == ([] : List UInt8)) = false := beq_eq_false_iff_ne.mpr c23
          have c23b1 : (a0_3.toList != ([] : List UInt8)) = true := bne_iff_ne.mpr c23
          by_cases c36 : a0_4.toList = ([] : List UInt8)
          · rw [if_pos c36] at H
            have c36b0 : (a0_4.toList == ([] : List UInt8)) = true := beq_iff_eq.mpr c36
            have c36b1 : (a0_4.toList != ([] : List UInt8)) = false := bne_eq_false_iff_eq.mpr c36
            clear c36
            by_cases c37 : a0_5.toList = ([] : List UInt8)
            · rw [if_pos c37] at H
              have c37b0 : (a0_5.toList == ([] : List UInt8)) = true := beq_iff_eq.mpr c37
              have c37b1 : (a0_5.toList != ([] : List UInt8)) = false := bne_eq_false_iff_eq.mpr c37
              clear c37
              replace H := Option.bind_eq_some_iff.mp H
              obtain ⟨t416, A380, H⟩ := H
              replace H : (some t416) = some r := H
              have A38 := Aside0.mk A380
              clear A380
              obtain rfl := Option.some.inj H
              obtain ⟨Ao39, co39, eo39⟩ := Kd.R_slice HO_3.out
              subst eo39
              have hcz40_0 : wr.cell? ⟨gb408, 0, none⟩ = some (.string a0_0) := (blk_cell BK408.out 0).trans rfl
              have hcz40_1 : wr.cell? ⟨gb408, 1, none⟩ = some (.string a0_1) := (blk_cell BK408.out 1).trans rfl
              have hcz40_2 : wr.cell? ⟨gb408, 2, none⟩ = some (.string a0_2) := (blk_cell BK408.out 2).trans rfl
              have hcz40_3 : wr.cell? ⟨gb408, 3, none⟩ = some (.string a0_3) := (blk_cell BK408.out 3).trans rfl
              have hcz40_4 : wr.cell? ⟨gb408, 4, none⟩ = some (.string a0_4) := (blk_cell BK408.out 4).trans rfl
              have hcz40_5 : wr.cell? ⟨gb408, 5, none⟩ = some (.string a0_5) := (blk_cell BK408.out 5).trans rfl
              have hcz40_6 : wr.cell? ⟨gb408, 6, none⟩ = some (.slice A0_6 l0_6.length c0_6) := (blk_cell BK408.out 6).trans rfl
              have hfz40_0 := blk_frozen BK408.out 0
              have hfz40_1 := blk_frozen BK408.out 1
              have hfz40_2 := blk_frozen BK408.out 2
              have hfz40_3 := blk_frozen BK408.out 3
              have hfz40_4 := blk_frozen BK408.out 4
              have hfz40_5 := blk_frozen BK408.out 5
              have hfz40_6 := blk_frozen BK408.out 6
              go_wp2_with (first | ((with_reducible refine gate_callee (f := 61) rfl ?_); refine goesL_ (some 60) rfl rfl Tryd.func61 (by kernel_rfl) rfl #[.slice Ao39 t409.length co39] rfl (by (try simp only [List.map_toArray, List.map_cons, List.map_nil]); first | done | rfl | (simp only [List.length_drop, List.length_take]; rfl)) ?_; (with_reducible refine (deckleref08_Unlike.calls k1 _ _ t409 t416 _ ?side1 ?side2 A38.out).mono ?_); (case side1 => repeat (first | exact (Kd.R_reads' HO_3.out).2.2 | (with_reducible refine Kd.C_alloc ?_ _) | (with_reducible refine Kd.C_drewN ?_ _) | (with_reducible refine Kd.C_drew ?_))); (case side2 => exact (Kd.R_reads' HO_3.out).2.1); rintro e w' ⟨rfl, ⟨nd, rfl⟩⟩; refine ⟨_, rfl, ?_⟩))
              go_ret
              exact ⟨by first | rfl | (simp [errW_none, errW_some] <;> rfl) | (simp [*, errW_none, errW_some] <;> rfl), by repeat (first | (with_reducible first | exact HB.out | apply below_alloc | apply pw_below_drewN | apply below_drew1 | refine below_set ?_ GE408.out) | exact HB.out)⟩
            · rw [if_neg c37] at H
              have c37b0 : (a0_5.toList == ([] : List UInt8)) = false := beq_eq_false_iff_ne.mpr c37
              have c37b1 : (a0_5.toList != ([] : List UInt8)) = true := bne_iff_ne.mpr c37
              obtain rfl := Option.some.inj H
              obtain ⟨Ao41, co41, eo41⟩ := Kd.R_slice HO_3.out
              subst eo41
              have hcz42_0 : wr.cell? ⟨gb408, 0, none⟩ = some (.string a0_0) := (blk_cell BK408.out 0).trans rfl
              have hcz42_1 : wr.cell? ⟨gb408, 1, none⟩ = some (.string a0_1) := (blk_cell BK408.out 1).trans rfl
              have hcz42_2 : wr.cell? ⟨gb408, 2, none⟩ = some (.string a0_2) := (blk_cell BK408.out 2).trans rfl
              have hcz42_3 : wr.cell? ⟨gb408, 3, none⟩ = some (.string a0_3) := (blk_cell BK408.out 3).trans rfl
              have hcz42_4 : wr.cell? ⟨gb408, 4, none⟩ = some (.string a0_4) := (blk_cell BK408.out 4).trans rfl
              have hcz42_5 : wr.cell? ⟨gb408, 5, none⟩ = some (.string a0_5) := (blk_cell BK408.out 5).trans rfl
              have hcz42_6 : wr.cell? ⟨gb408, 6, none⟩ = some (.slice A0_6 l0_6.length c0_6) := (blk_cell BK408.out 6).trans rfl
              have hfz42_0 := blk_frozen BK408.out 0
              have hfz42_1 := blk_frozen BK408.out 1
              have hfz42_2 := blk_frozen BK408.out 2
              have hfz42_3 := blk_frozen BK408.out 3
              have hfz42_4 := blk_frozen BK408.out 4
              have hfz42_5 := blk_frozen BK408.out 5
              have hfz42_6 := blk_frozen BK408.out 6
              go_wp2
              go_ret
              exact ⟨by first | rfl | (simp [errW_none, errW_some] <;> rfl) | (simp [*, errW_none, errW_some] <;> rfl), by repeat (first | (with_reducible first | exact HB.out | apply below_alloc | apply pw_below_drewN | apply below_drew1 | refine below_set ?_ GE408.out) | exact HB.out)⟩
          · rw [if_neg c36] at H
            have c36b0 : (a0_4.toList == ([] : List UInt8)) = false := beq_eq_false_iff_ne.mpr c36
            have c36b1 : (a0_4.toList != ([] : List UInt8)) = true := bne_iff_ne.mpr c36
            replace H := Option.bind_eq_some_iff.mp H
            obtain ⟨t417, A430, H⟩ := H
            replace H : (some t417) = some r := H
            have A43 := Aside0.mk A430
            clear A430
            obtain rfl := Option.some.inj H
            obtain ⟨Ao44, co44, eo44⟩ := Kd.R_slice HO_3.out
            subst eo44
            have hcz45_0 : wr.cell? ⟨gb408, 0, none⟩ = some (.string a0_0) := (blk_cell BK408.out 0).trans rfl
            have hcz45_1 : wr.cell? ⟨gb408, 1, none⟩ = some (.string a0_1) := (blk_cell BK408.out 1).trans rfl
            have hcz45_2 : wr.cell? ⟨gb408, 2, none⟩ = some (.string a0_2) := (blk_cell BK408.out 2).trans rfl
            have hcz45_3 : wr.cell? ⟨gb408, 3, none⟩ = some (.string a0_3) := (blk_cell BK408.out 3).trans rfl
            have hcz45_4 : wr.cell? ⟨gb408, 4, none⟩ = some (.string a0_4) := (blk_cell BK408.out 4).trans rfl
            have hcz45_5 : wr.cell? ⟨gb408, 5, none⟩ = some (.string a0_5) := (blk_cell BK408.out 5).trans rfl
            have hcz45_6 : wr.cell? ⟨gb408, 6, none⟩ = some (.slice A0_6 l0_6.length c0_6) := (blk_cell BK408.out 6).trans rfl
            have hfz45_0 := blk_frozen BK408.out 0
            have hfz45_1 := blk_frozen BK408.out 1
            have hfz45_2 := blk_frozen BK408.out 2
            have hfz45_3 := blk_frozen BK408.out 3
            have hfz45_4 := blk_frozen BK408.out 4
            have hfz45_5 := blk_frozen BK408.out 5
            have hfz45_6 := blk_frozen BK408.out 6
            go_wp2_with (first | ((with_reducible refine gate_callee (f := 61) rfl ?_); refine goesL_ (some 60) rfl rfl Tryd.func61 (by kernel_rfl) rfl #[.slice Ao44 t409.length co44] rfl (by (try simp only [List.map_toArray, List.map_cons, List.map_nil]); first | done | rfl | (simp only [List.length_drop, List.length_take]; rfl)) ?_; (with_reducible refine (deckleref08_Unlike.calls k1 _ _ t409 t417 _ ?side1 ?side2 A43.out).mono ?_); (case side1 => repeat (first | exact (Kd.R_reads' HO_3.out).2.2 | (with_reducible refine Kd.C_alloc ?_ _) | (with_reducible refine Kd.C_drewN ?_ _) | (with_reducible refine Kd.C_drew ?_))); (case side2 => exact (Kd.R_reads' HO_3.out).2.1); rintro e w' ⟨rfl, ⟨nd, rfl⟩⟩; refine ⟨_, rfl, ?_⟩))
            go_ret
            exact ⟨by first | rfl | (simp [errW_none, errW_some] <;> rfl) | (simp [*, errW_none, errW_some] <;> rfl), by repeat (first | (with_reducible first | exact HB.out | apply below_alloc | apply pw_below_drewN | apply below_drew1 | refine below_set ?_ GE408.out) | exact HB.out)⟩

end Go.Proofs.YtmddkjmcbddhiaaDoor.P
