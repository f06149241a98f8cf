/-
  P28
  P29
  The walk of decklelaw16.small: its cases come out right. Condition: what the package's variables hold. Written by small16.py.
-/
import Derived.Test.YtmddkjmcbddhiaaDoorP0M
import Derived.Test.YtmddkjmcbddhiaaDoorGLibM
import Derived.Test.YtmddkjmcbddhiaaDoorP27M
import Derived.Test.YtmddkjmcbddhiaaDoorGTakeM
import Derived.Test.YtmddkjmcbddhiaaDoorP20M
import Derived.Test.YtmddkjmcbddhiaaDoorP19M
section
-- written by wip/tools/print2.py (a program of this session over the kit's print); not trusted: Lean checks it
namespace Go.Proofs.YtmddkjmcbddhiaaDoor.P
open Go.RowKit Go.Proofs.YtmddkjmcbddhiaaDoorW.PrintWords Go.Proofs.YtmddkjmcbddhiaaDoorW.PrintLast Go.Proofs.YtmddkjmcbddhiaaDoorW.PrintMore
attribute [local go_sem] max2_int min2_int max_two min_two max_three min_three max_four min_four   -- for this text's walks alone
set_option linter.unusedVariables false
set_option linter.unusedSimpArgs false

/-! ### function_Join: function 30 -/
def function_Join.f (l0 : List ByteArray) : Option (ByteArray) := (strings_Join.f l0 (⟨#[10]⟩ : ByteArray)).bind fun t364 => (some t364)
set_option maxHeartbeats 8000000 in
set_option maxRecDepth 100000 in
theorem function_Join.calls (A0 : Option Addr) (c0 : Nat) (l0 : List ByteArray) (r : ByteArray) (w : World) (hr0 : Kd.C Kd.string w A0 l0.length l0) (hc0 : l0.length ≤ c0) (h : function_Join.f l0 = some r) :
    Calls Tryd.prog 30 #[.slice A0 l0.length c0] w fun e w' => e = .returned (.string r) ∧ Below w.heap.size w w' := by
  have HR0 := Aside0.mk hr0
  have HC0 := Aside0.mk hc0
  clear hr0 hc0
  have HB := Aside0.mk (Below.refl w.heap.size w)
  have H : ((strings_Join.f l0 (⟨#[10]⟩ : ByteArray)).bind fun t364 => (some t364)) = some r := h
  clear h
  replace H := Option.bind_eq_some_iff.mp H
  obtain ⟨t364, A20, H⟩ := H
  replace H : (some t364) = some r := H
  have A2 := Aside0.mk A20
  clear A20
  obtain rfl := Option.some.inj H
  go_enter Tryd.func30, Tryd.ntmps30
  go_wp2_with (first | ((with_reducible refine gate_callee (f := 62) rfl ?_); refine goesL_ (some 4) rfl rfl Tryd.func62 (by kernel_rfl) rfl #[.slice A0 l0.length c0, .string (⟨#[10]⟩ : ByteArray)] rfl (by (try simp only [List.map_toArray, List.map_cons, List.map_nil]); first | done | rfl | (simp only [List.length_drop, List.length_take]; rfl)) ?_; (with_reducible refine (strings_Join.calls _ _ l0 (⟨#[10]⟩ : ByteArray) t364 _ ?side1 ?side2 A2.out).mono ?_); (case side1 => repeat (first | exact HR0.out | (with_reducible refine Kd.C_alloc ?_ _) | (with_reducible refine Kd.C_drewN ?_ _) | (with_reducible refine Kd.C_drew ?_))); (case side2 => exact HC0.out); rintro e w3 ⟨rfl, hb⟩; refine ⟨_, rfl, ?_⟩; have n0_ := Aside0.mk (below_step (by repeat (first | (with_reducible first | exact HB.out | apply below_alloc | apply pw_below_drewN | apply below_drew1) | exact HB.out)) hb); clear HB; have HB := n0_; clear n0_; (try clear hb); (try clear hb2); (try clear hk); (try clear hi)))
  go_ret
  exact ⟨by first | rfl | (simp [errW_none, errW_some] <;> rfl) | (simp [*, errW_none, errW_some] <;> rfl), by repeat (first | (with_reducible first | exact HB.out | apply below_alloc | apply pw_below_drewN | apply below_drew1) | exact HB.out)⟩

-- NOT PRINTED: function 98 (strings_explode)

-- NOT PRINTED: function 87 (strings_genSplit)

end Go.Proofs.YtmddkjmcbddhiaaDoor.P
end
section
-- written by wip/tools/print2.py (a program of this session over the kit's print); not trusted: Lean checks it
namespace Go.Proofs.YtmddkjmcbddhiaaDoor.P
open Go.RowKit Go.Proofs.YtmddkjmcbddhiaaDoorW.PrintWords Go.Proofs.YtmddkjmcbddhiaaDoorW.PrintLast Go.Proofs.YtmddkjmcbddhiaaDoorW.PrintMore
attribute [local go_sem] max2_int min2_int max_two min_two max_three min_three max_four min_four   -- for this text's walks alone
set_option linter.unusedVariables false
set_option linter.unusedSimpArgs false

/-! ### function_Split: function 32 -/
def function_Split.f (a0 : ByteArray) : Option (List ByteArray) := (strings_Split.f a0 (⟨#[10]⟩ : ByteArray)).bind fun t369 => (some t369)
set_option maxHeartbeats 8000000 in
set_option maxRecDepth 100000 in
theorem function_Split.calls (a0 : ByteArray) (r : List ByteArray) (w : World) (hE_ : Env w) (h : function_Split.f a0 = some r) :
    Calls Tryd.prog 32 #[.string a0] w fun e w' => ∃ v0_ : Value, e = .returned (v0_) ∧ Kd.R Kd.string 9 w' w.heap.size (fun _ => True) v0_ r ∧ Below w.heap.size w w' := by
  have HB := Aside0.mk (Below.refl w.heap.size w)
  have HE_ := Aside0.mk hE_
  clear hE_
  have H : ((strings_Split.f a0 (⟨#[10]⟩ : ByteArray)).bind fun t369 => (some t369)) = some r := h
  clear h
  replace H := Option.bind_eq_some_iff.mp H
  obtain ⟨t369, A20, H⟩ := H
  replace H : (some t369) = some r := H
  have A2 := Aside0.mk A20
  clear A20
  obtain rfl := Option.some.inj H
  go_enter Tryd.func32, Tryd.ntmps32
  go_wp2_with (first | ((with_reducible refine gate_callee (f := 63) rfl ?_); refine goesL_ (some 4) rfl rfl Tryd.func63 (by kernel_rfl) rfl #[.string a0, .string (⟨#[10]⟩ : ByteArray)] rfl (by (try simp only [List.map_toArray, List.map_cons, List.map_nil]); first | done | rfl | (simp only [List.length_drop, List.length_take]; rfl)) ?_; (with_reducible refine (strings_Split.calls a0 (⟨#[10]⟩ : ByteArray) t369 _ ?side1 A2.out).mono ?_); (case side1 => exact HE_.out.below (by repeat (first | (with_reducible first | exact HB.out | apply below_alloc | apply pw_below_drewN | apply below_drew1) | exact HB.out))); rintro e w3 ⟨v370, rfl, ho0, hb⟩; refine ⟨_, rfl, ?_⟩; have n0_ := Aside0.mk (Kd.R_lower ho0 (below_size (by repeat (first | (with_reducible first | exact HB.out | apply below_alloc | apply pw_below_drewN | apply below_drew1) | exact HB.out)))); have n1_ := Aside0.mk (below_step (by repeat (first | (with_reducible first | exact HB.out | apply below_alloc | apply pw_below_drewN | apply below_drew1) | exact HB.out)) hb); clear HB; have HO371 := n0_; have HB := n1_; clear n0_ n1_; (try clear hb); (try clear hb2); (try clear hk); (try clear hi); (try clear ho0)))
  go_ret
  exact ⟨_, by first | rfl | (simp [errW_none, errW_some] <;> rfl) | (simp [*, errW_none, errW_some] <;> rfl), by (with_reducible repeat (first | apply Kd.R_alloc | apply Kd.R_drewN | apply Kd.R_drew)); exact HO371.out, by repeat (first | (with_reducible first | exact HB.out | apply below_alloc | apply pw_below_drewN | apply below_drew1) | exact HB.out)⟩

end Go.Proofs.YtmddkjmcbddhiaaDoor.P
end
section
namespace Go.Proofs.YtmddkjmcbddhiaaDoor.P
open Go.RowKit Go.Proofs.YtmddkjmcbddhiaaDoorW.PrintWords
set_option linter.unusedVariables false
set_option linter.unusedSimpArgs false
theorem at_world16 {P : Program} {f : FuncId} {args : Array Value} {w : World} {Q : Ending → World → Prop} (h : ∀ V, V = w → Calls P f args V Q) : Calls P f args w Q := h w rfl
theorem C_block16 {w : World} {g t : Nat} {fr : Nat × Nat} (l : List ByteArray) (h : w.heap[g]? = some (.cells (l.map Value.string).toArray t fr)) (hl : l.length ≤ maxLen) : Kd.C Kd.string w (some ⟨g, 0, none⟩) l.length l := by
  refine ⟨rfl, by unfold maxLen at hl; omega, fun _ => ⟨⟨g, 0, none⟩, rfl, fun j p hj => ⟨[.string p], rfl, rfl, fun i u hi => ?_⟩⟩⟩
  have hi0 : i = 0 := by
    have := (List.getElem?_eq_some_iff.1 hi).1
    simpa using this
  subst hi0
  have hu2 : u = .string p := by simpa using hi.symm
  subst hu2
  have e2 : j * Kd.string.sz + 0 = j := by show j * 1 + 0 = j; omega
  rw [e2]
  refine World.news_of_block h j (.string p) ?_
  simp [hj]
theorem C_none16 (w : World) : Kd.C Kd.string w none ([] : List ByteArray).length ([] : List ByteArray) := ⟨rfl, by simp, fun h => absurd h (by simp)⟩
theorem s16_r1 : function_Right.f 40 ([⟨#[82, 226, 134, 144, 70, 32, 88, 59, 73]⟩, ⟨#[76, 58, 82, 226, 134, 144, 88]⟩, ⟨#[226, 134, 146, 76]⟩] : List ByteArray) = some true := by kernel_rfl
theorem s16_n1 : function_Name.f 40 ([⟨#[82, 226, 134, 144, 70, 32, 88, 59, 73]⟩, ⟨#[76, 58, 82, 226, 134, 144, 88]⟩, ⟨#[226, 134, 146, 76]⟩] : List ByteArray) = some ⟨#[70]⟩ := by kernel_rfl
theorem s16_l1 : function_Labels.f 40 ([⟨#[82, 226, 134, 144, 70, 32, 88, 59, 73]⟩, ⟨#[76, 58, 82, 226, 134, 144, 88]⟩, ⟨#[226, 134, 146, 76]⟩] : List ByteArray) = some ([⟨#[76]⟩] : List ByteArray) := by kernel_rfl
theorem s16_e1 : deckleref16_Same.f 40 ([⟨#[76]⟩] : List ByteArray) ([⟨#[76]⟩] : List ByteArray) = some true := by kernel_rfl
theorem s16_r2 : function_Right.f 40 ([⟨#[70, 32, 88]⟩, ⟨#[88, 58, 88]⟩] : List ByteArray) = some false := by kernel_rfl
theorem s16_n2 : function_Name.f 40 ([⟨#[70, 32, 88]⟩, ⟨#[88, 58, 88]⟩] : List ByteArray) = some ⟨#[]⟩ := by kernel_rfl
theorem s16_r3 : function_Right.f 40 ([] : List ByteArray) = some false := by kernel_rfl
theorem s16_r4 : function_Right.f 40 ([⟨#[49]⟩] : List ByteArray) = some false := by kernel_rfl
theorem s16_r5 : function_Right.f 40 ([⟨#[70]⟩, ⟨#[97, 9, 98]⟩] : List ByteArray) = some false := by kernel_rfl
theorem s16_r6 : function_Right.f 40 ([⟨#[70]⟩, ⟨#[]⟩] : List ByteArray) = some true := by kernel_rfl
theorem s16_i0 : function_Line.f ⟨#[]⟩ = some true := by kernel_rfl
theorem s16_i1 : function_Line.f ⟨#[255]⟩ = some false := by kernel_rfl
theorem s16_i2 : function_Line.f ⟨#[194, 133]⟩ = some false := by kernel_rfl
theorem s16_i3 : function_Line.f ⟨#[194, 160]⟩ = some true := by kernel_rfl
theorem s16_j1 : function_Join.f ([⟨#[97]⟩, ⟨#[]⟩, ⟨#[98]⟩] : List ByteArray) = some ⟨#[97, 10, 10, 98]⟩ := by kernel_rfl
theorem s16_p1 : function_Split.f ⟨#[97, 10, 10, 98]⟩ = some ([⟨#[97]⟩, ⟨#[]⟩, ⟨#[98]⟩] : List ByteArray) := by kernel_rfl
theorem s16_e2 : deckleref16_Same.f 40 ([⟨#[97]⟩, ⟨#[]⟩, ⟨#[98]⟩] : List ByteArray) ([⟨#[97]⟩, ⟨#[]⟩, ⟨#[98]⟩] : List ByteArray) = some true := by kernel_rfl
theorem s16_p2 : function_Split.f ⟨#[]⟩ = some ([⟨#[]⟩] : List ByteArray) := by kernel_rfl
theorem s16_e3 : deckleref16_Same.f 40 ([⟨#[]⟩] : List ByteArray) ([⟨#[]⟩] : List ByteArray) = some true := by kernel_rfl
theorem s16_q1 : ((⟨#[70]⟩ : ByteArray).toList == ([70] : List UInt8)) = true := by rw [ByteArray.toList_eq]; rfl
theorem s16_q2 : ((⟨#[]⟩ : ByteArray).toList == ([] : List UInt8)) = true := by rw [ByteArray.toList_eq]; rfl
theorem s16_q3 : ((⟨#[97, 10, 10, 98]⟩ : ByteArray).toList == ([97, 10, 10, 98] : List UInt8)) = true := by rw [ByteArray.toList_eq]; rfl
theorem s16_q2e : (⟨#[]⟩ : ByteArray).toList.isEmpty = true := by rw [ByteArray.toList_eq]; rfl
def decklelaw16_small.f : Option Bool := some true
set_option maxHeartbeats 8000000 in
set_option maxRecDepth 100000 in
theorem decklelaw16_small.calls (r : Bool) (w : World) (hE_ : Env w) (h : decklelaw16_small.f = some r) :
    Calls Tryd.prog 19 #[] w fun e w' => e = .returned (.bool r) ∧ Below w.heap.size w w' := by
  obtain rfl : true = r := Option.some.inj h
  have hE := Aside0.mk hE_
  clear hE_ h
  go_enter Tryd.func19, Tryd.ntmps19
  go_wp2_with fail
  refine at_world16 fun V0 hV => ?_
  have hb1 : Below w.heap.size w V0 := by rw [hV]; exact ((Below.refl _ _).alloc (Nat.le_refl _) _).alloc (by simp) _
  have hF : Aside0 (V0.heap[w.heap.size]? = some (.cells ((([⟨#[82, 226, 134, 144, 70, 32, 88, 59, 73]⟩, ⟨#[76, 58, 82, 226, 134, 144, 88]⟩, ⟨#[226, 134, 146, 76]⟩] : List ByteArray)).map Value.string).toArray 9 (0, 0))) := ⟨by rw [hV]; exact (Below.heap_alloc _ _ _ (by simp)).trans (heap_alloc_new _ _)⟩
  have hG : Aside0 (V0.heap[w.heap.size + 1]? = some (.cells ((([⟨#[70, 32, 88]⟩, ⟨#[88, 58, 88]⟩] : List ByteArray)).map Value.string).toArray 9 (0, 0))) := ⟨by rw [hV]; exact heap_new_at _ _ _ (by simp)⟩
  have HB := Aside0.mk hb1
  clear hV hb1
  refine (function_Right.calls 40 _ _ ([⟨#[82, 226, 134, 144, 70, 32, 88, 59, 73]⟩, ⟨#[76, 58, 82, 226, 134, 144, 88]⟩, ⟨#[226, 134, 146, 76]⟩] : List ByteArray) true V0 (C_block16 ([⟨#[82, 226, 134, 144, 70, 32, 88, 59, 73]⟩, ⟨#[76, 58, 82, 226, 134, 144, 88]⟩, ⟨#[226, 134, 146, 76]⟩] : List ByteArray) hF.out (by decide)) (by decide) (hE.out.below HB.out) s16_r1).mono ?_
  rintro en W0 ⟨rfl, hb⟩
  replace hF := Aside0.mk (blk_below hF.out hb)
  replace hG := Aside0.mk (blk_below hG.out hb)
  replace HB := Aside0.mk (HB.out.trans (hb.mono HB.out.size))
  clear hb
  go_wp2_with fail
  refine at_world16 fun V1 hV => ?_
  have hb1 : Below W0.heap.size W0 V1 := by rw [hV]; first | exact Below.refl _ _ | exact (Below.refl _ _).alloc (Nat.le_refl _) _
  replace hF := Aside0.mk (blk_below hF.out hb1)
  replace hG := Aside0.mk (blk_below hG.out hb1)
  replace HB := Aside0.mk (HB.out.trans (hb1.mono HB.out.size))
  clear hV hb1
  refine (function_Name.calls 40 _ _ ([⟨#[82, 226, 134, 144, 70, 32, 88, 59, 73]⟩, ⟨#[76, 58, 82, 226, 134, 144, 88]⟩, ⟨#[226, 134, 146, 76]⟩] : List ByteArray) ⟨#[70]⟩ V1 (C_block16 ([⟨#[82, 226, 134, 144, 70, 32, 88, 59, 73]⟩, ⟨#[76, 58, 82, 226, 134, 144, 88]⟩, ⟨#[226, 134, 146, 76]⟩] : List ByteArray) hF.out (by decide)) (by decide) (hE.out.below HB.out) s16_n1).mono ?_
  rintro en W1 ⟨rfl, hb⟩
  replace hF := Aside0.mk (blk_below hF.out hb)
  replace hG := Aside0.mk (blk_below hG.out hb)
  replace HB := Aside0.mk (HB.out.trans (hb.mono HB.out.size))
  clear hb
  have hq := s16_q1
  go_wp2_with fail
  refine at_world16 fun V2 hV => ?_
  have hb1 : Below W1.heap.size W1 V2 := by rw [hV]; first | exact Below.refl _ _ | exact (Below.refl _ _).alloc (Nat.le_refl _) _
  replace hF := Aside0.mk (blk_below hF.out hb1)
  replace hG := Aside0.mk (blk_below hG.out hb1)
  replace HB := Aside0.mk (HB.out.trans (hb1.mono HB.out.size))
  clear hV hb1
  refine (function_Labels.calls 40 _ _ ([⟨#[82, 226, 134, 144, 70, 32, 88, 59, 73]⟩, ⟨#[76, 58, 82, 226, 134, 144, 88]⟩, ⟨#[226, 134, 146, 76]⟩] : List ByteArray) ([⟨#[76]⟩] : List ByteArray) V2 (C_block16 ([⟨#[82, 226, 134, 144, 70, 32, 88, 59, 73]⟩, ⟨#[76, 58, 82, 226, 134, 144, 88]⟩, ⟨#[226, 134, 146, 76]⟩] : List ByteArray) hF.out (by decide)) (by decide) s16_l1).mono ?_
  rintro en W2 ⟨v, rfl, hR, hb⟩
  replace hF := Aside0.mk (blk_below hF.out hb)
  replace hG := Aside0.mk (blk_below hG.out hb)
  replace HB := Aside0.mk (HB.out.trans (hb.mono HB.out.size))
  obtain ⟨Al, cl, rfl⟩ := Kd.R_slice hR
  have hr := Kd.R_reads' hR
  have HC := Aside0.mk hr.2.2
  have HL := Aside0.mk hr.2.1
  clear hr hR hq
  clear hb
  go_wp2_with fail
  refine at_world16 fun V3 hV => ?_
  have hb1 : Below W2.heap.size W2 V3 := by rw [hV]; first | exact Below.refl _ _ | exact (Below.refl _ _).alloc (Nat.le_refl _) _
  replace hF := Aside0.mk (blk_below hF.out hb1)
  replace hG := Aside0.mk (blk_below hG.out hb1)
  replace HB := Aside0.mk (HB.out.trans (hb1.mono HB.out.size))
  replace HC := Aside0.mk (Kd.C_below HC.out hb1)
  have hN : Aside0 (V3.heap[W2.heap.size]? = some (.cells ((([⟨#[76]⟩] : List ByteArray)).map Value.string).toArray 9 (0, 0))) := ⟨by rw [hV]; exact heap_alloc_new W2 _⟩
  clear hV hb1
  refine (deckleref16_Same.calls 40 _ _ ([⟨#[76]⟩] : List ByteArray) _ _ ([⟨#[76]⟩] : List ByteArray) true V3 HC.out HL.out (C_block16 ([⟨#[76]⟩] : List ByteArray) hN.out (by decide)) (by decide) s16_e1).mono ?_
  rintro en W3 ⟨rfl, hd⟩
  have hb := hd.below
  replace hF := Aside0.mk (blk_below hF.out hb)
  replace hG := Aside0.mk (blk_below hG.out hb)
  replace HB := Aside0.mk (HB.out.trans (hb.mono HB.out.size))
  clear hb hd HC HL hN
  go_wp2_with fail
  refine at_world16 fun V4 hV => ?_
  have hb1 : Below W3.heap.size W3 V4 := by rw [hV]; first | exact Below.refl _ _ | exact (Below.refl _ _).alloc (Nat.le_refl _) _
  replace hF := Aside0.mk (blk_below hF.out hb1)
  replace hG := Aside0.mk (blk_below hG.out hb1)
  replace HB := Aside0.mk (HB.out.trans (hb1.mono HB.out.size))
  clear hV hb1
  refine (function_Right.calls 40 _ _ ([⟨#[70, 32, 88]⟩, ⟨#[88, 58, 88]⟩] : List ByteArray) false V4 (C_block16 ([⟨#[70, 32, 88]⟩, ⟨#[88, 58, 88]⟩] : List ByteArray) hG.out (by decide)) (by decide) (hE.out.below HB.out) s16_r2).mono ?_
  rintro en W4 ⟨rfl, hb⟩
  replace hF := Aside0.mk (blk_below hF.out hb)
  replace hG := Aside0.mk (blk_below hG.out hb)
  replace HB := Aside0.mk (HB.out.trans (hb.mono HB.out.size))
  clear hb
  go_wp2_with fail
  refine at_world16 fun V5 hV => ?_
  have hb1 : Below W4.heap.size W4 V5 := by rw [hV]; first | exact Below.refl _ _ | exact (Below.refl _ _).alloc (Nat.le_refl _) _
  replace hF := Aside0.mk (blk_below hF.out hb1)
  replace hG := Aside0.mk (blk_below hG.out hb1)
  replace HB := Aside0.mk (HB.out.trans (hb1.mono HB.out.size))
  clear hV hb1
  refine (function_Name.calls 40 _ _ ([⟨#[70, 32, 88]⟩, ⟨#[88, 58, 88]⟩] : List ByteArray) ⟨#[]⟩ V5 (C_block16 ([⟨#[70, 32, 88]⟩, ⟨#[88, 58, 88]⟩] : List ByteArray) hG.out (by decide)) (by decide) (hE.out.below HB.out) s16_n2).mono ?_
  rintro en W5 ⟨rfl, hb⟩
  replace hF := Aside0.mk (blk_below hF.out hb)
  replace hG := Aside0.mk (blk_below hG.out hb)
  replace HB := Aside0.mk (HB.out.trans (hb.mono HB.out.size))
  clear hb
  have hq := s16_q2; have hq2 := s16_q2e
  go_wp2_with fail
  refine at_world16 fun V6 hV => ?_
  have hb1 : Below W5.heap.size W5 V6 := by rw [hV]; first | exact Below.refl _ _ | exact (Below.refl _ _).alloc (Nat.le_refl _) _
  replace hF := Aside0.mk (blk_below hF.out hb1)
  replace hG := Aside0.mk (blk_below hG.out hb1)
  replace HB := Aside0.mk (HB.out.trans (hb1.mono HB.out.size))
  clear hV hb1
  refine (function_Right.calls 40 _ _ ([] : List ByteArray) false V6 (C_none16 _) (by decide) (hE.out.below HB.out) s16_r3).mono ?_
  rintro en W6 ⟨rfl, hb⟩
  replace hF := Aside0.mk (blk_below hF.out hb)
  replace hG := Aside0.mk (blk_below hG.out hb)
  replace HB := Aside0.mk (HB.out.trans (hb.mono HB.out.size))
  clear hb hq hq2
  go_wp2_with fail
  refine at_world16 fun V7 hV => ?_
  have hb1 : Below W6.heap.size W6 V7 := by rw [hV]; first | exact Below.refl _ _ | exact (Below.refl _ _).alloc (Nat.le_refl _) _
  replace hF := Aside0.mk (blk_below hF.out hb1)
  replace hG := Aside0.mk (blk_below hG.out hb1)
  replace HB := Aside0.mk (HB.out.trans (hb1.mono HB.out.size))
  have hN : Aside0 (V7.heap[W6.heap.size]? = some (.cells ((([⟨#[49]⟩] : List ByteArray)).map Value.string).toArray 9 (0, 0))) := ⟨by rw [hV]; exact heap_alloc_new W6 _⟩
  clear hV hb1
  refine (function_Right.calls 40 _ _ ([⟨#[49]⟩] : List ByteArray) false V7 (C_block16 ([⟨#[49]⟩] : List ByteArray) hN.out (by decide)) (by decide) (hE.out.below HB.out) s16_r4).mono ?_
  rintro en W7 ⟨rfl, hb⟩
  replace hF := Aside0.mk (blk_below hF.out hb)
  replace hG := Aside0.mk (blk_below hG.out hb)
  replace HB := Aside0.mk (HB.out.trans (hb.mono HB.out.size))
  clear hb hN
  go_wp2_with fail
  refine at_world16 fun V8 hV => ?_
  have hb1 : Below W7.heap.size W7 V8 := by rw [hV]; first | exact Below.refl _ _ | exact (Below.refl _ _).alloc (Nat.le_refl _) _
  replace hF := Aside0.mk (blk_below hF.out hb1)
  replace hG := Aside0.mk (blk_below hG.out hb1)
  replace HB := Aside0.mk (HB.out.trans (hb1.mono HB.out.size))
  have hN : Aside0 (V8.heap[W7.heap.size]? = some (.cells ((([⟨#[70]⟩, ⟨#[97, 9, 98]⟩] : List ByteArray)).map Value.string).toArray 9 (0, 0))) := ⟨by rw [hV]; exact heap_alloc_new W7 _⟩
  clear hV hb1
  refine (function_Right.calls 40 _ _ ([⟨#[70]⟩, ⟨#[97, 9, 98]⟩] : List ByteArray) false V8 (C_block16 ([⟨#[70]⟩, ⟨#[97, 9, 98]⟩] : List ByteArray) hN.out (by decide)) (by decide) (hE.out.below HB.out) s16_r5).mono ?_
  rintro en W8 ⟨rfl, hb⟩
  replace hF := Aside0.mk (blk_below hF.out hb)
  replace hG := Aside0.mk (blk_below hG.out hb)
  replace HB := Aside0.mk (HB.out.trans (hb.mono HB.out.size))
  clear hb hN
  go_wp2_with fail
  refine at_world16 fun V9 hV => ?_
  have hb1 : Below W8.heap.size W8 V9 := by rw [hV]; first | exact Below.refl _ _ | exact (Below.refl _ _).alloc (Nat.le_refl _) _
  replace hF := Aside0.mk (blk_below hF.out hb1)
  replace hG := Aside0.mk (blk_below hG.out hb1)
  replace HB := Aside0.mk (HB.out.trans (hb1.mono HB.out.size))
  have hN : Aside0 (V9.heap[W8.heap.size]? = some (.cells ((([⟨#[70]⟩, ⟨#[]⟩] : List ByteArray)).map Value.string).toArray 9 (0, 0))) := ⟨by rw [hV]; exact heap_alloc_new W8 _⟩
  clear hV hb1
  refine (function_Right.calls 40 _ _ ([⟨#[70]⟩, ⟨#[]⟩] : List ByteArray) true V9 (C_block16 ([⟨#[70]⟩, ⟨#[]⟩] : List ByteArray) hN.out (by decide)) (by decide) (hE.out.below HB.out) s16_r6).mono ?_
  rintro en W9 ⟨rfl, hb⟩
  replace hF := Aside0.mk (blk_below hF.out hb)
  replace hG := Aside0.mk (blk_below hG.out hb)
  replace HB := Aside0.mk (HB.out.trans (hb.mono HB.out.size))
  clear hb hN
  go_wp2_with fail
  refine at_world16 fun V10 hV => ?_
  have hb1 : Below W9.heap.size W9 V10 := by rw [hV]; first | exact Below.refl _ _ | exact (Below.refl _ _).alloc (Nat.le_refl _) _
  replace hF := Aside0.mk (blk_below hF.out hb1)
  replace hG := Aside0.mk (blk_below hG.out hb1)
  replace HB := Aside0.mk (HB.out.trans (hb1.mono HB.out.size))
  clear hV hb1
  refine (function_Line.calls ⟨#[]⟩ true V10 (hE.out.below HB.out) s16_i0).mono ?_
  rintro en W10 ⟨rfl, hb⟩
  replace hF := Aside0.mk (blk_below hF.out hb)
  replace hG := Aside0.mk (blk_below hG.out hb)
  replace HB := Aside0.mk (HB.out.trans (hb.mono HB.out.size))
  clear hb
  go_wp2_with fail
  refine at_world16 fun V11 hV => ?_
  have hb1 : Below W10.heap.size W10 V11 := by rw [hV]; first | exact Below.refl _ _ | exact (Below.refl _ _).alloc (Nat.le_refl _) _
  replace hF := Aside0.mk (blk_below hF.out hb1)
  replace hG := Aside0.mk (blk_below hG.out hb1)
  replace HB := Aside0.mk (HB.out.trans (hb1.mono HB.out.size))
  clear hV hb1
  refine (function_Line.calls ⟨#[255]⟩ false V11 (hE.out.below HB.out) s16_i1).mono ?_
  rintro en W11 ⟨rfl, hb⟩
  replace hF := Aside0.mk (blk_below hF.out hb)
  replace hG := Aside0.mk (blk_below hG.out hb)
  replace HB := Aside0.mk (HB.out.trans (hb.mono HB.out.size))
  clear hb
  go_wp2_with fail
  refine at_world16 fun V12 hV => ?_
  have hb1 : Below W11.heap.size W11 V12 := by rw [hV]; first | exact Below.refl _ _ | exact (Below.refl _ _).alloc (Nat.le_refl _) _
  replace hF := Aside0.mk (blk_below hF.out hb1)
  replace hG := Aside0.mk (blk_below hG.out hb1)
  replace HB := Aside0.mk (HB.out.trans (hb1.mono HB.out.size))
  clear hV hb1
  refine (function_Line.calls ⟨#[194, 133]⟩ false V12 (hE.out.below HB.out) s16_i2).mono ?_
  rintro en W12 ⟨rfl, hb⟩
  replace hF := Aside0.mk (blk_below hF.out hb)
  replace hG := Aside0.mk (blk_below hG.out hb)
  replace HB := Aside0.mk (HB.out.trans (hb.mono HB.out.size))
  clear hb
  go_wp2_with fail
  refine at_world16 fun V13 hV => ?_
  have hb1 : Below W12.heap.size W12 V13 := by rw [hV]; first | exact Below.refl _ _ | exact (Below.refl _ _).alloc (Nat.le_refl _) _
  replace hF := Aside0.mk (blk_below hF.out hb1)
  replace hG := Aside0.mk (blk_below hG.out hb1)
  replace HB := Aside0.mk (HB.out.trans (hb1.mono HB.out.size))
  clear hV hb1
  refine (function_Line.calls ⟨#[194, 160]⟩ true V13 (hE.out.below HB.out) s16_i3).mono ?_
  rintro en W13 ⟨rfl, hb⟩
  replace hF := Aside0.mk (blk_below hF.out hb)
  replace hG := Aside0.mk (blk_below hG.out hb)
  replace HB := Aside0.mk (HB.out.trans (hb.mono HB.out.size))
  clear hb
  go_wp2_with fail
  refine at_world16 fun V14 hV => ?_
  have hb1 : Below W13.heap.size W13 V14 := by rw [hV]; first | exact Below.refl _ _ | exact (Below.refl _ _).alloc (Nat.le_refl _) _
  replace hF := Aside0.mk (blk_below hF.out hb1)
  replace hG := Aside0.mk (blk_below hG.out hb1)
  replace HB := Aside0.mk (HB.out.trans (hb1.mono HB.out.size))
  have hN : Aside0 (V14.heap[W13.heap.size]? = some (.cells ((([⟨#[97]⟩, ⟨#[]⟩, ⟨#[98]⟩] : List ByteArray)).map Value.string).toArray 9 (0, 0))) := ⟨by rw [hV]; exact heap_alloc_new W13 _⟩
  clear hV hb1
  refine (function_Join.calls _ _ ([⟨#[97]⟩, ⟨#[]⟩, ⟨#[98]⟩] : List ByteArray) ⟨#[97, 10, 10, 98]⟩ V14 (C_block16 ([⟨#[97]⟩, ⟨#[]⟩, ⟨#[98]⟩] : List ByteArray) hN.out (by decide)) (by decide) s16_j1).mono ?_
  rintro en W14 ⟨rfl, hb⟩
  replace hF := Aside0.mk (blk_below hF.out hb)
  replace hG := Aside0.mk (blk_below hG.out hb)
  replace HB := Aside0.mk (HB.out.trans (hb.mono HB.out.size))
  clear hb hN
  have hq := s16_q3
  go_wp2_with fail
  refine at_world16 fun V15 hV => ?_
  have hb1 : Below W14.heap.size W14 V15 := by rw [hV]; first | exact Below.refl _ _ | exact (Below.refl _ _).alloc (Nat.le_refl _) _
  replace hF := Aside0.mk (blk_below hF.out hb1)
  replace hG := Aside0.mk (blk_below hG.out hb1)
  replace HB := Aside0.mk (HB.out.trans (hb1.mono HB.out.size))
  clear hV hb1
  refine (function_Split.calls ⟨#[97, 10, 10, 98]⟩ ([⟨#[97]⟩, ⟨#[]⟩, ⟨#[98]⟩] : List ByteArray) V15 (hE.out.below HB.out) s16_p1).mono ?_
  rintro en W15 ⟨v, rfl, hR, hb⟩
  replace hF := Aside0.mk (blk_below hF.out hb)
  replace hG := Aside0.mk (blk_below hG.out hb)
  replace HB := Aside0.mk (HB.out.trans (hb.mono HB.out.size))
  obtain ⟨Al, cl, rfl⟩ := Kd.R_slice hR
  have hr := Kd.R_reads' hR
  have HC := Aside0.mk hr.2.2
  have HL := Aside0.mk hr.2.1
  clear hr hR hq
  clear hb
  go_wp2_with fail
  refine at_world16 fun V16 hV => ?_
  have hb1 : Below W15.heap.size W15 V16 := by rw [hV]; first | exact Below.refl _ _ | exact (Below.refl _ _).alloc (Nat.le_refl _) _
  replace hF := Aside0.mk (blk_below hF.out hb1)
  replace hG := Aside0.mk (blk_below hG.out hb1)
  replace HB := Aside0.mk (HB.out.trans (hb1.mono HB.out.size))
  replace HC := Aside0.mk (Kd.C_below HC.out hb1)
  have hN : Aside0 (V16.heap[W15.heap.size]? = some (.cells ((([⟨#[97]⟩, ⟨#[]⟩, ⟨#[98]⟩] : List ByteArray)).map Value.string).toArray 9 (0, 0))) := ⟨by rw [hV]; exact heap_alloc_new W15 _⟩
  clear hV hb1
  refine (deckleref16_Same.calls 40 _ _ ([⟨#[97]⟩, ⟨#[]⟩, ⟨#[98]⟩] : List ByteArray) _ _ ([⟨#[97]⟩, ⟨#[]⟩, ⟨#[98]⟩] : List ByteArray) true V16 HC.out HL.out (C_block16 ([⟨#[97]⟩, ⟨#[]⟩, ⟨#[98]⟩] : List ByteArray) hN.out (by decide)) (by decide) s16_e2).mono ?_
  rintro en W16 ⟨rfl, hd⟩
  have hb := hd.below
  replace hF := Aside0.mk (blk_below hF.out hb)
  replace hG := Aside0.mk (blk_below hG.out hb)
  replace HB := Aside0.mk (HB.out.trans (hb.mono HB.out.size))
  clear hb hd HC HL hN
  go_wp2_with fail
  refine at_world16 fun V17 hV => ?_
  have hb1 : Below W16.heap.size W16 V17 := by rw [hV]; first | exact Below.refl _ _ | exact (Below.refl _ _).alloc (Nat.le_refl _) _
  replace hF := Aside0.mk (blk_below hF.out hb1)
  replace hG := Aside0.mk (blk_below hG.out hb1)
  replace HB := Aside0.mk (HB.out.trans (hb1.mono HB.out.size))
  clear hV hb1
  refine (function_Split.calls ⟨#[]⟩ ([⟨#[]⟩] : List ByteArray) V17 (hE.out.below HB.out) s16_p2).mono ?_
  rintro en W17 ⟨v, rfl, hR, hb⟩
  replace hF := Aside0.mk (blk_below hF.out hb)
  replace hG := Aside0.mk (blk_below hG.out hb)
  replace HB := Aside0.mk (HB.out.trans (hb.mono HB.out.size))
  obtain ⟨Al, cl, rfl⟩ := Kd.R_slice hR
  have hr := Kd.R_reads' hR
  have HC := Aside0.mk hr.2.2
  have HL := Aside0.mk hr.2.1
  clear hr hR
  clear hb
  go_wp2_with fail
  refine at_world16 fun V18 hV => ?_
  have hb1 : Below W17.heap.size W17 V18 := by rw [hV]; first | exact Below.refl _ _ | exact (Below.refl _ _).alloc (Nat.le_refl _) _
  replace hF := Aside0.mk (blk_below hF.out hb1)
  replace hG := Aside0.mk (blk_below hG.out hb1)
  replace HB := Aside0.mk (HB.out.trans (hb1.mono HB.out.size))
  replace HC := Aside0.mk (Kd.C_below HC.out hb1)
  have hN : Aside0 (V18.heap[W17.heap.size]? = some (.cells ((([⟨#[]⟩] : List ByteArray)).map Value.string).toArray 9 (0, 0))) := ⟨by rw [hV]; exact heap_alloc_new W17 _⟩
  clear hV hb1
  refine (deckleref16_Same.calls 40 _ _ ([⟨#[]⟩] : List ByteArray) _ _ ([⟨#[]⟩] : List ByteArray) true V18 HC.out HL.out (C_block16 ([⟨#[]⟩] : List ByteArray) hN.out (by decide)) (by decide) s16_e3).mono ?_
  rintro en W18 ⟨rfl, hd⟩
  have hb := hd.below
  replace hF := Aside0.mk (blk_below hF.out hb)
  replace hG := Aside0.mk (blk_below hG.out hb)
  replace HB := Aside0.mk (HB.out.trans (hb.mono HB.out.size))
  clear hb hd HC HL hN
  go_wp2_with fail
  go_ret
  exact ⟨rfl, HB.out⟩
end Go.Proofs.YtmddkjmcbddhiaaDoor.P
end
