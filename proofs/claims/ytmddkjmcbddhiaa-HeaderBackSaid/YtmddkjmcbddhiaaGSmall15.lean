/-
  The walk of decklelaw15.small: its cases come out right. No condition. Written by small15.py.
-/
import Derived.Test.YtmddkjmcbddhiaaGParse
import Derived.Test.YtmddkjmcbddhiaaP12
namespace Go.Proofs.Ytmddkjmcbddhiaa.P
open Go.RowKit Go.Proofs.YtmddkjmcbddhiaaW.PrintWords Go.Proofs.Ytmddkjmcbddhiaa.Sp
set_option linter.unusedVariables false
set_option linter.unusedSimpArgs false

theorem at_world {P : Program} {f : FuncId} {args : Array Value} {w : World} {Q : Ending → World → Prop} (h : ∀ V, V = w → Calls P f args V Q) : Calls P f args w Q := h w rfl
theorem fresh_hdr {w V : World} {a b c d e f : ByteArray} {v : Value} (h : V = w.alloc (.cells #[.string a, .string b, .string c, .string d, .string e, .string f, v] 35)) : HBlk w.heap.size a b c d e f v V ∧ Below w.heap.size w V := by
  subst h
  exact ⟨heap_alloc_new w _, (Below.refl _ _).alloc (Nat.le_refl _) _⟩
/-- A header that is held in a block. -/
structure Hd (g : Nat) (a b c d e f : ByteArray) (A : Option Addr) (l : List ByteArray) (cp : Nat) (w : World) : Prop where
  b : HBlk g a b c d e f (.slice A l.length cp) w
  c : Kd.C Kd.string w A l.length l
  n : l.length ≤ cp
theorem Hd.below {g : Nat} {a b c d e f : ByteArray} {A : Option Addr} {l : List ByteArray} {cp : Nat} {w w1 : World} (h : Hd g a b c d e f A l cp w) (hb : Below w.heap.size w w1) : Hd g a b c d e f A l cp w1 :=
  ⟨blk_below h.b hb, Kd.C_below h.c hb, h.n⟩
theorem C_block {w : World} {g t : Nat} {fr : Nat × Nat} (l : List ByteArray) (h : w.heap[g]? = some (.cells (l.map Value.string).toArray t fr)) (hl : l.length ≤ maxLen) : Kd.C Kd.string w (some ⟨g, 0, none⟩) l.length l := by
  refine ⟨rfl, by unfold maxLen at hl; omega, fun _ => ⟨⟨g, 0, none⟩, rfl, fun j p hj => ⟨[.string p], rfl, rfl, fun i u hi => ?_⟩⟩⟩
  have hi0 : i = 0 := by
    have := (List.getElem?_eq_some_iff.1 hi).1
    simpa using this
  subst hi0
  have hu2 : u = .string p := by simpa using hi.symm
  subst hu2
  have e2 : j * Kd.string.sz + 0 = j := by show j * 1 + 0 = j; omega
  rw [e2]
  refine World.news_of_block h j (.string p) ?_
  simp [hj]

theorem small_p0 : header_Parse.f ⟨#[82, 226, 134, 144, 65, 32, 40, 70, 32, 69, 65, 67, 72, 41, 32, 66, 59, 73]⟩ = some (⟨#[82]⟩, ⟨#[65]⟩, ⟨#[69, 65, 67, 72]⟩, ⟨#[66]⟩, ⟨#[70]⟩, ⟨#[]⟩, ([⟨#[73]⟩] : List ByteArray), true) := by kernel_rfl
theorem small_p1 : header_Parse.f ⟨#[71, 79]⟩ = some (⟨#[]⟩, ⟨#[]⟩, ⟨#[71, 79]⟩, ⟨#[]⟩, ⟨#[]⟩, ⟨#[]⟩, ([] : List ByteArray), true) := by kernel_rfl
theorem small_p2 : header_Parse.f ⟨#[88, 32, 70, 32, 89]⟩ = some (⟨#[]⟩, ⟨#[88]⟩, ⟨#[70]⟩, ⟨#[89]⟩, ⟨#[]⟩, ⟨#[]⟩, ([] : List ByteArray), true) := by kernel_rfl
theorem small_p3 : header_Parse.f ⟨#[40, 70, 32, 79, 80, 32, 71, 41, 32, 89]⟩ = some (⟨#[]⟩, ⟨#[]⟩, ⟨#[79, 80]⟩, ⟨#[89]⟩, ⟨#[70]⟩, ⟨#[71]⟩, ([] : List ByteArray), true) := by kernel_rfl
theorem small_p4 : header_Parse.f ⟨#[70, 32, 89, 59, 65, 59, 66]⟩ = some (⟨#[]⟩, ⟨#[]⟩, ⟨#[70]⟩, ⟨#[89]⟩, ⟨#[]⟩, ⟨#[]⟩, ([⟨#[65]⟩, ⟨#[66]⟩] : List ByteArray), true) := by kernel_rfl
theorem small_p5 : header_Parse.f ⟨#[88, 32, 70, 32, 88]⟩ = some (⟨#[]⟩, ⟨#[]⟩, ⟨#[]⟩, ⟨#[]⟩, ⟨#[]⟩, ⟨#[]⟩, ([] : List ByteArray), false) := by kernel_rfl
theorem small_p6 : header_Parse.f ⟨#[88, 32, 40, 70, 32, 79, 80, 41]⟩ = some (⟨#[]⟩, ⟨#[]⟩, ⟨#[]⟩, ⟨#[]⟩, ⟨#[]⟩, ⟨#[]⟩, ([] : List ByteArray), false) := by kernel_rfl
theorem small_p7 : header_Parse.f ⟨#[]⟩ = some (⟨#[]⟩, ⟨#[]⟩, ⟨#[]⟩, ⟨#[]⟩, ⟨#[]⟩, ⟨#[]⟩, ([] : List ByteArray), false) := by kernel_rfl
theorem small_p8 : header_Parse.f ⟨#[70, 32, 32, 89]⟩ = some (⟨#[]⟩, ⟨#[]⟩, ⟨#[]⟩, ⟨#[]⟩, ⟨#[]⟩, ⟨#[]⟩, ([] : List ByteArray), false) := by kernel_rfl
theorem small_p9 : header_Parse.f ⟨#[70, 59]⟩ = some (⟨#[]⟩, ⟨#[]⟩, ⟨#[]⟩, ⟨#[]⟩, ⟨#[]⟩, ⟨#[]⟩, ([] : List ByteArray), false) := by kernel_rfl
theorem small_s0 : deckleref15_Same.f 30 ⟨#[82]⟩ ⟨#[65]⟩ ⟨#[69, 65, 67, 72]⟩ ⟨#[66]⟩ ⟨#[70]⟩ ⟨#[]⟩ ([⟨#[73]⟩] : List ByteArray) ⟨#[82]⟩ ⟨#[65]⟩ ⟨#[69, 65, 67, 72]⟩ ⟨#[66]⟩ ⟨#[70]⟩ ⟨#[]⟩ ([⟨#[73]⟩] : List ByteArray) = some true := by kernel_rfl
theorem small_s1 : deckleref15_Same.f 30 ⟨#[]⟩ ⟨#[]⟩ ⟨#[71, 79]⟩ ⟨#[]⟩ ⟨#[]⟩ ⟨#[]⟩ ([] : List ByteArray) ⟨#[]⟩ ⟨#[]⟩ ⟨#[71, 79]⟩ ⟨#[]⟩ ⟨#[]⟩ ⟨#[]⟩ ([] : List ByteArray) = some true := by kernel_rfl
theorem small_s2 : deckleref15_Same.f 30 ⟨#[]⟩ ⟨#[88]⟩ ⟨#[70]⟩ ⟨#[89]⟩ ⟨#[]⟩ ⟨#[]⟩ ([] : List ByteArray) ⟨#[]⟩ ⟨#[88]⟩ ⟨#[70]⟩ ⟨#[89]⟩ ⟨#[]⟩ ⟨#[]⟩ ([] : List ByteArray) = some true := by kernel_rfl
theorem small_s3 : deckleref15_Same.f 30 ⟨#[]⟩ ⟨#[]⟩ ⟨#[79, 80]⟩ ⟨#[89]⟩ ⟨#[70]⟩ ⟨#[71]⟩ ([] : List ByteArray) ⟨#[]⟩ ⟨#[]⟩ ⟨#[79, 80]⟩ ⟨#[89]⟩ ⟨#[70]⟩ ⟨#[71]⟩ ([] : List ByteArray) = some true := by kernel_rfl
theorem small_s4 : deckleref15_Same.f 30 ⟨#[]⟩ ⟨#[]⟩ ⟨#[70]⟩ ⟨#[89]⟩ ⟨#[]⟩ ⟨#[]⟩ ([⟨#[65]⟩, ⟨#[66]⟩] : List ByteArray) ⟨#[]⟩ ⟨#[]⟩ ⟨#[70]⟩ ⟨#[89]⟩ ⟨#[]⟩ ⟨#[]⟩ ([⟨#[65]⟩, ⟨#[66]⟩] : List ByteArray) = some true := by kernel_rfl
theorem small_t0 : header_Text.f ⟨#[82]⟩ ⟨#[65]⟩ ⟨#[69, 65, 67, 72]⟩ ⟨#[66]⟩ ⟨#[70]⟩ ⟨#[]⟩ ([⟨#[73]⟩] : List ByteArray) = some ⟨#[82, 226, 134, 144, 65, 32, 40, 70, 32, 69, 65, 67, 72, 41, 32, 66, 59, 73]⟩ := by kernel_rfl
theorem small_t1 : header_Text.f ⟨#[]⟩ ⟨#[88]⟩ ⟨#[70]⟩ ⟨#[]⟩ ⟨#[]⟩ ⟨#[]⟩ ([] : List ByteArray) = some ⟨#[]⟩ := by kernel_rfl
theorem small_r : header_Right.f 30 ⟨#[]⟩ ⟨#[]⟩ ⟨#[]⟩ ⟨#[]⟩ ⟨#[]⟩ ⟨#[]⟩ ([] : List ByteArray) = some false := by kernel_rfl
theorem C_none (w : World) : Kd.C Kd.string w none ([] : List ByteArray).length ([] : List ByteArray) := ⟨rfl, by simp, fun h => absurd h (by simp)⟩

def decklelaw15_small.f : Option Bool := some true
set_option maxHeartbeats 4000000 in
set_option maxRecDepth 100000 in
theorem decklelaw15_small.calls (r : Bool) (w : World) (h : decklelaw15_small.f = some r) :
    Calls Try.prog 22 #[] w fun en w' => en = .returned (.bool r) ∧ Below w.heap.size w w' := by
  obtain rfl : true = r := Option.some.inj h
  have hu := Try.underlying35
  go_enter Try.func22, Try.ntmps22
  go_wp2_with fail
  refine at_world fun V0 hV => ?_
  have HB : Aside0 (Below w.heap.size w V0) := ⟨by rw [hV]; exact Below.refl _ _⟩
  clear hV
  refine (header_Parse.calls _ _ _ _ _ _ _ _ _ V0 small_p0).mono ?_
  rintro en w0 ⟨v0, rfl, hR, hb⟩
  obtain ⟨A0, c0, rfl⟩ := Kd.R_slice hR
  have hr := Kd.R_reads' hR
  clear hR
  go_wp2_with fail
  refine at_world fun V1 hV => ?_
  have hf := fresh_hdr hV
  have hb2 := hb.trans (hf.2.mono hb.size)
  replace HB := Aside0.mk (HB.out.trans (hb2.mono HB.out.size))
  obtain ⟨g0, hg⟩ : ∃ g, g = w0.heap.size := ⟨_, rfl⟩
  rw [← hg] at hf ⊢
  have H0 : Aside0 (Hd g0 ⟨#[82]⟩ ⟨#[65]⟩ ⟨#[69, 65, 67, 72]⟩ ⟨#[66]⟩ ⟨#[70]⟩ ⟨#[]⟩ A0 ([⟨#[73]⟩] : List ByteArray) c0 V1) := ⟨hf.1, Kd.C_below hr.2.2 (by rw [hg] at hf; exact hf.2), hr.2.1⟩
  clear hf hb2 hr hb hg hV
  refine (header_Parse.calls _ _ _ _ _ _ _ _ _ V1 small_p1).mono ?_
  rintro en w1 ⟨v1, rfl, hR, hb⟩
  obtain ⟨A1, c1, rfl⟩ := Kd.R_slice hR
  have hr := Kd.R_reads' hR
  clear hR
  go_wp2_with fail
  refine at_world fun V2 hV => ?_
  have hf := fresh_hdr hV
  have hb2 := hb.trans (hf.2.mono hb.size)
  replace H0 := Aside0.mk (H0.out.below hb2)
  replace HB := Aside0.mk (HB.out.trans (hb2.mono HB.out.size))
  obtain ⟨g1, hg⟩ : ∃ g, g = w1.heap.size := ⟨_, rfl⟩
  rw [← hg] at hf ⊢
  have H1 : Aside0 (Hd g1 ⟨#[]⟩ ⟨#[]⟩ ⟨#[71, 79]⟩ ⟨#[]⟩ ⟨#[]⟩ ⟨#[]⟩ A1 ([] : List ByteArray) c1 V2) := ⟨hf.1, Kd.C_below hr.2.2 (by rw [hg] at hf; exact hf.2), hr.2.1⟩
  clear hf hb2 hr hb hg hV
  refine (header_Parse.calls _ _ _ _ _ _ _ _ _ V2 small_p2).mono ?_
  rintro en w2 ⟨v2, rfl, hR, hb⟩
  obtain ⟨A2, c2, rfl⟩ := Kd.R_slice hR
  have hr := Kd.R_reads' hR
  clear hR
  go_wp2_with fail
  refine at_world fun V3 hV => ?_
  have hf := fresh_hdr hV
  have hb2 := hb.trans (hf.2.mono hb.size)
  replace H0 := Aside0.mk (H0.out.below hb2)
  replace H1 := Aside0.mk (H1.out.below hb2)
  replace HB := Aside0.mk (HB.out.trans (hb2.mono HB.out.size))
  obtain ⟨g2, hg⟩ : ∃ g, g = w2.heap.size := ⟨_, rfl⟩
  rw [← hg] at hf ⊢
  have H2 : Aside0 (Hd g2 ⟨#[]⟩ ⟨#[88]⟩ ⟨#[70]⟩ ⟨#[89]⟩ ⟨#[]⟩ ⟨#[]⟩ A2 ([] : List ByteArray) c2 V3) := ⟨hf.1, Kd.C_below hr.2.2 (by rw [hg] at hf; exact hf.2), hr.2.1⟩
  clear hf hb2 hr hb hg hV
  refine (header_Parse.calls _ _ _ _ _ _ _ _ _ V3 small_p3).mono ?_
  rintro en w3 ⟨v3, rfl, hR, hb⟩
  obtain ⟨A3, c3, rfl⟩ := Kd.R_slice hR
  have hr := Kd.R_reads' hR
  clear hR
  go_wp2_with fail
  refine at_world fun V4 hV => ?_
  have hf := fresh_hdr hV
  have hb2 := hb.trans (hf.2.mono hb.size)
  replace H0 := Aside0.mk (H0.out.below hb2)
  replace H1 := Aside0.mk (H1.out.below hb2)
  replace H2 := Aside0.mk (H2.out.below hb2)
  replace HB := Aside0.mk (HB.out.trans (hb2.mono HB.out.size))
  obtain ⟨g3, hg⟩ : ∃ g, g = w3.heap.size := ⟨_, rfl⟩
  rw [← hg] at hf ⊢
  have H3 : Aside0 (Hd g3 ⟨#[]⟩ ⟨#[]⟩ ⟨#[79, 80]⟩ ⟨#[89]⟩ ⟨#[70]⟩ ⟨#[71]⟩ A3 ([] : List ByteArray) c3 V4) := ⟨hf.1, Kd.C_below hr.2.2 (by rw [hg] at hf; exact hf.2), hr.2.1⟩
  clear hf hb2 hr hb hg hV
  refine (header_Parse.calls _ _ _ _ _ _ _ _ _ V4 small_p4).mono ?_
  rintro en w4 ⟨v4, rfl, hR, hb⟩
  obtain ⟨A4, c4, rfl⟩ := Kd.R_slice hR
  have hr := Kd.R_reads' hR
  clear hR
  go_wp2_with fail
  refine at_world fun V5 hV => ?_
  have hf := fresh_hdr hV
  have hb2 := hb.trans (hf.2.mono hb.size)
  replace H0 := Aside0.mk (H0.out.below hb2)
  replace H1 := Aside0.mk (H1.out.below hb2)
  replace H2 := Aside0.mk (H2.out.below hb2)
  replace H3 := Aside0.mk (H3.out.below hb2)
  replace HB := Aside0.mk (HB.out.trans (hb2.mono HB.out.size))
  obtain ⟨g4, hg⟩ : ∃ g, g = w4.heap.size := ⟨_, rfl⟩
  rw [← hg] at hf ⊢
  have H4 : Aside0 (Hd g4 ⟨#[]⟩ ⟨#[]⟩ ⟨#[70]⟩ ⟨#[89]⟩ ⟨#[]⟩ ⟨#[]⟩ A4 ([⟨#[65]⟩, ⟨#[66]⟩] : List ByteArray) c4 V5) := ⟨hf.1, Kd.C_below hr.2.2 (by rw [hg] at hf; exact hf.2), hr.2.1⟩
  clear hf hb2 hr hb hg hV
  refine (header_Parse.calls _ _ _ _ _ _ _ _ _ V5 small_p5).mono ?_
  rintro en w5 ⟨v5, rfl, hR, hb⟩
  obtain ⟨A5, c5, rfl⟩ := Kd.R_slice hR
  have hr := Kd.R_reads' hR
  clear hR
  go_wp2_with fail
  refine at_world fun V6 hV => ?_
  have hf := fresh_hdr hV
  have hb2 := hb.trans (hf.2.mono hb.size)
  replace H0 := Aside0.mk (H0.out.below hb2)
  replace H1 := Aside0.mk (H1.out.below hb2)
  replace H2 := Aside0.mk (H2.out.below hb2)
  replace H3 := Aside0.mk (H3.out.below hb2)
  replace H4 := Aside0.mk (H4.out.below hb2)
  replace HB := Aside0.mk (HB.out.trans (hb2.mono HB.out.size))
  clear hf hb2 hr hb hV
  refine (header_Parse.calls _ _ _ _ _ _ _ _ _ V6 small_p6).mono ?_
  rintro en w6 ⟨v6, rfl, hR, hb⟩
  obtain ⟨A6, c6, rfl⟩ := Kd.R_slice hR
  have hr := Kd.R_reads' hR
  clear hR
  go_wp2_with fail
  refine at_world fun V7 hV => ?_
  have hf := fresh_hdr hV
  have hb2 := hb.trans (hf.2.mono hb.size)
  replace H0 := Aside0.mk (H0.out.below hb2)
  replace H1 := Aside0.mk (H1.out.below hb2)
  replace H2 := Aside0.mk (H2.out.below hb2)
  replace H3 := Aside0.mk (H3.out.below hb2)
  replace H4 := Aside0.mk (H4.out.below hb2)
  replace HB := Aside0.mk (HB.out.trans (hb2.mono HB.out.size))
  clear hf hb2 hr hb hV
  refine (header_Parse.calls _ _ _ _ _ _ _ _ _ V7 small_p7).mono ?_
  rintro en w7 ⟨v7, rfl, hR, hb⟩
  obtain ⟨A7, c7, rfl⟩ := Kd.R_slice hR
  have hr := Kd.R_reads' hR
  clear hR
  go_wp2_with fail
  refine at_world fun V8 hV => ?_
  have hf := fresh_hdr hV
  have hb2 := hb.trans (hf.2.mono hb.size)
  replace H0 := Aside0.mk (H0.out.below hb2)
  replace H1 := Aside0.mk (H1.out.below hb2)
  replace H2 := Aside0.mk (H2.out.below hb2)
  replace H3 := Aside0.mk (H3.out.below hb2)
  replace H4 := Aside0.mk (H4.out.below hb2)
  replace HB := Aside0.mk (HB.out.trans (hb2.mono HB.out.size))
  clear hf hb2 hr hb hV
  refine (header_Parse.calls _ _ _ _ _ _ _ _ _ V8 small_p8).mono ?_
  rintro en w8 ⟨v8, rfl, hR, hb⟩
  obtain ⟨A8, c8, rfl⟩ := Kd.R_slice hR
  have hr := Kd.R_reads' hR
  clear hR
  go_wp2_with fail
  refine at_world fun V9 hV => ?_
  have hf := fresh_hdr hV
  have hb2 := hb.trans (hf.2.mono hb.size)
  replace H0 := Aside0.mk (H0.out.below hb2)
  replace H1 := Aside0.mk (H1.out.below hb2)
  replace H2 := Aside0.mk (H2.out.below hb2)
  replace H3 := Aside0.mk (H3.out.below hb2)
  replace H4 := Aside0.mk (H4.out.below hb2)
  replace HB := Aside0.mk (HB.out.trans (hb2.mono HB.out.size))
  clear hf hb2 hr hb hV
  refine (header_Parse.calls _ _ _ _ _ _ _ _ _ V9 small_p9).mono ?_
  rintro en w9 ⟨v9, rfl, hR, hb⟩
  obtain ⟨A9, c9, rfl⟩ := Kd.R_slice hR
  have hr := Kd.R_reads' hR
  clear hR
  clear hr
  replace H0 := Aside0.mk (H0.out.below hb)
  replace H1 := Aside0.mk (H1.out.below hb)
  replace H2 := Aside0.mk (H2.out.below hb)
  replace H3 := Aside0.mk (H3.out.below hb)
  replace H4 := Aside0.mk (H4.out.below hb)
  replace HB := Aside0.mk (HB.out.trans (hb.mono HB.out.size))
  clear hb
  have hx0 := (blk_cell H0.out.b 0).trans rfl
  have hy0 := fun o : Obj => (World.cell?_alloc_some w9 ⟨g0, 0, none⟩ o (by rw [hx0]; rfl)).trans hx0
  have hx1 := (blk_cell H0.out.b 1).trans rfl
  have hy1 := fun o : Obj => (World.cell?_alloc_some w9 ⟨g0, 1, none⟩ o (by rw [hx1]; rfl)).trans hx1
  have hx2 := (blk_cell H0.out.b 2).trans rfl
  have hy2 := fun o : Obj => (World.cell?_alloc_some w9 ⟨g0, 2, none⟩ o (by rw [hx2]; rfl)).trans hx2
  have hx3 := (blk_cell H0.out.b 3).trans rfl
  have hy3 := fun o : Obj => (World.cell?_alloc_some w9 ⟨g0, 3, none⟩ o (by rw [hx3]; rfl)).trans hx3
  have hx4 := (blk_cell H0.out.b 4).trans rfl
  have hy4 := fun o : Obj => (World.cell?_alloc_some w9 ⟨g0, 4, none⟩ o (by rw [hx4]; rfl)).trans hx4
  have hx5 := (blk_cell H0.out.b 5).trans rfl
  have hy5 := fun o : Obj => (World.cell?_alloc_some w9 ⟨g0, 5, none⟩ o (by rw [hx5]; rfl)).trans hx5
  have hx6 := (blk_cell H0.out.b 6).trans rfl
  have hy6 := fun o : Obj => (World.cell?_alloc_some w9 ⟨g0, 6, none⟩ o (by rw [hx6]; rfl)).trans hx6
  go_wp2_with fail
  clear hx0 hx1 hx2 hx3 hx4 hx5 hx6 hy0 hy1 hy2 hy3 hy4 hy5 hy6
  refine at_world fun V20 hV => ?_
  have hb2 : Below w9.heap.size w9 V20 := by rw [hV]; exact ((Below.refl _ _).alloc (Nat.le_refl _) _).alloc (by simp) _
  have hL := C_block (t := 9) (fr := (0, 0)) (g := w9.heap.size + 1) (w := V20) ([⟨#[73]⟩] : List ByteArray) (by rw [hV]; exact heap_new_at _ _ _ (by simp)) (by decide)
  replace H0 := Aside0.mk (H0.out.below hb2)
  replace H1 := Aside0.mk (H1.out.below hb2)
  replace H2 := Aside0.mk (H2.out.below hb2)
  replace H3 := Aside0.mk (H3.out.below hb2)
  replace H4 := Aside0.mk (H4.out.below hb2)
  replace HB := Aside0.mk (HB.out.trans (hb2.mono HB.out.size))
  clear hV hb2
  refine (deckleref15_Same.calls 30 _ _ _ _ _ _ _ _ ([⟨#[73]⟩] : List ByteArray) _ _ _ _ _ _ _ _ ([⟨#[73]⟩] : List ByteArray) true V20 H0.out.c H0.out.n hL (by decide) small_s0).mono ?_
  rintro en w30 ⟨rfl, hb⟩
  clear hL
  replace H0 := Aside0.mk (H0.out.below hb)
  replace H1 := Aside0.mk (H1.out.below hb)
  replace H2 := Aside0.mk (H2.out.below hb)
  replace H3 := Aside0.mk (H3.out.below hb)
  replace H4 := Aside0.mk (H4.out.below hb)
  replace HB := Aside0.mk (HB.out.trans (hb.mono HB.out.size))
  clear hb
  have hx0 := (blk_cell H1.out.b 0).trans rfl
  have hx1 := (blk_cell H1.out.b 1).trans rfl
  have hx2 := (blk_cell H1.out.b 2).trans rfl
  have hx3 := (blk_cell H1.out.b 3).trans rfl
  have hx4 := (blk_cell H1.out.b 4).trans rfl
  have hx5 := (blk_cell H1.out.b 5).trans rfl
  have hx6 := (blk_cell H1.out.b 6).trans rfl
  go_wp2_with fail
  clear hx0 hx1 hx2 hx3 hx4 hx5 hx6
  refine at_world fun V21 hV => ?_
  have hb2 : Below w30.heap.size w30 V21 := by rw [hV]; exact Below.refl _ _
  have hL := C_none V21
  replace H0 := Aside0.mk (H0.out.below hb2)
  replace H1 := Aside0.mk (H1.out.below hb2)
  replace H2 := Aside0.mk (H2.out.below hb2)
  replace H3 := Aside0.mk (H3.out.below hb2)
  replace H4 := Aside0.mk (H4.out.below hb2)
  replace HB := Aside0.mk (HB.out.trans (hb2.mono HB.out.size))
  clear hV hb2
  refine (deckleref15_Same.calls 30 _ _ _ _ _ _ _ _ ([] : List ByteArray) _ _ _ _ _ _ _ _ ([] : List ByteArray) true V21 H1.out.c H1.out.n hL (by decide) small_s1).mono ?_
  rintro en w31 ⟨rfl, hb⟩
  clear hL
  replace H0 := Aside0.mk (H0.out.below hb)
  replace H1 := Aside0.mk (H1.out.below hb)
  replace H2 := Aside0.mk (H2.out.below hb)
  replace H3 := Aside0.mk (H3.out.below hb)
  replace H4 := Aside0.mk (H4.out.below hb)
  replace HB := Aside0.mk (HB.out.trans (hb.mono HB.out.size))
  clear hb
  have hx0 := (blk_cell H2.out.b 0).trans rfl
  have hx1 := (blk_cell H2.out.b 1).trans rfl
  have hx2 := (blk_cell H2.out.b 2).trans rfl
  have hx3 := (blk_cell H2.out.b 3).trans rfl
  have hx4 := (blk_cell H2.out.b 4).trans rfl
  have hx5 := (blk_cell H2.out.b 5).trans rfl
  have hx6 := (blk_cell H2.out.b 6).trans rfl
  go_wp2_with fail
  clear hx0 hx1 hx2 hx3 hx4 hx5 hx6
  refine at_world fun V22 hV => ?_
  have hb2 : Below w31.heap.size w31 V22 := by rw [hV]; exact Below.refl _ _
  have hL := C_none V22
  replace H0 := Aside0.mk (H0.out.below hb2)
  replace H1 := Aside0.mk (H1.out.below hb2)
  replace H2 := Aside0.mk (H2.out.below hb2)
  replace H3 := Aside0.mk (H3.out.below hb2)
  replace H4 := Aside0.mk (H4.out.below hb2)
  replace HB := Aside0.mk (HB.out.trans (hb2.mono HB.out.size))
  clear hV hb2
  refine (deckleref15_Same.calls 30 _ _ _ _ _ _ _ _ ([] : List ByteArray) _ _ _ _ _ _ _ _ ([] : List ByteArray) true V22 H2.out.c H2.out.n hL (by decide) small_s2).mono ?_
  rintro en w32 ⟨rfl, hb⟩
  clear hL
  replace H0 := Aside0.mk (H0.out.below hb)
  replace H1 := Aside0.mk (H1.out.below hb)
  replace H2 := Aside0.mk (H2.out.below hb)
  replace H3 := Aside0.mk (H3.out.below hb)
  replace H4 := Aside0.mk (H4.out.below hb)
  replace HB := Aside0.mk (HB.out.trans (hb.mono HB.out.size))
  clear hb
  have hx0 := (blk_cell H3.out.b 0).trans rfl
  have hx1 := (blk_cell H3.out.b 1).trans rfl
  have hx2 := (blk_cell H3.out.b 2).trans rfl
  have hx3 := (blk_cell H3.out.b 3).trans rfl
  have hx4 := (blk_cell H3.out.b 4).trans rfl
  have hx5 := (blk_cell H3.out.b 5).trans rfl
  have hx6 := (blk_cell H3.out.b 6).trans rfl
  go_wp2_with fail
  clear hx0 hx1 hx2 hx3 hx4 hx5 hx6
  refine at_world fun V23 hV => ?_
  have hb2 : Below w32.heap.size w32 V23 := by rw [hV]; exact Below.refl _ _
  have hL := C_none V23
  replace H0 := Aside0.mk (H0.out.below hb2)
  replace H1 := Aside0.mk (H1.out.below hb2)
  replace H2 := Aside0.mk (H2.out.below hb2)
  replace H3 := Aside0.mk (H3.out.below hb2)
  replace H4 := Aside0.mk (H4.out.below hb2)
  replace HB := Aside0.mk (HB.out.trans (hb2.mono HB.out.size))
  clear hV hb2
  refine (deckleref15_Same.calls 30 _ _ _ _ _ _ _ _ ([] : List ByteArray) _ _ _ _ _ _ _ _ ([] : List ByteArray) true V23 H3.out.c H3.out.n hL (by decide) small_s3).mono ?_
  rintro en w33 ⟨rfl, hb⟩
  clear hL
  replace H0 := Aside0.mk (H0.out.below hb)
  replace H1 := Aside0.mk (H1.out.below hb)
  replace H2 := Aside0.mk (H2.out.below hb)
  replace H3 := Aside0.mk (H3.out.below hb)
  replace H4 := Aside0.mk (H4.out.below hb)
  replace HB := Aside0.mk (HB.out.trans (hb.mono HB.out.size))
  clear hb
  have hx0 := (blk_cell H4.out.b 0).trans rfl
  have hx1 := (blk_cell H4.out.b 1).trans rfl
  have hx2 := (blk_cell H4.out.b 2).trans rfl
  have hx3 := (blk_cell H4.out.b 3).trans rfl
  have hx4 := (blk_cell H4.out.b 4).trans rfl
  have hx5 := (blk_cell H4.out.b 5).trans rfl
  have hx6 := (blk_cell H4.out.b 6).trans rfl
  go_wp2_with fail
  clear hx0 hx1 hx2 hx3 hx4 hx5 hx6
  refine at_world fun V24 hV => ?_
  have hb2 : Below w33.heap.size w33 V24 := by rw [hV]; exact (Below.refl _ _).alloc (Nat.le_refl _) _
  have hL := C_block (t := 9) (fr := (0, 0)) (g := w33.heap.size) (w := V24) ([⟨#[65]⟩, ⟨#[66]⟩] : List ByteArray) (by rw [hV]; exact heap_new_at _ _ _ (by simp)) (by decide)
  replace H0 := Aside0.mk (H0.out.below hb2)
  replace H1 := Aside0.mk (H1.out.below hb2)
  replace H2 := Aside0.mk (H2.out.below hb2)
  replace H3 := Aside0.mk (H3.out.below hb2)
  replace H4 := Aside0.mk (H4.out.below hb2)
  replace HB := Aside0.mk (HB.out.trans (hb2.mono HB.out.size))
  clear hV hb2
  refine (deckleref15_Same.calls 30 _ _ _ _ _ _ _ _ ([⟨#[65]⟩, ⟨#[66]⟩] : List ByteArray) _ _ _ _ _ _ _ _ ([⟨#[65]⟩, ⟨#[66]⟩] : List ByteArray) true V24 H4.out.c H4.out.n hL (by decide) small_s4).mono ?_
  rintro en w34 ⟨rfl, hb⟩
  clear hL
  replace H0 := Aside0.mk (H0.out.below hb)
  replace H1 := Aside0.mk (H1.out.below hb)
  replace H2 := Aside0.mk (H2.out.below hb)
  replace H3 := Aside0.mk (H3.out.below hb)
  replace H4 := Aside0.mk (H4.out.below hb)
  replace HB := Aside0.mk (HB.out.trans (hb.mono HB.out.size))
  clear hb
  have hx0 := (blk_cell H0.out.b 0).trans rfl
  have hx1 := (blk_cell H0.out.b 1).trans rfl
  have hx2 := (blk_cell H0.out.b 2).trans rfl
  have hx3 := (blk_cell H0.out.b 3).trans rfl
  have hx4 := (blk_cell H0.out.b 4).trans rfl
  have hx5 := (blk_cell H0.out.b 5).trans rfl
  have hx6 := (blk_cell H0.out.b 6).trans rfl
  go_wp2_with fail
  clear hx0 hx1 hx2 hx3 hx4 hx5 hx6
  refine (header_Text.calls _ _ _ _ _ _ _ _ ([⟨#[73]⟩] : List ByteArray) _ _ H0.out.c H0.out.n small_t0).mono ?_
  rintro en w40 ⟨rfl, hb⟩
  replace HB := Aside0.mk (HB.out.trans (hb.mono HB.out.size))
  clear hb
  go_wp2_with fail
  refine (header_Text.calls _ _ _ _ _ _ _ _ ([] : List ByteArray) _ _ (C_none _) (Nat.le_refl _) small_t1).mono ?_
  rintro en w41 ⟨rfl, hb⟩
  replace HB := Aside0.mk (HB.out.trans (hb.mono HB.out.size))
  clear hb
  go_wp2_with fail
  refine (header_Right.calls 30 _ _ _ _ _ _ _ _ ([] : List ByteArray) false _ (C_none _) (Nat.le_refl _) small_r).mono ?_
  rintro en w42 ⟨rfl, hb⟩
  replace HB := Aside0.mk (HB.out.trans (hb.mono HB.out.size))
  clear hb
  go_wp2_with fail
  go_ret
  exact ⟨rfl, HB.out⟩
end Go.Proofs.Ytmddkjmcbddhiaa.P
