/-
  The walks of the parser's methods word, skip and operator: what is taken off the text that is left, and what is put into the header. No condition but sizes that fit an int.
-/
import Derived.Test.YtmddkjmcbddhiaaDoorLw8M
import Derived.Test.YtmddkjmcbddhiaaDoorHdM
namespace Go.Proofs.YtmddkjmcbddhiaaDoor.P
open Go.RowKit Go.Proofs.YtmddkjmcbddhiaaDoorW.PrintWords Go.Proofs.YtmddkjmcbddhiaaDoor.Sp
set_option linter.unusedVariables false
set_option linter.unusedSimpArgs false

/-- The parser's block g holds the text s. -/
def PBlk (g : Nat) (s : ByteArray) (w : World) : Prop := w.heap[g]? = some (.cells #[.string s] 74 (0, 0))
/-- The header's block. -/
def HBlk (g : Nat) (a b c d e f : ByteArray) (v : Value) (w : World) : Prop := w.heap[g]? = some (.cells #[.string a, .string b, .string c, .string d, .string e, .string f, v] 42 (0, 0))
/-- What word takes off, and what it leaves. -/
def wordA (s : ByteArray) : ByteArray := s.extract 0 (nameLen s.data.toList)
def wordB (s : ByteArray) : ByteArray := s.extract (nameLen s.data.toList) s.size
/-- Does p stand first? What skip leaves. -/
def skipA (s p : ByteArray) : Bool := decide (p.data.toList <+: s.data.toList)
def skipB (s p : ByteArray) : ByteArray := if skipA s p = true then s.extract p.size s.size else s

theorem blk_lt {w : World} {g : Nat} {o : Obj} (h : w.heap[g]? = some o) : g < w.heap.size := (Array.getElem?_eq_some_iff.1 h).1
theorem grown_set (w : World) (g j : Nat) (v : Value) : w.grownBy (w.setCell ⟨g, j, none⟩ v) (some g) :=
  ⟨rfl, rfl, rfl, by simp [World.setCell], fun k _ hk => Below.heap_setCell _ _ _ _ (fun e => hk (by rw [e]))⟩
theorem grown_below {w w1 : World} (h : Below w.heap.size w w1) (r : Option Nat) : w.grownBy w1 r := ⟨h.os, h.tape, h.output, h.size, fun k hk _ => h.block k hk⟩
theorem grown_trans {w w1 w2 : World} {r : Option Nat} (h : w.grownBy w1 r) (k : w1.grownBy w2 r) : w.grownBy w2 r := World.grownBy.trans h k

set_option maxHeartbeats 1000000 in
set_option maxRecDepth 100000 in
theorem word_walk (g : Nat) (s : ByteArray) (w : World) (h : Aside0 (PBlk g s w)) :
    Calls Tryd.prog 64 #[.pointer (some ⟨g, 0, none⟩)] w fun e w' => e = .returned (.string (wordA s)) ∧ Aside0 (PBlk g (wordB s) w') ∧ Aside0 (w.grownBy w' (some g)) := by
  have hc := (blk_cell h.out 0).trans rfl
  have HT : Aside0 (name_Take.f s = some (wordA s, wordB s)) := ⟨name_Take_f s⟩
  obtain ⟨x, hx⟩ : ∃ x, x = wordA s := ⟨_, rfl⟩
  obtain ⟨y, hy⟩ : ∃ y, y = wordB s := ⟨_, rfl⟩
  rw [← hx, ← hy] at HT ⊢
  clear hx hy
  go_enter Tryd.func64, Tryd.ntmps64
  go_wp2_with (first | (go_at_call 54; (with_reducible refine (name_Take.calls _ x y _ HT.out).mono ?_); rintro e w1 ⟨rfl, hb1⟩; replace hb1 := Aside0.mk hb1; have hp1 := Aside0.mk ((hb1.out.block g (blk_lt h.out)).trans h.out); have hc1 := (blk_cell hp1.out 0).trans rfl; have hf1 := blk_frozen hp1.out 0))
  go_ret
  refine ⟨rfl, ⟨?_⟩, ⟨grown_trans (grown_below hb1.out _) (grown_set w1 g 0 _)⟩⟩
  have := hp1.out
  unfold PBlk at this ⊢
  simp [World.setCell, Array.getElem?_modify, this]

set_option maxHeartbeats 1000000 in
set_option maxRecDepth 100000 in
theorem skip_walk (g : Nat) (s p : ByteArray) (w : World) (h : Aside0 (PBlk g s w)) :
    Calls Tryd.prog 65 #[.pointer (some ⟨g, 0, none⟩), .string p] w fun e w' => e = .returned (.bool (skipA s p)) ∧ Aside0 (PBlk g (skipB s p) w') ∧ Aside0 (w.grownBy w' (some g)) := by
  have hc := (blk_cell h.out 0).trans rfl
  cases hb : skipA s p with
  | true =>
    have hp := of_decide_eq_true hb
    have HT : Aside0 (strings_CutPrefix.f s p = some (skipB s p, true)) := ⟨by rw [cutPrefix_f, if_pos hp, skipB, if_pos hb]⟩
    obtain ⟨y, hy⟩ : ∃ y, y = skipB s p := ⟨_, rfl⟩
    rw [← hy] at HT ⊢
    clear hy hb hp
    go_enter Tryd.func65, Tryd.ntmps65
    go_wp2_with (first | (go_at_call 45; (with_reducible refine (strings_CutPrefix.calls _ _ y true _ HT.out).mono ?_); rintro e w1 ⟨rfl, hd1⟩; replace hd1 := Aside0.mk hd1.below; have hp1 := Aside0.mk ((hd1.out.block g (blk_lt h.out)).trans h.out); have hc1 := (blk_cell hp1.out 0).trans rfl; have hf1 := blk_frozen hp1.out 0))
    go_ret
    refine ⟨rfl, ⟨?_⟩, ⟨grown_trans (grown_below hd1.out _) (grown_set w1 g 0 _)⟩⟩
    have := hp1.out
    unfold PBlk at this ⊢
    simp [World.setCell, Array.getElem?_modify, this]
  | false =>
    have hp := of_decide_eq_false hb
    have HT : Aside0 (strings_CutPrefix.f s p = some (s, false)) := ⟨by rw [cutPrefix_f, if_neg hp]⟩
    have HS : Aside0 (skipB s p = s) := ⟨by rw [skipB, if_neg (by simp [hb])]⟩
    rw [HS.out]
    clear hb hp
    go_enter Tryd.func65, Tryd.ntmps65
    go_wp2_with (first | (go_at_call 45; (with_reducible refine (strings_CutPrefix.calls _ _ s false _ HT.out).mono ?_); rintro e w1 ⟨rfl, hd1⟩; replace hd1 := Aside0.mk hd1.below; have hp1 := Aside0.mk ((hd1.out.block g (blk_lt h.out)).trans h.out)))
    go_ret
    exact ⟨rfl, ⟨hp1.out⟩, ⟨grown_below hd1.out _⟩⟩

/-- Nothing that stood has turned but the blocks g and h. -/
structure Two (g h : Nat) (w w' : World) : Prop where
  os : w'.os = w.os
  tape : w'.tape = w.tape
  output : w'.output = w.output
  size : w.heap.size ≤ w'.heap.size
  block : ∀ k, k < w.heap.size → k ≠ g → k ≠ h → w'.heap[k]? = w.heap[k]?
theorem Two.refl (g h : Nat) (w : World) : Two g h w w := ⟨rfl, rfl, rfl, Nat.le_refl _, fun _ _ _ _ => rfl⟩
theorem Two.trans {g h : Nat} {w w1 w2 : World} (x : Two g h w w1) (y : Two g h w1 w2) : Two g h w w2 :=
  ⟨y.os.trans x.os, y.tape.trans x.tape, y.output.trans x.output, Nat.le_trans x.size y.size, fun k hk hg hh => (y.block k (Nat.lt_of_lt_of_le hk x.size) hg hh).trans (x.block k hk hg hh)⟩
theorem Two.grownL {g h : Nat} {w w1 : World} (x : w.grownBy w1 (some g)) : Two g h w w1 :=
  ⟨x.os, x.tape, x.output, x.size, fun k hk hg _ => x.block k hk (fun e => hg (Option.some.inj e))⟩
theorem Two.setR (g h j : Nat) (w : World) (v : Value) : Two g h w (w.setCell ⟨h, j, none⟩ v) :=
  ⟨rfl, rfl, rfl, by simp [World.setCell], fun k _ _ hh => Below.heap_setCell _ _ _ _ hh⟩
theorem Two.below {g h B : Nat} {w w1 : World} (x : Two g h w w1) (hg : B ≤ g) (hh : B ≤ h) (hB : B ≤ w.heap.size) : Below B w w1 :=
  ⟨x.os, x.tape, x.output, x.size, fun k hk => x.block k (by omega) (by omega) (by omega)⟩
theorem PBlk.far {g h : Nat} {s : ByteArray} {w : World} (x : PBlk g s w) (hne : g ≠ h) (j : Nat) (v : Value) : PBlk g s (w.setCell ⟨h, j, none⟩ v) :=
  (Below.heap_setCell w ⟨h, j, none⟩ v g hne).trans x
theorem HBlk.grown {g h : Nat} {a b c d e f : ByteArray} {v : Value} {w w1 : World} (x : HBlk h a b c d e f v w) (hne : g ≠ h) (y : w.grownBy w1 (some g)) : HBlk h a b c d e f v w1 :=
  (y.block h (blk_lt x) (fun e => hne (Option.some.inj e).symm)).trans x
theorem HBlk.set0 {g : Nat} {a b c d e f : ByteArray} {v : Value} {w : World} (h : HBlk g a b c d e f v w) (x : ByteArray) : HBlk g x b c d e f v (w.setCell ⟨g, 0, none⟩ (.string x)) := by
  unfold HBlk at *
  simp [World.setCell, Array.getElem?_modify, h]
theorem HBlk.set1 {g : Nat} {a b c d e f : ByteArray} {v : Value} {w : World} (h : HBlk g a b c d e f v w) (x : ByteArray) : HBlk g a x c d e f v (w.setCell ⟨g, 1, none⟩ (.string x)) := by
  unfold HBlk at *
  simp [World.setCell, Array.getElem?_modify, h]
theorem HBlk.set2 {g : Nat} {a b c d e f : ByteArray} {v : Value} {w : World} (h : HBlk g a b c d e f v w) (x : ByteArray) : HBlk g a b x d e f v (w.setCell ⟨g, 2, none⟩ (.string x)) := by
  unfold HBlk at *
  simp [World.setCell, Array.getElem?_modify, h]
theorem HBlk.set3 {g : Nat} {a b c d e f : ByteArray} {v : Value} {w : World} (h : HBlk g a b c d e f v w) (x : ByteArray) : HBlk g a b c x e f v (w.setCell ⟨g, 3, none⟩ (.string x)) := by
  unfold HBlk at *
  simp [World.setCell, Array.getElem?_modify, h]
theorem HBlk.set4 {g : Nat} {a b c d e f : ByteArray} {v : Value} {w : World} (h : HBlk g a b c d e f v w) (x : ByteArray) : HBlk g a b c d x f v (w.setCell ⟨g, 4, none⟩ (.string x)) := by
  unfold HBlk at *
  simp [World.setCell, Array.getElem?_modify, h]
theorem HBlk.set5 {g : Nat} {a b c d e f : ByteArray} {v : Value} {w : World} (h : HBlk g a b c d e f v w) (x : ByteArray) : HBlk g a b c d e x v (w.setCell ⟨g, 5, none⟩ (.string x)) := by
  unfold HBlk at *
  simp [World.setCell, Array.getElem?_modify, h]
theorem HBlk.set6 {g : Nat} {a b c d e f : ByteArray} {v : Value} {w : World} (h : HBlk g a b c d e f v w) (x : Value) : HBlk g a b c d e f x (w.setCell ⟨g, 6, none⟩ x) := by
  unfold HBlk at *
  simp [World.setCell, Array.getElem?_modify, h]

abbrev gapS : ByteArray := ⟨#[32]⟩
/-- What operator reads. -/
def opF (s : ByteArray) : ByteArray := wordA s
def op1 (s : ByteArray) : ByteArray := skipB (wordB s) gapS
def opN (s : ByteArray) : ByteArray := wordA (op1 s)
def op2 (s : ByteArray) : ByteArray := wordB (op1 s)
def opG (s g : ByteArray) : ByteArray := if skipA (op2 s) gapS = true then wordA (skipB (op2 s) gapS) else g
def op3 (s : ByteArray) : ByteArray := if skipA (op2 s) gapS = true then wordB (skipB (op2 s) gapS) else op2 s
def opR (s : ByteArray) : ByteArray := skipB (op3 s) ⟨#[41]⟩

set_option maxHeartbeats 2000000 in
set_option maxRecDepth 100000 in
theorem operator_walk (gp gh : Nat) (s a b c d e f : ByteArray) (v : Value) (w : World) (hne : gp ≠ gh) (hp : Aside0 (PBlk gp s w)) (hh : Aside0 (HBlk gh a b c d e f v w)) :
    Calls Tryd.prog 66 #[.pointer (some ⟨gp, 0, none⟩), .pointer (some ⟨gh, 0, none⟩)] w fun en w' => en = .returned (.tuple #[]) ∧ Aside0 (PBlk gp (opR s) w') ∧ Aside0 (HBlk gh a b (opN s) d (opF s) (opG s f) v w') ∧ Aside0 (Two gp gh w w') := by
  go_enter Tryd.func66, Tryd.ntmps66
  go_wp2_with fail
  refine (word_walk gp s _ hp).mono ?_
  rintro en w1 ⟨rfl, hp1, hg1⟩
  have hh1 := Aside0.mk (hh.out.grown hne hg1.out)
  have hc1 := (blk_cell hh1.out 4).trans rfl
  have hf1 := blk_frozen hh1.out 4
  go_wp2_with fail
  refine (skip_walk gp _ gapS _ (Aside0.mk (hp1.out.far hne 4 _))).mono ?_
  rintro en w2 ⟨rfl, hp2, hg2⟩
  have hh2 := Aside0.mk ((hh1.out.set4 (wordA s)).grown hne hg2.out)
  clear hc1 hf1
  go_wp2_with fail
  refine (word_walk gp _ _ hp2).mono ?_
  rintro en w3 ⟨rfl, hp3, hg3⟩
  have hh3 := Aside0.mk (hh2.out.grown hne hg3.out)
  have hc3 := (blk_cell hh3.out 2).trans rfl
  have hf3 := blk_frozen hh3.out 2
  go_wp2_with fail
  refine (skip_walk gp _ gapS _ (Aside0.mk (hp3.out.far hne 2 _))).mono ?_
  rintro en w4 ⟨rfl, hp4, hg4⟩
  have hh4 := Aside0.mk ((hh3.out.set2 (wordA (skipB (wordB s) gapS))).grown hne hg4.out)
  clear hc3 hf3
  have HT4 := Aside0.mk (((((Two.grownL (h := gh) hg1.out).trans (Two.setR gp gh 4 _ _)).trans (Two.grownL hg2.out)).trans (Two.grownL hg3.out)).trans ((Two.setR gp gh 2 _ _).trans (Two.grownL hg4.out)))
  cases hb : skipA (wordB (skipB (wordB s) gapS)) gapS with
  | true =>
    have HB := Aside0.mk hb
    clear hb
    go_wp2_with fail
    refine (word_walk gp _ _ hp4).mono ?_
    rintro en w5 ⟨rfl, hp5, hg5⟩
    have hh5 := Aside0.mk (hh4.out.grown hne hg5.out)
    have hc5 := (blk_cell hh5.out 5).trans rfl
    have hf5 := blk_frozen hh5.out 5
    go_wp2_with fail
    refine (skip_walk gp _ ⟨#[41]⟩ _ (Aside0.mk (hp5.out.far hne 5 _))).mono ?_
    rintro en w6 ⟨rfl, hp6, hg6⟩
    have hh6 := Aside0.mk ((hh5.out.set5 (wordA (skipB (wordB (skipB (wordB s) gapS)) gapS))).grown hne hg6.out)
    go_wp2_with fail
    go_end0
    refine ⟨rfl, ?_, ?_, ⟨HT4.out.trans ((Two.grownL hg5.out).trans ((Two.setR gp gh 5 _ _).trans (Two.grownL hg6.out)))⟩⟩
    · unfold opR op3 op2 op1
      rw [if_pos HB.out]
      exact hp6
    · unfold opN opF opG op2 op1
      rw [if_pos HB.out]
      exact hh6
  | false =>
    have HB := Aside0.mk hb
    have HS : Aside0 (skipB (wordB (skipB (wordB s) gapS)) gapS = wordB (skipB (wordB s) gapS)) := ⟨by rw [skipB, if_neg (by simp [hb])]⟩
    rw [HS.out] at hp4
    clear hb
    go_wp2_with fail
    refine (skip_walk gp _ ⟨#[41]⟩ _ hp4).mono ?_
    rintro en w6 ⟨rfl, hp6, hg6⟩
    have hh6 := Aside0.mk (hh4.out.grown hne hg6.out)
    go_wp2_with fail
    go_end0
    refine ⟨rfl, ?_, ?_, ⟨HT4.out.trans (Two.grownL hg6.out)⟩⟩
    · unfold opR op3 op2 op1
      rw [if_neg (by simp [HB.out])]
      exact hp6
    · unfold opN opF opG op2 op1
      rw [if_neg (by simp [HB.out])]
      exact hh6
end Go.Proofs.YtmddkjmcbddhiaaDoor.P
