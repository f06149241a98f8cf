/-
  The walk of header.Parse: the header that is guessed of a text, and whether its text is that text. Condition: the text has fewer than 2^40 bytes.
-/
import Derived.Test.YtmddkjmcbddhiaaDoorGWordM
import Derived.Test.YtmddkjmcbddhiaaDoorGTextM
import Derived.Deep.RegionWith
import Derived.Deep.RegionHeld3
import Derived.Deep.DeepCutAuto
import Derived.Deep.AppendLies
import Derived.Deep.CutBlock
namespace Go.Proofs.YtmddkjmcbddhiaaDoor.P
open Go.RowKit Go.Proofs.YtmddkjmcbddhiaaDoorW.PrintWords Go.Proofs.YtmddkjmcbddhiaaDoor.Sp
set_option linter.unusedVariables false
set_option linter.unusedSimpArgs false

/-- What has been guessed: what is left of the text, and the header. -/
structure Raw where
  rest : ByteArray
  a : ByteArray
  b : ByteArray
  c : ByteArray
  d : ByteArray
  e : ByteArray
  f : ByteArray
  ls : List ByteArray
abbrev nilS : ByteArray := ⟨#[]⟩
abbrev semiS : ByteArray := ⟨#[59]⟩
def locLoop : Nat → ByteArray → List ByteArray → ByteArray × List ByteArray
  | 0, s, ls => (s, ls)
  | n + 1, s, ls => if skipA s semiS = true then locLoop n (wordB (skipB s semiS)) (ls ++ [wordA (skipB s semiS)]) else (s, ls)
def st4 (s a b c d e f : ByteArray) : Raw := ⟨(locLoop (s.size + 1) s []).1, a, b, c, d, e, f, (locLoop (s.size + 1) s []).2⟩
def st3 (s a b c d e f : ByteArray) : Raw := if e.data.toList = [] ∧ skipA s gapS = true then st4 (wordB (skipB s gapS)) a c d (wordA (skipB s gapS)) e f else st4 s a b c d e f
def st2 (s a b c d e f : ByteArray) : Raw := if skipA s gapS = true then st3 (wordB (skipB s gapS)) a b c (wordA (skipB s gapS)) e f else st3 s a b c d e f
abbrev openS : ByteArray := ⟨#[40]⟩
abbrev gapOpenS : ByteArray := ⟨#[32, 40]⟩
def st1 (first s a : ByteArray) : Raw :=
  if first.data.toList = [] ∧ skipA s openS = true then st2 (opR (skipB s openS)) a nilS (opN (skipB s openS)) nilS (opF (skipB s openS)) (opG (skipB s openS) nilS)
  else if skipA s gapOpenS = true then st2 (opR (skipB s gapOpenS)) a first (opN (skipB s gapOpenS)) nilS (opF (skipB s gapOpenS)) (opG (skipB s gapOpenS) nilS)
  else st2 s a nilS first nilS nilS nilS
abbrev getsS : ByteArray := ⟨#[226, 134, 144]⟩
def st0 (s : ByteArray) : Raw := if skipA (wordB s) getsS = true then st1 (wordA (skipB (wordB s) getsS)) (wordB (skipB (wordB s) getsS)) (wordA s) else st1 (wordA s) (wordB s) nilS

theorem skipB_no {s p : ByteArray} (h : skipA s p = false) : skipB s p = s := by rw [skipB, if_neg (by simp [h])]
theorem Two.own {g h : Nat} {W w w1 : World} (x : Two g h W w) {row : Option Nat} (y : w.grownBy w1 row) (hr : ∀ k, row = some k → W.heap.size ≤ k) : Two g h W w1 :=
  ⟨y.os.trans x.os, y.tape.trans x.tape, y.output.trans x.output, Nat.le_trans x.size y.size, fun k hk hg hh => (y.block k (Nat.lt_of_lt_of_le hk x.size) (fun e => by have := hr k e.symm; omega)).trans (x.block k hk hg hh)⟩

theorem heap_new_at (w : World) (o : Obj) (k : Nat) (h : k = w.heap.size) : (w.alloc o).heap[k]? = some o := by rw [h]; exact heap_alloc_new w o
theorem blk_grown2 {w w1 : World} {g : Nat} {o : Obj} {row : Option Nat} (x : w.heap[g]? = some o) (y : w.grownBy w1 row) (hne : ∀ k, row = some k → k ≠ g) : w1.heap[g]? = some o :=
  (y.block g (blk_lt x) (fun e => hne g e.symm rfl)).trans x
theorem wordB_size (s : ByteArray) : (wordB s).size ≤ s.size := by
  unfold wordB
  rw [ByteArray.size_extract]
  omega
theorem skipB_size (s p : ByteArray) : (skipB s p).size ≤ s.size := by
  unfold skipB
  split
  · rw [ByteArray.size_extract]; omega
  · exact Nat.le_refl _
theorem skipB_less {s p : ByteArray} (h : skipA s p = true) (hp : 0 < p.size) : (skipB s p).size < s.size := by
  have h1 := of_decide_eq_true h
  have h2 := h1.length_le
  have e1 := length_data s
  have e2 := length_data p
  unfold skipB
  rw [if_pos h, ByteArray.size_extract]
  omega
theorem opR_size (s : ByteArray) : (opR s).size ≤ s.size := by
  unfold opR
  refine Nat.le_trans (skipB_size _ _) ?_
  unfold op3
  have h2 : (op2 s).size ≤ s.size := by
    unfold op2 op1
    exact Nat.le_trans (wordB_size _) (Nat.le_trans (skipB_size _ _) (wordB_size _))
  split
  · exact Nat.le_trans (wordB_size _) (Nat.le_trans (skipB_size _ _) h2)
  · exact h2
/-- The size of what the parser has left. -/
def pleft (g : Nat) (w : World) : Nat := match w.heap[g]? with
  | some (.cells cs _ _) => (match cs[0]? with | some (Value.string s) => s.size | _ => 0)
  | _ => 0
theorem pleft_eq {g : Nat} {s : ByteArray} {w : World} (h : PBlk g s w) : pleft g w = s.size := by
  unfold PBlk at h
  unfold pleft
  rw [h]
  rfl
/-- What the walk carries: the parser, the header, what else has turned, and how much is left. -/
structure Cur (gp hb : Nat) (n : Nat) (W : World) (s a b c d e f : ByteArray) (v : Value) (w : World) : Prop where
  p : PBlk gp s w
  h : HBlk hb a b c d e f v w
  t : Two gp hb W w
  n : s.size ≤ n
theorem Cur.word {gp hb n : Nat} {W : World} {s a b c d e f : ByteArray} {v : Value} {w w1 : World} (x : Cur gp hb n W s a b c d e f v w) (hne : gp ≠ hb) {s1 : ByteArray} (hp : PBlk gp s1 w1) (hg : w.grownBy w1 (some gp)) (hs : s1.size ≤ s.size) : Cur gp hb n W s1 a b c d e f v w1 :=
  ⟨hp, x.h.grown hne hg, x.t.trans (Two.grownL hg), Nat.le_trans hs x.n⟩
theorem Cur.set {gp hb n : Nat} {W : World} {s a b c d e f a' b' c' d' e' f' : ByteArray} {v v' : Value} {w : World} (x : Cur gp hb n W s a b c d e f v w) (hne : gp ≠ hb) (j : Nat) (u : Value) (h : HBlk hb a' b' c' d' e' f' v' (w.setCell ⟨hb, j, none⟩ u)) : Cur gp hb n W s a' b' c' d' e' f' v' (w.setCell ⟨hb, j, none⟩ u) :=
  ⟨x.p.far hne j u, h, x.t.trans (Two.setR gp hb j w u), x.n⟩
theorem Cur.op {gp hb n : Nat} {W : World} {s s1 a b c d e f a' b' c' d' e' f' : ByteArray} {v v' : Value} {w w1 : World} (x : Cur gp hb n W s a b c d e f v w) (hp : PBlk gp s1 w1) (hh : HBlk hb a' b' c' d' e' f' v' w1) (ht : Two gp hb w w1) (hs : s1.size ≤ s.size) : Cur gp hb n W s1 a' b' c' d' e' f' v' w1 :=
  ⟨hp, hh, x.t.trans ht, Nat.le_trans hs x.n⟩
theorem Cur.own {gp hb n : Nat} {W : World} {s a b c d e f : ByteArray} {v : Value} {w w1 : World} (x : Cur gp hb n W s a b c d e f v w) (hg : gp < W.heap.size) (hh : hb < W.heap.size) {row : Option Nat} (y : w.grownBy w1 row) (hr : ∀ k, row = some k → W.heap.size ≤ k) : Cur gp hb n W s a b c d e f v w1 :=
  ⟨blk_grown2 x.p y (fun k e => by have := hr k e; omega), blk_grown2 x.h y (fun k e => by have := hr k e; omega), x.t.own y hr, x.n⟩
theorem Cur.drew {gp hb n : Nat} {W : World} {s a b c d e f : ByteArray} {v : Value} {w : World} (x : Cur gp hb n W s a b c d e f v w) : Cur gp hb n W s a b c d e f v w.drew :=
  ⟨x.p, x.h, ⟨x.t.os, x.t.tape, x.t.output, x.t.size, x.t.block⟩, x.n⟩

theorem HBlk.setAll {g : Nat} {a b c d e f : ByteArray} {v : Value} {w : World} (h : HBlk g a b c d e f v w) (a' b' c' d' e' f' : ByteArray) (v' : Value) :
    (((((((w.setCell ⟨g, 0, none⟩ (.string a')).setCell ⟨g, 1, none⟩ (.string b')).setCell ⟨g, 2, none⟩ (.string c')).setCell ⟨g, 3, none⟩ (.string d')).setCell ⟨g, 4, none⟩ (.string e')).setCell ⟨g, 5, none⟩ (.string f')).setCell ⟨g, 6, none⟩ v').heap[g]? = some (.cells #[.string a', .string b', .string c', .string d', .string e', .string f', v'] 42 (0, 0)) :=
  ((((((h.set0 a').set1 b').set2 c').set3 d').set4 e').set5 f').set6 v'
def header_Parse.f (s : ByteArray) : Option (ByteArray × ByteArray × ByteArray × ByteArray × ByteArray × ByteArray × List ByteArray × Bool) :=
  if s.size ≤ 1099511627776 then
    (if (st0 s).rest.data.toList = [] ∧ ¬ s.data.toList = [] then
      (match header_Text.f (st0 s).a (st0 s).b (st0 s).c (st0 s).d (st0 s).e (st0 s).f (st0 s).ls with
        | none => none
        | some t => if t.data.toList = s.data.toList then some ((st0 s).a, (st0 s).b, (st0 s).c, (st0 s).d, (st0 s).e, (st0 s).f, (st0 s).ls, true) else some (nilS, nilS, nilS, nilS, nilS, nilS, [], false))
    else some (nilS, nilS, nilS, nilS, nilS, nilS, [], false))
  else none

set_option maxHeartbeats 4000000 in
set_option maxRecDepth 100000 in
theorem header_Parse.calls (s : ByteArray) (r1 r2 r3 r4 r5 r6 : ByteArray) (r7 : List ByteArray) (r8 : Bool) (w : World) (h : header_Parse.f s = some (r1, r2, r3, r4, r5, r6, r7, r8)) :
    Calls Tryd.prog 34 #[.string s] w fun en w' => ∃ v6_ : Value, en = .returned (.tuple #[.agg #[.string r1, .string r2, .string r3, .string r4, .string r5, .string r6, v6_], .bool r8]) ∧ Kd.R Kd.string 9 w' w.heap.size (fun _ => True) v6_ r7 ∧ Below w.heap.size w w' := by
  have hs0 : s.size ≤ 1099511627776 := by
    by_cases h1 : s.size ≤ 1099511627776
    · exact h1
    · rw [header_Parse.f, if_neg h1] at h; cases h
  obtain ⟨R, hR0⟩ : ∃ R, st0 s = R := ⟨_, rfl⟩
  rw [header_Parse.f, if_pos hs0, hR0] at h
  have HF := Aside0.mk h
  have hR := Aside0.mk hR0
  have hs := Aside0.mk hs0
  clear h hR0 hs0
  have hu := Tryd.underlying42
  go_enter Tryd.func34, Tryd.ntmps34
  go_wp2_with fail
  obtain ⟨gp, hgp⟩ : ∃ gp, gp = w.heap.size + 1 + 1 := ⟨_, rfl⟩
  obtain ⟨hb, hhb⟩ : ∃ hb, hb = w.heap.size + 1 := ⟨_, rfl⟩
  obtain ⟨W, hW⟩ : ∃ W, W = ((w.alloc (Obj.cells #[Value.string ⟨#[]⟩, Value.string ⟨#[]⟩, Value.string ⟨#[]⟩, Value.string ⟨#[]⟩, Value.string ⟨#[]⟩, Value.string ⟨#[]⟩, Value.slice none 0 0] 42)).alloc (Obj.cells #[Value.string ⟨#[]⟩, Value.string ⟨#[]⟩, Value.string ⟨#[]⟩, Value.string ⟨#[]⟩, Value.string ⟨#[]⟩, Value.string ⟨#[]⟩, Value.slice none 0 0] 42)).alloc (Obj.cells #[Value.string s] 74) := ⟨_, rfl⟩
  have hC : Aside0 (Cur gp hb s.size W s nilS nilS nilS nilS nilS nilS (.slice none 0 0) W) := by
    refine ⟨⟨?_, ?_, Two.refl _ _ _, Nat.le_refl _⟩⟩
    · rw [hW, hgp]
      exact heap_new_at _ _ _ (by simp)
    · rw [hW, hhb]
      exact (Below.heap_alloc _ _ _ (by simp)).trans (heap_new_at _ _ _ (by simp))
  have hne : gp ≠ hb := by omega
  have HGP := Aside0.mk hgp
  have HHB := Aside0.mk hhb
  have HW := Aside0.mk hW
  have HRB : Aside0 (W.heap[w.heap.size]? = some (.cells #[Value.string ⟨#[]⟩, Value.string ⟨#[]⟩, Value.string ⟨#[]⟩, Value.string ⟨#[]⟩, Value.string ⟨#[]⟩, Value.string ⟨#[]⟩, Value.slice none 0 0] 42 (0, 0))) := ⟨by rw [hW]; exact (Below.heap_alloc _ _ _ (by simp; omega)).trans ((Below.heap_alloc _ _ _ (by simp)).trans (heap_new_at _ _ _ rfl))⟩
  have HBW : Aside0 (Below w.heap.size w W) := ⟨by rw [hW]; exact (((Below.refl _ w).alloc (Nat.le_refl _) _).alloc (by simp) _).alloc (by simp; omega) _⟩
  have HGL : Aside0 (gp < W.heap.size) := ⟨by rw [hW, hgp]; simp⟩
  have HHL : Aside0 (hb < W.heap.size) := ⟨by rw [hW, hhb]; simp⟩
  rw [← hW, ← hgp]
  rw [← hhb]
  clear hW hgp hhb
  refine (word_walk gp s _ ⟨hC.out.p⟩).mono ?_
  rintro en w1 ⟨rfl, hp1, hg1⟩
  replace hC := Aside0.mk (hC.out.word hne hp1.out hg1.out (wordB_size s))
  clear hp1 hg1
  go_wp2_with fail
  refine (skip_walk gp _ getsS _ ⟨hC.out.p⟩).mono ?_
  rintro en w2 ⟨rfl, hp2, hg2⟩
  replace hC := Aside0.mk (hC.out.word hne hp2.out hg2.out (skipB_size _ _))
  clear hp2 hg2
  go_upto_if 13 with fail
  go_cut [6] (fun s6 wx => ∃ first s1 a : ByteArray, s6 = .string first ∧ Aside0 (st1 first s1 a = R) ∧ Aside0 (Cur gp hb s.size W s1 a nilS nilS nilS nilS nilS (.slice none 0 0) wx))
  case first =>
    cases hk : skipA (wordB s) getsS with
    | true =>
      have hR1 : Aside0 (st1 (wordA (skipB (wordB s) getsS)) (wordB (skipB (wordB s) getsS)) (wordA s) = R) := ⟨by rw [← hR.out, st0, if_pos hk]⟩
      have hc := (blk_cell hC.out.h 0).trans rfl
      have hf := blk_frozen hC.out.h 0
      clear hk
      go_wp2_with fail
      replace hC := Aside0.mk (hC.out.set hne 0 _ (hC.out.h.set0 (wordA s)))
      clear hc hf
      refine (word_walk gp _ _ ⟨hC.out.p⟩).mono ?_
      rintro en w3 ⟨rfl, hp3, hg3⟩
      replace hC := Aside0.mk (hC.out.word hne hp3.out hg3.out (wordB_size _))
      clear hp3 hg3
      go_wp2_with fail
      go_meet
      exact ⟨_, _, _, rfl, hR1, hC⟩
    | false =>
      have hR1 : Aside0 (st1 (wordA s) (wordB s) nilS = R) := ⟨by rw [← hR.out, st0, if_neg (by simp [hk])]⟩
      rw [skipB_no hk] at hC
      clear hk
      go_wp2_with fail
      go_meet
      exact ⟨_, _, _, rfl, hR1, hC⟩
  case rest =>
  obtain ⟨first, s1, a, rfl, hR1, hC⟩ := hcut
  clear hR
  go_upto_block 0 with fail
  go_cut [] (fun wx => ∃ s2 lf nm f g : ByteArray, Aside0 (st2 s2 a lf nm nilS f g = R) ∧ Aside0 (Cur gp hb s.size W s2 a lf nm nilS f g (.slice none 0 0) wx))
  case first =>
    by_cases h0 : first.data.toList = []
    · have hE1 : (first.toList == ([] : List UInt8)) = true := by rw [ByteArray.toList_eq, h0]; rfl
      have hE2 : first.toList.isEmpty = true := by rw [ByteArray.toList_eq, h0]; rfl
      have hE3 : (!first.toList.isEmpty) = false := by rw [hE2]; rfl
      have H0 := Aside0.mk h0
      clear h0
      go_wp2_with fail
      refine (skip_walk gp _ openS _ ⟨hC.out.p⟩).mono ?_
      rintro en w3 ⟨rfl, hp3, hg3⟩
      replace hC := Aside0.mk (hC.out.word hne hp3.out hg3.out (skipB_size _ _))
      clear hp3 hg3
      cases hk : skipA s1 openS with
      | true =>
        have hR2 : Aside0 (st2 (opR (skipB s1 openS)) a nilS (opN (skipB s1 openS)) nilS (opF (skipB s1 openS)) (opG (skipB s1 openS) nilS) = R) := ⟨by rw [← hR1.out, st1, if_pos ⟨H0.out, hk⟩]⟩
        clear hk
        go_wp2_with fail
        refine (operator_walk gp hb _ _ _ _ _ _ _ _ _ hne ⟨hC.out.p⟩ ⟨hC.out.h⟩).mono ?_
        rintro en w5 ⟨rfl, hp5, hh5, ht5⟩
        replace hC := Aside0.mk (hC.out.op hp5.out hh5.out ht5.out (opR_size _))
        clear hp5 hh5 ht5
        go_wp2_with fail
        go_meet
        exact ⟨_, _, _, _, _, hR2, hC⟩
      | false =>
        rw [skipB_no hk] at hC
        have HK := Aside0.mk hk
        clear hk
        go_wp2_with fail
        refine (skip_walk gp _ gapOpenS _ ⟨hC.out.p⟩).mono ?_
        rintro en w4 ⟨rfl, hp4, hg4⟩
        replace hC := Aside0.mk (hC.out.word hne hp4.out hg4.out (skipB_size _ _))
        clear hp4 hg4
        cases hq : skipA s1 gapOpenS with
        | true =>
          have hR2 : Aside0 (st2 (opR (skipB s1 gapOpenS)) a first (opN (skipB s1 gapOpenS)) nilS (opF (skipB s1 gapOpenS)) (opG (skipB s1 gapOpenS) nilS) = R) := ⟨by rw [← hR1.out, st1, if_neg (by simp [HK.out]), if_pos hq]⟩
          have hc := (blk_cell hC.out.h 1).trans rfl
          have hf := blk_frozen hC.out.h 1
          clear hq
          go_wp2_with fail
          replace hC := Aside0.mk (hC.out.set hne 1 _ (hC.out.h.set1 first))
          clear hc hf
          refine (operator_walk gp hb _ _ _ _ _ _ _ _ _ hne ⟨hC.out.p⟩ ⟨hC.out.h⟩).mono ?_
          rintro en w5 ⟨rfl, hp5, hh5, ht5⟩
          replace hC := Aside0.mk (hC.out.op hp5.out hh5.out ht5.out (opR_size _))
          clear hp5 hh5 ht5
          go_wp2_with fail
          go_meet
          exact ⟨_, _, _, _, _, hR2, hC⟩
        | false =>
          have hR2 : Aside0 (st2 s1 a nilS first nilS nilS nilS = R) := ⟨by rw [← hR1.out, st1, if_neg (by simp [HK.out]), if_neg (by simp [hq])]⟩
          rw [skipB_no hq] at hC
          have hc := (blk_cell hC.out.h 2).trans rfl
          have hf := blk_frozen hC.out.h 2
          clear hq
          go_wp2_with fail
          replace hC := Aside0.mk (hC.out.set hne 2 _ (hC.out.h.set2 first))
          clear hc hf
          go_meet
          exact ⟨_, _, _, _, _, hR2, hC⟩
    · have hE1 : (first.toList == ([] : List UInt8)) = false := by rw [ByteArray.toList_eq]; simpa using h0
      have hE2 : first.toList.isEmpty = false := by rw [ByteArray.toList_eq]; simpa using h0
      have hE3 : (!first.toList.isEmpty) = true := by rw [hE2]; rfl
      have H0 := Aside0.mk h0
      clear h0
      go_wp2_with fail
      refine (skip_walk gp _ gapOpenS _ ⟨hC.out.p⟩).mono ?_
      rintro en w4 ⟨rfl, hp4, hg4⟩
      replace hC := Aside0.mk (hC.out.word hne hp4.out hg4.out (skipB_size _ _))
      clear hp4 hg4
      cases hq : skipA s1 gapOpenS with
      | true =>
        have hR2 : Aside0 (st2 (opR (skipB s1 gapOpenS)) a first (opN (skipB s1 gapOpenS)) nilS (opF (skipB s1 gapOpenS)) (opG (skipB s1 gapOpenS) nilS) = R) := ⟨by rw [← hR1.out, st1, if_neg (by simp [H0.out]), if_pos hq]⟩
        have hc := (blk_cell hC.out.h 1).trans rfl
        have hf := blk_frozen hC.out.h 1
        clear hq
        go_wp2_with fail
        replace hC := Aside0.mk (hC.out.set hne 1 _ (hC.out.h.set1 first))
        clear hc hf
        refine (operator_walk gp hb _ _ _ _ _ _ _ _ _ hne ⟨hC.out.p⟩ ⟨hC.out.h⟩).mono ?_
        rintro en w5 ⟨rfl, hp5, hh5, ht5⟩
        replace hC := Aside0.mk (hC.out.op hp5.out hh5.out ht5.out (opR_size _))
        clear hp5 hh5 ht5
        go_wp2_with fail
        go_meet
        exact ⟨_, _, _, _, _, hR2, hC⟩
      | false =>
        have hR2 : Aside0 (st2 s1 a nilS first nilS nilS nilS = R) := ⟨by rw [← hR1.out, st1, if_neg (by simp [H0.out]), if_neg (by simp [hq])]⟩
        rw [skipB_no hq] at hC
        have hc := (blk_cell hC.out.h 2).trans rfl
        have hf := blk_frozen hC.out.h 2
        clear hq
        go_wp2_with fail
        replace hC := Aside0.mk (hC.out.set hne 2 _ (hC.out.h.set2 first))
        clear hc hf
        go_meet
        exact ⟨_, _, _, _, _, hR2, hC⟩
  case rest =>
  obtain ⟨s2, lf, nm, f, g, hR2, hC⟩ := hcut
  clear hR1
  go_wp2_with fail
  refine (skip_walk gp _ gapS _ ⟨hC.out.p⟩).mono ?_
  rintro en w3 ⟨rfl, hp3, hg3⟩
  replace hC := Aside0.mk (hC.out.word hne hp3.out hg3.out (skipB_size _ _))
  clear hp3 hg3
  go_upto_if 37 with fail
  go_cut [] (fun wx => ∃ s3 rt : ByteArray, Aside0 (st3 s3 a lf nm rt f g = R) ∧ Aside0 (Cur gp hb s.size W s3 a lf nm rt f g (.slice none 0 0) wx))
  case first =>
    cases hk : skipA s2 gapS with
    | true =>
      have hR3 : Aside0 (st3 (wordB (skipB s2 gapS)) a lf nm (wordA (skipB s2 gapS)) f g = R) := ⟨by rw [← hR2.out, st2, if_pos hk]⟩
      clear hk
      go_wp2_with fail
      refine (word_walk gp _ _ ⟨hC.out.p⟩).mono ?_
      rintro en w4 ⟨rfl, hp4, hg4⟩
      replace hC := Aside0.mk (hC.out.word hne hp4.out hg4.out (wordB_size _))
      clear hp4 hg4
      have hc := (blk_cell hC.out.h 3).trans rfl
      have hf := blk_frozen hC.out.h 3
      go_wp2_with fail
      go_meet
      exact ⟨_, _, hR3, ⟨hC.out.set hne 3 _ (hC.out.h.set3 _)⟩⟩
    | false =>
      have hR3 : Aside0 (st3 s2 a lf nm nilS f g = R) := ⟨by rw [← hR2.out, st2, if_neg (by simp [hk])]⟩
      rw [skipB_no hk] at hC
      clear hk
      go_wp2_with fail
      go_meet
      exact ⟨_, _, hR3, hC⟩
  case rest =>
  obtain ⟨s3, rt, hR3, hC⟩ := hcut
  clear hR2
  go_upto_region 15 with fail
  go_cut [47] (fun s47 wx => s47 = .bool (decide (f.data.toList = []) && skipA s3 gapS) ∧ Aside0 (Cur gp hb s.size W (if decide (f.data.toList = []) && skipA s3 gapS then skipB s3 gapS else s3) a lf nm rt f g (.slice none 0 0) wx))
  case first =>
    have hc := (blk_cell hC.out.h 4).trans rfl
    by_cases h0 : f.data.toList = []
    · have hE1 : (f.toList == ([] : List UInt8)) = true := by rw [ByteArray.toList_eq, h0]; rfl
      have hE2 : f.toList.isEmpty = true := by rw [ByteArray.toList_eq, h0]; rfl
      have hE3 : (!f.toList.isEmpty) = false := by rw [hE2]; rfl
      have H0 := Aside0.mk h0
      clear h0
      go_wp2_with fail
      refine (skip_walk gp _ gapS _ ⟨hC.out.p⟩).mono ?_
      rintro en w4 ⟨rfl, hp4, hg4⟩
      clear hc
      replace hC := Aside0.mk (hC.out.word hne hp4.out hg4.out (skipB_size _ _))
      clear hp4 hg4
      go_wp2_with fail
      go_meet
      rw [decide_eq_true H0.out, Bool.true_and]
      refine ⟨rfl, ?_⟩
      cases hk : skipA s3 gapS with
      | true => exact hC
      | false => rw [skipB_no hk] at hC; exact hC
    · have hE1 : (f.toList == ([] : List UInt8)) = false := by rw [ByteArray.toList_eq]; simpa using h0
      have hE2 : f.toList.isEmpty = false := by rw [ByteArray.toList_eq]; simpa using h0
      have hE3 : (!f.toList.isEmpty) = true := by rw [hE2]; rfl
      have H0 := Aside0.mk h0
      clear h0
      go_wp2_with fail
      go_meet
      rw [decide_eq_false H0.out, Bool.false_and]
      exact ⟨rfl, hC⟩
  case rest =>
  obtain ⟨rfl, hC⟩ := hcut
  go_upto_if 47 with fail
  go_cut [] (fun wx => ∃ s4 lf nm rt : ByteArray, Aside0 (st4 s4 a lf nm rt f g = R) ∧ Aside0 (Cur gp hb s.size W s4 a lf nm rt f g (.slice none 0 0) wx))
  case first =>
    cases hk : (decide (f.data.toList = []) && skipA s3 gapS) with
    | true =>
      have hk1 : f.data.toList = [] ∧ skipA s3 gapS = true := by simpa using hk
      have hR4 : Aside0 (st4 (wordB (skipB s3 gapS)) a nm rt (wordA (skipB s3 gapS)) f g = R) := ⟨by rw [← hR3.out, st3, if_pos hk1]⟩
      rw [if_pos hk] at hC
      clear hk hk1
      have hc2 := (blk_cell hC.out.h 2).trans rfl
      have hc3 := (blk_cell hC.out.h 3).trans rfl
      go_wp2_with fail
      go_region_with ((go_at_call 64; refine (word_walk gp _ _ ⟨hC.out.drew.p⟩).mono ?_; rintro en w4 ⟨rfl, hp4, hg4⟩; have hD := Aside0.mk (hC.out.drew.word hne hp4.out hg4.out (wordB_size _)); have hd1 := (blk_cell hD.out.h 1).trans rfl; have hd2 := (blk_cell hD.out.h 2).trans rfl; have hd3 := (blk_cell hD.out.h 3).trans rfl; have hf1 := blk_frozen hD.out.h 1; have hf2 := blk_frozen hD.out.h 2; have hf3 := blk_frozen hD.out.h 3))
      all_goals (go_wp2_with fail; go_meet; exact ⟨_, _, _, _, hR4, ⟨((hD.out.set hne 1 _ (hD.out.h.set1 _)).set hne 2 _ ((hD.out.h.set1 _).set2 _)).set hne 3 _ (((hD.out.h.set1 _).set2 _).set3 _)⟩⟩)
    | false =>
      have hk1 : ¬ (f.data.toList = [] ∧ skipA s3 gapS = true) := fun hh => by rw [decide_eq_true hh.1, hh.2] at hk; cases hk
      have hR4 : Aside0 (st4 s3 a lf nm rt f g = R) := ⟨by rw [← hR3.out, st3, if_neg hk1]⟩
      rw [if_neg (by rw [hk]; exact Bool.false_ne_true)] at hC
      clear hk hk1
      go_wp2_with fail
      go_meet
      exact ⟨_, _, _, _, hR4, hC⟩
  case rest =>
  obtain ⟨s4, lf, nm, rt, hR4, hC⟩ := hcut
  clear hR3
  go_wp2_with fail
  go_loopw [] (fun wr => ∃ (n : Nat) (cur : ByteArray) (v : Value) (l : List ByteArray), Aside0 (locLoop n cur l = locLoop (s4.size + 1) s4 []) ∧ Aside0 (cur.size < n) ∧ Aside0 (l.length + cur.size ≤ s.size) ∧ Aside0 (Cur gp hb s.size W cur a lf nm rt f g v wr) ∧ Aside0 (Kd.R Kd.string 9 wr W.heap.size (fun k => W.heap.size ≤ k) v l)) (fun wr => pleft gp wr)
  case atStart => exact ⟨_, _, _, [], ⟨rfl⟩, ⟨Nat.lt_succ_self _⟩, ⟨by have := hC.out.n; simpa using this⟩, hC, ⟨Kd.R_nil _ _ _ _ _⟩⟩
  case round =>
    obtain ⟨n, cur, v, l, hL, hn, hsum, hC, hO⟩ := hrel
    obtain ⟨n, rfl⟩ : ∃ m, n = m + 1 := ⟨n - 1, by have := hn.out; omega⟩
    have hM := pleft_eq hC.out.p
    have HM := Aside0.mk hM
    clear hM
    go_wp2_with fail
    refine (skip_walk gp _ semiS _ ⟨hC.out.p⟩).mono ?_
    rintro en w3 ⟨rfl, hp3, hg3⟩
    replace hO := Aside0.mk (Kd.R_grown hO.out hg3.out (fun k hk e => by have := Option.some.inj e; have := HGL.out; omega))
    replace hC := Aside0.mk (hC.out.word hne hp3.out hg3.out (skipB_size _ _))
    clear hp3 hg3
    cases hk : skipA cur semiS with
    | true =>
      have hL2 : Aside0 (locLoop n (wordB (skipB cur semiS)) (l ++ [wordA (skipB cur semiS)]) = locLoop (s4.size + 1) s4 []) := ⟨by rw [← hL.out, locLoop, if_pos hk]⟩
      have hlt := skipB_less hk (by decide)
      have hn2 : Aside0 ((wordB (skipB cur semiS)).size < n) := ⟨by have := wordB_size (skipB cur semiS); have := hn.out; omega⟩
      have hs2 : Aside0 ((l ++ [wordA (skipB cur semiS)]).length + (wordB (skipB cur semiS)).size ≤ s.size) := ⟨by have := wordB_size (skipB cur semiS); have := hsum.out; rw [List.length_append, List.length_singleton]; omega⟩
      have hm2 : Aside0 ((wordB (skipB cur semiS)).size < cur.size) := ⟨by have := wordB_size (skipB cur semiS); omega⟩
      have hll : Aside0 ((l.length + 1) * 16 ≤ 140737488355328) := ⟨by have := hsum.out; have := hs.out; omega⟩
      clear hk hlt
      obtain ⟨A0, c0, rfl⟩ := Kd.R_slice hO.out
      have hc := (blk_cell hC.out.h 6).trans rfl
      go_wp2_with fail
      go_region_law (first
        | (refine Kd.R_append_step Kd.string W.heap.size rfl (.tmp 60) (.tmp 63) 33 9 (.string ⟨#[]⟩) 16 rfl Tryd.underlying33 info9 rfl (by decide) (by decide) _ l (wordA (skipB cur semiS)) [.string (wordA (skipB cur semiS))] (fun k => W.heap.size ≤ k) (fun _ => False) rfl rfl rfl (fun _ h => h.elim) (fun k h => Nat.le_trans hB5.out h) hO5.out (Below.refl _ _) hB5.out hll.out ?_; intro v1 w6 hO6 hb6 hg6 hat6; obtain ⟨A1, c1, rfl⟩ := Kd.R_slice hO6; replace hO6 := Aside0.mk hO6; replace hD := Aside0.mk (hD.out.own HGL.out HHL.out hg6 (fun k e => Kd.R_base hO5.out k e)); have hc6 := (blk_cell hD.out.h 6).trans rfl; have hf6 := blk_frozen hD.out.h 6; clear hb6 hg6 hat6)
        | (go_simp; go_wp2_with ((go_at_call 64; refine (word_walk gp _ _ ⟨hC.out.drew.p⟩).mono ?_; rintro en w5 ⟨rfl, hp5, hg5⟩; have hD := Aside0.mk (hC.out.drew.word hne hp5.out hg5.out (wordB_size _)); have hd6 := (blk_cell hD.out.h 6).trans rfl; have hd6a := fun o : Obj => (World.cell?_alloc_some w5 ⟨hb, 6, none⟩ o (by rw [hd6]; rfl)).trans hd6; have hO5 := Aside0.mk (Kd.R_grown (Kd.R_drew hO.out) hg5.out (fun k hk e => by have := Option.some.inj e; have := HGL.out; omega)); have hB5 := Aside0.mk hD.out.t.size))))
      all_goals (go_wp2_with fail; go_roundw)
      all_goals first
        | exact ⟨_, _, _, _, hL2, hn2, hs2, ⟨hD.out.set hne 6 _ (hD.out.h.set6 _)⟩, ⟨by
            have hq := Kd.R_far hO6.out (p := ⟨hb, 6, none⟩) (fun k hk => by have := HHL.out; show k ≠ hb; omega) (.slice A1 (l.length + 1) c1)
            simp only [List.length_append, List.length_singleton] at hq
            exact hq⟩⟩
        | (rw [HM.out, pleft_eq (hD.out.set hne 6 (.slice A1 (l.length + 1) c1) (hD.out.h.set6 _)).p]; exact hm2.out)
    | false =>
      have hL2 : R = ⟨cur, a, lf, nm, rt, f, g, l⟩ := by rw [← hR4.out, st4, ← hL.out, locLoop, if_neg (by simp [hk])]
      rw [skipB_no hk] at hC
      have hF := HF.out
      rw [hL2] at hF
      clear hk hL2 hL HF
      have hcp := (blk_cell hC.out.p 0).trans rfl
      have hrb := (hC.out.t.block w.heap.size (by have := HGL.out; have := HGP.out; omega) (by have := HGP.out; omega) (by have := HHB.out; omega)).trans HRB.out
      have hfz0 := blk_frozen hrb 0
      have hfz1 := blk_frozen hrb 1
      have hfz2 := blk_frozen hrb 2
      have hfz3 := blk_frozen hrb 3
      have hfz4 := blk_frozen hrb 4
      have hfz5 := blk_frozen hrb 5
      have hfz6 := blk_frozen hrb 6
      have hcz0 := (blk_cell hrb 0).trans rfl
      have hcz1 := (blk_cell hrb 1).trans rfl
      have hcz2 := (blk_cell hrb 2).trans rfl
      have hcz3 := (blk_cell hrb 3).trans rfl
      have hcz4 := (blk_cell hrb 4).trans rfl
      have hcz5 := (blk_cell hrb 5).trans rfl
      have hcz6 := (blk_cell hrb 6).trans rfl
      have HRB2 := Aside0.mk hrb
      clear hrb
      have hB3 : Aside0 (Below w.heap.size w w3) := ⟨HBW.out.trans (hC.out.t.below (by have := HGP.out; omega) (by have := HHB.out; omega) HBW.out.size)⟩
      by_cases h1 : cur.data.toList = []
      · have hE1a : (cur.toList == ([] : List UInt8)) = true := by rw [ByteArray.toList_eq, h1]; rfl
        have hE2a : cur.toList.isEmpty = true := by rw [ByteArray.toList_eq, h1]; rfl
        have hE3a : (!cur.toList.isEmpty) = false := by rw [hE2a]; rfl
        by_cases h2 : s.data.toList = []
        · have hE1b : (s.toList == ([] : List UInt8)) = true := by rw [ByteArray.toList_eq, h2]; rfl
          have hE2b : s.toList.isEmpty = true := by rw [ByteArray.toList_eq, h2]; rfl
          have hE3b : (!s.toList.isEmpty) = false := by rw [hE2b]; rfl
          rw [if_neg (fun hh => hh.2 h2)] at hF
          simp only [Option.some.injEq, Prod.mk.injEq] at hF
          obtain ⟨rfl, rfl, rfl, rfl, rfl, rfl, rfl, rfl⟩ := hF
          clear h1 h2
          go_wp2_with fail
          refine bodyPost_ret (results_ct rfl _ _ w.heap.size 42 #[.string nilS, .string nilS, .string nilS, .string nilS, .string nilS, .string nilS, .slice none 0 0] (0, 0) _ rfl (HBlk.setAll HRB2.out nilS nilS nilS nilS nilS nilS (.slice none 0 0)) hu rfl (by kernel_rfl)) rfl ?_
          refine ⟨_, rfl, Kd.R_nil _ _ _ _ _, ?_⟩
          ((with_reducible repeat (refine below_set ?_ (Nat.le_refl _))); exact hB3.out)
        · have hE1b : (s.toList == ([] : List UInt8)) = false := by rw [ByteArray.toList_eq]; simpa using h2
          have hE2b : s.toList.isEmpty = false := by rw [ByteArray.toList_eq]; simpa using h2
          have hE3b : (!s.toList.isEmpty) = true := by rw [hE2b]; rfl
          rw [if_pos ⟨h1, h2⟩] at hF
          obtain ⟨A0, c0, rfl⟩ := Kd.R_slice hO.out
          have hRd := Aside0.mk (Kd.R_reads' hO.out)
          have hu1 := (blk_cell hC.out.h 0).trans rfl
          have hu2 := (blk_cell hC.out.h 1).trans rfl
          have hu3 := (blk_cell hC.out.h 2).trans rfl
          have hu4 := (blk_cell hC.out.h 3).trans rfl
          have hu5 := (blk_cell hC.out.h 4).trans rfl
          have hu6 := (blk_cell hC.out.h 5).trans rfl
          have hu7 := (blk_cell hC.out.h 6).trans rfl
          have HHB4 := Aside0.mk (blk_lt hC.out.h)
          have HRB4 := Aside0.mk (blk_lt HRB2.out)
          clear h1 h2
          cases ht : header_Text.f a lf nm rt f g l with
          | none => rw [ht] at hF; cases hF
          | some t =>
            have HT := Aside0.mk ht
            rw [ht] at hF
            clear ht
            simp only [] at hF
            by_cases h3 : t.data.toList = s.data.toList
            · have hE1c : (t.toList == s.toList) = true := by rw [ByteArray.toList_eq, ByteArray.toList_eq, h3]; exact beq_self_eq_true _
              rw [if_pos h3] at hF
              simp only [Option.some.injEq, Prod.mk.injEq] at hF
              obtain ⟨rfl, rfl, rfl, rfl, rfl, rfl, rfl, rfl⟩ := hF
              clear h3
              go_wp2_with (first | (go_at_call 38; (with_reducible refine (header_Text.calls _ _ _ _ _ _ _ _ l t _ ?h1 ?h2 HT.out).mono ?_); (case h1 => exact hRd.out.2.2); (case h2 => exact hRd.out.2.1); rintro en w4 ⟨rfl, hb4⟩; have hB4 := Aside0.mk (hB3.out.trans (hb4.mono (hB3.out.size))); have hH4 := (hb4.block hb HHB4.out).trans hC.out.h; have hZ4 := (hb4.block w.heap.size HRB4.out).trans HRB2.out; have hy0 := (blk_cell hH4 0).trans rfl; have hz0 := (blk_cell hZ4 0).trans rfl; have hx0 := blk_frozen hZ4 0; have hy1 := (blk_cell hH4 1).trans rfl; have hz1 := (blk_cell hZ4 1).trans rfl; have hx1 := blk_frozen hZ4 1; have hy2 := (blk_cell hH4 2).trans rfl; have hz2 := (blk_cell hZ4 2).trans rfl; have hx2 := blk_frozen hZ4 2; have hy3 := (blk_cell hH4 3).trans rfl; have hz3 := (blk_cell hZ4 3).trans rfl; have hx3 := blk_frozen hZ4 3; have hy4 := (blk_cell hH4 4).trans rfl; have hz4 := (blk_cell hZ4 4).trans rfl; have hx4 := blk_frozen hZ4 4; have hy5 := (blk_cell hH4 5).trans rfl; have hz5 := (blk_cell hZ4 5).trans rfl; have hx5 := blk_frozen hZ4 5; have hy6 := (blk_cell hH4 6).trans rfl; have hz6 := (blk_cell hZ4 6).trans rfl; have hx6 := blk_frozen hZ4 6;replace hO := Aside0.mk (Kd.R_below hO.out hb4); replace hC := Aside0.mk hH4; have hZ5 := Aside0.mk hZ4; clear hH4 hZ4 hb4))
              refine bodyPost_ret (results_ct rfl _ _ w.heap.size 42 #[.string a, .string lf, .string nm, .string rt, .string f, .string g, .slice A0 l.length c0] (0, 0) _ rfl (HBlk.setAll hZ5.out a lf nm rt f g (.slice A0 l.length c0)) hu rfl (by kernel_rfl)) rfl ?_
              refine ⟨_, rfl, ?_, ?_⟩
              · have hne2 : ∀ k, W.heap.size ≤ k → k ≠ w.heap.size := fun k hk => by have := HGL.out; have := HGP.out; omega
                refine Kd.R_lower (Kd.R_mono (ok := fun k => W.heap.size ≤ k) ?_ (fun _ _ => trivial)) HBW.out.size
                ((with_reducible repeat (refine Kd.R_far ?_ hne2 _)); exact hO.out)
              · ((with_reducible repeat (refine below_set ?_ (Nat.le_refl _))); exact hB4.out)
            · have hE1c : (t.toList == s.toList) = false := by rw [ByteArray.toList_eq, ByteArray.toList_eq]; simpa using h3
              rw [if_neg h3] at hF
              simp only [Option.some.injEq, Prod.mk.injEq] at hF
              obtain ⟨rfl, rfl, rfl, rfl, rfl, rfl, rfl, rfl⟩ := hF
              clear h3
              go_wp2_with (first | (go_at_call 38; (with_reducible refine (header_Text.calls _ _ _ _ _ _ _ _ l t _ ?h1 ?h2 HT.out).mono ?_); (case h1 => exact hRd.out.2.2); (case h2 => exact hRd.out.2.1); rintro en w4 ⟨rfl, hb4⟩; have hB4 := Aside0.mk (hB3.out.trans (hb4.mono (hB3.out.size))); have hH4 := (hb4.block hb HHB4.out).trans hC.out.h; have hZ4 := (hb4.block w.heap.size HRB4.out).trans HRB2.out; have hy0 := (blk_cell hH4 0).trans rfl; have hz0 := (blk_cell hZ4 0).trans rfl; have hx0 := blk_frozen hZ4 0; have hy1 := (blk_cell hH4 1).trans rfl; have hz1 := (blk_cell hZ4 1).trans rfl; have hx1 := blk_frozen hZ4 1; have hy2 := (blk_cell hH4 2).trans rfl; have hz2 := (blk_cell hZ4 2).trans rfl; have hx2 := blk_frozen hZ4 2; have hy3 := (blk_cell hH4 3).trans rfl; have hz3 := (blk_cell hZ4 3).trans rfl; have hx3 := blk_frozen hZ4 3; have hy4 := (blk_cell hH4 4).trans rfl; have hz4 := (blk_cell hZ4 4).trans rfl; have hx4 := blk_frozen hZ4 4; have hy5 := (blk_cell hH4 5).trans rfl; have hz5 := (blk_cell hZ4 5).trans rfl; have hx5 := blk_frozen hZ4 5; have hy6 := (blk_cell hH4 6).trans rfl; have hz6 := (blk_cell hZ4 6).trans rfl; have hx6 := blk_frozen hZ4 6;replace hO := Aside0.mk (Kd.R_below hO.out hb4); replace hC := Aside0.mk hH4; have hZ5 := Aside0.mk hZ4; clear hH4 hZ4 hb4))
              refine bodyPost_ret (results_ct rfl _ _ w.heap.size 42 #[.string nilS, .string nilS, .string nilS, .string nilS, .string nilS, .string nilS, .slice none 0 0] (0, 0) _ rfl (HBlk.setAll hZ5.out nilS nilS nilS nilS nilS nilS (.slice none 0 0)) hu rfl (by kernel_rfl)) rfl ?_
              refine ⟨_, rfl, Kd.R_nil _ _ _ _ _, ?_⟩
              ((with_reducible repeat (refine below_set ?_ (Nat.le_refl _))); exact hB4.out)
      · have hE1a : (cur.toList == ([] : List UInt8)) = false := by rw [ByteArray.toList_eq]; simpa using h1
        have hE2a : cur.toList.isEmpty = false := by rw [ByteArray.toList_eq]; simpa using h1
        have hE3a : (!cur.toList.isEmpty) = true := by rw [hE2a]; rfl
        rw [if_neg (fun hh => h1 hh.1)] at hF
        simp only [Option.some.injEq, Prod.mk.injEq] at hF
        obtain ⟨rfl, rfl, rfl, rfl, rfl, rfl, rfl, rfl⟩ := hF
        clear h1
        go_wp2_with fail
        refine bodyPost_ret (results_ct rfl _ _ w.heap.size 42 #[.string nilS, .string nilS, .string nilS, .string nilS, .string nilS, .string nilS, .slice none 0 0] (0, 0) _ rfl (HBlk.setAll HRB2.out nilS nilS nilS nilS nilS nilS (.slice none 0 0)) hu rfl (by kernel_rfl)) rfl ?_
        refine ⟨_, rfl, Kd.R_nil _ _ _ _ _, ?_⟩
        ((with_reducible repeat (refine below_set ?_ (Nat.le_refl _))); exact hB3.out)
end Go.Proofs.YtmddkjmcbddhiaaDoor.P
