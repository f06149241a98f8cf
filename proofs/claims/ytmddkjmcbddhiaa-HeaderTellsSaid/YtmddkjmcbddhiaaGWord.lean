/-
  The walks of strings.Builder's copyCheck and WriteString, at a builder that the call has made itself. Condition: what is held and what is written are together at most 2^47 bytes.
  DERIVED: THE SHELF's CONTRACTS AT THIS DUMP, IN PLAIN WORDS (tools/lay-plain.mjs out of 'TryShelf.lean', which tools/lay-shelf.mjs wrote): THE SAME DECLARATIONS UNDER THE SAME NAMES: 'import', 'namespace', 'open', 'def', 'theorem' AND NOTHING ELSE: no command of the shelf's: FOR A HAND-IN. Each laying: the table of numbers ('.._ren') and one theorem, a field a fact of the dump's own or the kernel's comparison; each contract: ONE APPLICATION.
  The walks of the parser's methods word, skip and operator: what is taken off the text that is left, and what is put into the header. No condition but sizes that fit an int.
-/
import Derived.Test.YtmddkjmcbddhiaaProg
import Derived.Lib.Builder
import Derived.Lib.AppendStr
import Derived.Lib.Strings
import Derived.Lib.Slices
import Derived.Lib.Walk
import Derived.WalkKit
import Derived.Laws.Externs
import Derived.Shelf.Strings.Builder1
import Derived.Shelf.Small.Wraps
import Derived.Shelf.Strings.BuilderF
import Derived.Shelf.Strings.BuilderK
import Derived.Shelf.Utf8.RuneCount
import Derived.Shelf.Strings.Prefix
import Derived.Shelf.Strings.RuneCount
import Derived.Shelf.Strings.BuilderCap
import Derived.Shelf.Slices.Turned
import Derived.Test.YtmddkjmcbddhiaaRw8
import Derived.Test.YtmddkjmcbddhiaaHd
section
namespace Go.Proofs.Ytmddkjmcbddhiaa.P
open Go.RowKit
set_option linter.unusedVariables false
set_option linter.unusedSimpArgs false

theorem buf_info : (Try.prog.info? 60).map (·.size) = some 2 := by kernel_rfl
theorem buf_lies : liesAt Try.prog Try.prog.depth 60 (2 / Try.prog.cellsOf 60) 0 60 1 = true := by kernel_rfl
theorem buf_byte : (Try.prog.info? 5).map (fun i => (i.zero, i.size, i.bytes)) = some (some (.int .u8 0), 1, 1) := by kernel_rfl

set_option maxHeartbeats 1000000 in
set_option maxRecDepth 100000 in
theorem copyCheck_used (b : Nat) (w : World) (h0 : w.cell? ⟨b, 0, none⟩ = some (.pointer (some ⟨b, 0, none⟩))) :
    Calls Try.prog 55 #[.pointer (some ⟨b, 0, none⟩)] w fun e w' => e = .returned (.tuple #[]) ∧ w' = w := by
  obtain ⟨j, hj, _⟩ := Option.map_eq_some_iff.1 buf_info
  go_enter Try.func55, Try.ntmps55
  go_wp2
  rw [Lib.run_neq_ptr_same w _ Try.underlying58 hj]
  go_wp2
  go_end0
  exact ⟨rfl, rfl⟩

set_option maxHeartbeats 1000000 in
set_option maxRecDepth 100000 in
theorem copyCheck_fresh (b : Nat) (w : World) (h0 : w.cell? ⟨b, 0, none⟩ = some (.pointer none)) (hsh : w.shape? b = some (60, 2)) (hfz : w.frozen? ⟨b, 0, none⟩ = false) :
    Calls Try.prog 55 #[.pointer (some ⟨b, 0, none⟩)] w fun e w' => e = .returned (.tuple #[]) ∧ w' = w.setCell ⟨b, 0, none⟩ (.pointer (some ⟨b, 0, none⟩)) := by
  obtain ⟨j, hj, hjs⟩ := Option.map_eq_some_iff.1 buf_info
  go_enter Try.func55, Try.ntmps55
  go_wp2
  rw [Lib.run_to_unsafe w ⟨b, 0, none⟩ Try.underlying58 Try.underlying72 hj (by rw [hjs]; decide) hsh (Nat.zero_lt_succ 1)]
  simp only [Result.andThen]
  rw [Oper.upon_value]
  go_wp2
  rw [run_callFunc_extern Try.func57 (by kernel_rfl) (by kernel_rfl) (by kernel_rfl) (e := Extern.AbiNoEscape.same) (by kernel_rfl)]
  rw [Lib.run_noEscape]
  simp only [Result.andThen]
  rw [Oper.upon_value]
  go_wp2
  rw [Lib.run_from_unsafe w ⟨b, 0, none⟩ Try.underlying72 Try.underlying58 hj hsh buf_lies]
  simp only [Result.andThen]
  rw [Oper.upon_value]
  go_wp2
  go_end0
  exact ⟨rfl, rfl⟩

theorem copyCheck_walk (B b : Nat) (bs : List Value) (w : World) (h : Lib.IsBuilder 60 5 B b bs w) :
    Calls Try.prog 55 #[.pointer (some ⟨b, 0, none⟩)] w fun e w' => e = .returned (.tuple #[]) ∧ (Lib.BuilderAt 60 5 B b (.pointer (some ⟨b, 0, none⟩)) bs w' ∧ Below B w w') := by
  rcases h with h | h
  · refine (copyCheck_fresh b w h.cell0 h.shape h.frozen0).mono ?_
    rintro e w' ⟨rfl, rfl⟩
    exact ⟨rfl, h.used _, (Below.refl B w).setCell (p := ⟨b, 0, none⟩) h.1 _⟩
  · refine (copyCheck_used b w h.cell0).mono ?_
    rintro e w' ⟨rfl, rfl⟩
    exact ⟨rfl, h, Below.refl B _⟩

set_option maxHeartbeats 2000000 in
set_option maxRecDepth 100000 in
theorem writeString_walk (B b : Nat) (bs : List Value) (s : ByteArray) (w : World) (h : Lib.IsBuilder 60 5 B b bs w) (hlen : bs.length + s.size ≤ 140737488355328) (hBw : B ≤ w.heap.size) :
    Calls Try.prog 48 #[.pointer (some ⟨b, 0, none⟩), .string s] w fun e w' => e = .returned (.tuple #[.int .i64 s.size, .nilIface]) ∧ (Lib.IsBuilder 60 5 B b (bs ++ Lib.strCells s) w' ∧ Below B w w') := by
  obtain ⟨i0, hi, hz0, hz1, hz2⟩ := info_parts buf_byte
  go_enter Try.func48, Try.ntmps48
  go_wp2_with (go_at_call 55; refine (copyCheck_walk B b bs _ h).mono ?_)
  rintro e w1 ⟨rfl, h1, hb1⟩
  obtain ⟨hB, v, hbk, hown, hne⟩ := h1
  have c0 : w1.cell? ⟨b, 0, none⟩ = some (.pointer (some ⟨b, 0, none⟩)) := by rw [Lib.cell_of_heap hbk]; rfl
  have c1 : w1.cell? ⟨b, 1, none⟩ = some v := by rw [Lib.cell_of_heap hbk]; rfl
  go_wp2_with (at_builtin; refine Lib.wpList_append_own_string _ rfl _ _ 30 9 rfl B 5 i0 Try.underlying30 Try.underlying9 hi hz0 hz1 hz2 _ _ _ rfl hown s rfl ?c3 ?c4 ?c5 ?_)
  case c3 => unfold maxLen; omega
  case c4 => omega
  case c5 => have := hb1.size; omega
  intro v' w2 hown' hgrow _
  have hlt : b < w1.heap.size := by
    rcases Nat.lt_or_ge b w1.heap.size with h' | h'
    · exact h'
    · simp [Array.getElem?_eq_none h'] at hbk
  have hb2 : w2.heap[b]? = some (.cells #[.pointer (some ⟨b, 0, none⟩), v] 60 (0, 0)) := by
    rw [hgrow.block b hlt (fun e => hne e.symm)]
    exact hbk
  have d0 : w2.cell? ⟨b, 0, none⟩ = some (.pointer (some ⟨b, 0, none⟩)) := by rw [Lib.cell_of_heap hb2]; rfl
  have d1 : w2.cell? ⟨b, 1, none⟩ = some v := by rw [Lib.cell_of_heap hb2]; rfl
  have f1 : w2.frozen? ⟨b, 1, none⟩ = false := Lib.frozen_of_heap hb2 1
  obtain ⟨ao, n', cap, rfl⟩ : ∃ ao n' cap, v' = .slice ao n' cap := by
    rcases hown'.2 with ⟨hv, _⟩ | ⟨g, cap, cur, hv, _⟩
    · exact ⟨_, _, _, hv⟩
    · exact ⟨_, _, _, hv⟩
  go_wp2
  go_ret2
  refine ⟨rfl, .inr ?_, ?_⟩
  · exact Lib.BuilderAt.put (T := 60) (e := 5) hB hb2 (bs' := bs ++ Lib.strCells s) (by simpa [Lib.strCells_length] using hown') (by decide)
  · exact (hb1.grown hgrow (by have := hb1.size; omega) (fun k hk => (hown.lt k hk).1)).setCell (p := ⟨b, 1, none⟩) hB _
end Go.Proofs.Ytmddkjmcbddhiaa.P
end
section
namespace Go.Proofs
open Go.Shelf
def Try.lays169_ren : Go.Shelf.Ren := ⟨fun | 169 => 49 | n => n, fun | 70 => 58 | 9 => 9 | 0 => 0 | 72 => 60 | 37 => 30 | 127 => 71 | 3 => 3 | 5 => 5 | n => n, fun | n => n⟩
theorem Try.lays169 : Go.Proofs.Lays.n169 Try.prog Try.lays169_ren := {
  mixed := by kernel_rfl
  f169 := Try.func49.trans (congrArg some (by kernel_rfl))
  t0 := Try.underlying0
  a0 := Try.isAgg0
  z0 := Try.sizeOf0
  v0 := Try.zeroValue0
  t3 := Try.underlying3
  a3 := Try.isAgg3
  z3 := Try.sizeOf3
  v3 := Try.zeroValue3
  t9 := Try.underlying9
  a9 := Try.isAgg9
  z9 := Try.sizeOf9
  v9 := Try.zeroValue9
  t37 := Try.underlying30
  a37 := Try.isAgg30
  z37 := Try.sizeOf30
  v37 := Try.zeroValue30
  t70 := Try.underlying58
  a70 := Try.isAgg58
  z70 := Try.sizeOf58
  v70 := Try.zeroValue58
  t72 := Try.underlying60
  a72 := Try.isAgg60
  z72 := Try.sizeOf60
  v72 := Try.zeroValue60
  t127 := Try.underlying71
  a127 := Try.isAgg71
  z127 := Try.sizeOf71
  v127 := Try.zeroValue71 }
theorem Try.Builder_Extra_169 : Builder.Extra Try.prog Try.lays169_ren := {
  sizeBuilder := by kernel_rfl
  liesBuilder := by kernel_rfl
  t5 := Try.underlying5
  a5 := Try.isAgg5
  z5 := Try.sizeOf5
  v5 := Try.zeroValue5
  infoByte := by kernel_rfl
  cellsByte := by kernel_rfl
  sizeByte := by kernel_rfl
  neB5 := by decide }
open Go.RowKit in
/-- (*strings.Builder).String: "String returns the accumulated string.": WHATEVER THE BUILDER HOLDS. (LAID: no walk: one application.) -/
theorem Try.Builder_String_any (B b : Nat) (l : List UInt8) (w : World) (h : Lib.IsBuilder 60 5 B b (Lib.byteCells l) w) (hBw : B ≤ w.heap.size) :
    Calls Try.prog 49 #[.pointer (some ⟨b, 0, none⟩)] w fun e w' => e = .returned (.string ⟨l.toArray⟩) ∧ Below B w w' := Any.Builder_String_any Try.lays169 Try.Builder_Extra_169 B b l w h hBw
end Go.Proofs
end
section
namespace Go.Proofs.Ytmddkjmcbddhiaa.P
open Go.RowKit Go.Proofs.YtmddkjmcbddhiaaW.PrintWords Go.Proofs.Ytmddkjmcbddhiaa.Sp
set_option linter.unusedVariables false
set_option linter.unusedSimpArgs false

/-- The parser's block g holds the text s. -/
def PBlk (g : Nat) (s : ByteArray) (w : World) : Prop := w.heap[g]? = some (.cells #[.string s] 50 (0, 0))
/-- The header's block. -/
def HBlk (g : Nat) (a b c d e f : ByteArray) (v : Value) (w : World) : Prop := w.heap[g]? = some (.cells #[.string a, .string b, .string c, .string d, .string e, .string f, v] 35 (0, 0))
/-- What word takes off, and what it leaves. -/
def wordA (s : ByteArray) : ByteArray := s.extract 0 (nameLen s.data.toList)
def wordB (s : ByteArray) : ByteArray := s.extract (nameLen s.data.toList) s.size
/-- Does p stand first? What skip leaves. -/
def skipA (s p : ByteArray) : Bool := decide (p.data.toList <+: s.data.toList)
def skipB (s p : ByteArray) : ByteArray := if skipA s p = true then s.extract p.size s.size else s

theorem blk_lt {w : World} {g : Nat} {o : Obj} (h : w.heap[g]? = some o) : g < w.heap.size := (Array.getElem?_eq_some_iff.1 h).1
theorem grown_set (w : World) (g j : Nat) (v : Value) : w.grownBy (w.setCell ⟨g, j, none⟩ v) (some g) :=
  ⟨rfl, rfl, rfl, by simp [World.setCell], fun k _ hk => Below.heap_setCell _ _ _ _ (fun e => hk (by rw [e]))⟩
theorem grown_below {w w1 : World} (h : Below w.heap.size w w1) (r : Option Nat) : w.grownBy w1 r := ⟨h.os, h.tape, h.output, h.size, fun k hk _ => h.block k hk⟩
theorem grown_trans {w w1 w2 : World} {r : Option Nat} (h : w.grownBy w1 r) (k : w1.grownBy w2 r) : w.grownBy w2 r := World.grownBy.trans h k

set_option maxHeartbeats 1000000 in
set_option maxRecDepth 100000 in
theorem word_walk (g : Nat) (s : ByteArray) (w : World) (h : Aside0 (PBlk g s w)) :
    Calls Try.prog 38 #[.pointer (some ⟨g, 0, none⟩)] w fun e w' => e = .returned (.string (wordA s)) ∧ Aside0 (PBlk g (wordB s) w') ∧ Aside0 (w.grownBy w' (some g)) := by
  have hc := (blk_cell h.out 0).trans rfl
  have HT : Aside0 (name_Take.f s = some (wordA s, wordB s)) := ⟨name_Take_f s⟩
  obtain ⟨x, hx⟩ : ∃ x, x = wordA s := ⟨_, rfl⟩
  obtain ⟨y, hy⟩ : ∃ y, y = wordB s := ⟨_, rfl⟩
  rw [← hx, ← hy] at HT ⊢
  clear hx hy
  go_enter Try.func38, Try.ntmps38
  go_wp2_with (first | (go_at_call 14; (with_reducible refine (name_Take.calls _ x y _ HT.out).mono ?_); rintro e w1 ⟨rfl, hb1⟩; replace hb1 := Aside0.mk hb1; have hp1 := Aside0.mk ((hb1.out.block g (blk_lt h.out)).trans h.out); have hc1 := (blk_cell hp1.out 0).trans rfl; have hf1 := blk_frozen hp1.out 0))
  go_ret
  refine ⟨rfl, ⟨?_⟩, ⟨grown_trans (grown_below hb1.out _) (grown_set w1 g 0 _)⟩⟩
  have := hp1.out
  unfold PBlk at this ⊢
  simp [World.setCell, Array.getElem?_modify, this]

set_option maxHeartbeats 1000000 in
set_option maxRecDepth 100000 in
theorem skip_walk (g : Nat) (s p : ByteArray) (w : World) (h : Aside0 (PBlk g s w)) :
    Calls Try.prog 39 #[.pointer (some ⟨g, 0, none⟩), .string p] w fun e w' => e = .returned (.bool (skipA s p)) ∧ Aside0 (PBlk g (skipB s p) w') ∧ Aside0 (w.grownBy w' (some g)) := by
  have hc := (blk_cell h.out 0).trans rfl
  cases hb : skipA s p with
  | true =>
    have hp := of_decide_eq_true hb
    have HT : Aside0 (strings_CutPrefix.f s p = some (skipB s p, true)) := ⟨by rw [cutPrefix_f, if_pos hp, skipB, if_pos hb]⟩
    obtain ⟨y, hy⟩ : ∃ y, y = skipB s p := ⟨_, rfl⟩
    rw [← hy] at HT ⊢
    clear hy hb hp
    go_enter Try.func39, Try.ntmps39
    go_wp2_with (first | (go_at_call 36; (with_reducible refine (strings_CutPrefix.calls _ _ y true _ HT.out).mono ?_); rintro e w1 ⟨rfl, hd1⟩; replace hd1 := Aside0.mk hd1.below; have hp1 := Aside0.mk ((hd1.out.block g (blk_lt h.out)).trans h.out); have hc1 := (blk_cell hp1.out 0).trans rfl; have hf1 := blk_frozen hp1.out 0))
    go_ret
    refine ⟨rfl, ⟨?_⟩, ⟨grown_trans (grown_below hd1.out _) (grown_set w1 g 0 _)⟩⟩
    have := hp1.out
    unfold PBlk at this ⊢
    simp [World.setCell, Array.getElem?_modify, this]
  | false =>
    have hp := of_decide_eq_false hb
    have HT : Aside0 (strings_CutPrefix.f s p = some (s, false)) := ⟨by rw [cutPrefix_f, if_neg hp]⟩
    have HS : Aside0 (skipB s p = s) := ⟨by rw [skipB, if_neg (by simp [hb])]⟩
    rw [HS.out]
    clear hb hp
    go_enter Try.func39, Try.ntmps39
    go_wp2_with (first | (go_at_call 36; (with_reducible refine (strings_CutPrefix.calls _ _ s false _ HT.out).mono ?_); rintro e w1 ⟨rfl, hd1⟩; replace hd1 := Aside0.mk hd1.below; have hp1 := Aside0.mk ((hd1.out.block g (blk_lt h.out)).trans h.out)))
    go_ret
    exact ⟨rfl, ⟨hp1.out⟩, ⟨grown_below hd1.out _⟩⟩

/-- Nothing that stood has turned but the blocks g and h. -/
structure Two (g h : Nat) (w w' : World) : Prop where
  os : w'.os = w.os
  tape : w'.tape = w.tape
  output : w'.output = w.output
  size : w.heap.size ≤ w'.heap.size
  block : ∀ k, k < w.heap.size → k ≠ g → k ≠ h → w'.heap[k]? = w.heap[k]?
theorem Two.refl (g h : Nat) (w : World) : Two g h w w := ⟨rfl, rfl, rfl, Nat.le_refl _, fun _ _ _ _ => rfl⟩
theorem Two.trans {g h : Nat} {w w1 w2 : World} (x : Two g h w w1) (y : Two g h w1 w2) : Two g h w w2 :=
  ⟨y.os.trans x.os, y.tape.trans x.tape, y.output.trans x.output, Nat.le_trans x.size y.size, fun k hk hg hh => (y.block k (Nat.lt_of_lt_of_le hk x.size) hg hh).trans (x.block k hk hg hh)⟩
theorem Two.grownL {g h : Nat} {w w1 : World} (x : w.grownBy w1 (some g)) : Two g h w w1 :=
  ⟨x.os, x.tape, x.output, x.size, fun k hk hg _ => x.block k hk (fun e => hg (Option.some.inj e))⟩
theorem Two.setR (g h j : Nat) (w : World) (v : Value) : Two g h w (w.setCell ⟨h, j, none⟩ v) :=
  ⟨rfl, rfl, rfl, by simp [World.setCell], fun k _ _ hh => Below.heap_setCell _ _ _ _ hh⟩
theorem Two.below {g h B : Nat} {w w1 : World} (x : Two g h w w1) (hg : B ≤ g) (hh : B ≤ h) (hB : B ≤ w.heap.size) : Below B w w1 :=
  ⟨x.os, x.tape, x.output, x.size, fun k hk => x.block k (by omega) (by omega) (by omega)⟩
theorem PBlk.far {g h : Nat} {s : ByteArray} {w : World} (x : PBlk g s w) (hne : g ≠ h) (j : Nat) (v : Value) : PBlk g s (w.setCell ⟨h, j, none⟩ v) :=
  (Below.heap_setCell w ⟨h, j, none⟩ v g hne).trans x
theorem HBlk.grown {g h : Nat} {a b c d e f : ByteArray} {v : Value} {w w1 : World} (x : HBlk h a b c d e f v w) (hne : g ≠ h) (y : w.grownBy w1 (some g)) : HBlk h a b c d e f v w1 :=
  (y.block h (blk_lt x) (fun e => hne (Option.some.inj e).symm)).trans x
theorem HBlk.set0 {g : Nat} {a b c d e f : ByteArray} {v : Value} {w : World} (h : HBlk g a b c d e f v w) (x : ByteArray) : HBlk g x b c d e f v (w.setCell ⟨g, 0, none⟩ (.string x)) := by
  unfold HBlk at *
  simp [World.setCell, Array.getElem?_modify, h]
theorem HBlk.set1 {g : Nat} {a b c d e f : ByteArray} {v : Value} {w : World} (h : HBlk g a b c d e f v w) (x : ByteArray) : HBlk g a x c d e f v (w.setCell ⟨g, 1, none⟩ (.string x)) := by
  unfold HBlk at *
  simp [World.setCell, Array.getElem?_modify, h]
theorem HBlk.set2 {g : Nat} {a b c d e f : ByteArray} {v : Value} {w : World} (h : HBlk g a b c d e f v w) (x : ByteArray) : HBlk g a b x d e f v (w.setCell ⟨g, 2, none⟩ (.string x)) := by
  unfold HBlk at *
  simp [World.setCell, Array.getElem?_modify, h]
theorem HBlk.set3 {g : Nat} {a b c d e f : ByteArray} {v : Value} {w : World} (h : HBlk g a b c d e f v w) (x : ByteArray) : HBlk g a b c x e f v (w.setCell ⟨g, 3, none⟩ (.string x)) := by
  unfold HBlk at *
  simp [World.setCell, Array.getElem?_modify, h]
theorem HBlk.set4 {g : Nat} {a b c d e f : ByteArray} {v : Value} {w : World} (h : HBlk g a b c d e f v w) (x : ByteArray) : HBlk g a b c d x f v (w.setCell ⟨g, 4, none⟩ (.string x)) := by
  unfold HBlk at *
  simp [World.setCell, Array.getElem?_modify, h]
theorem HBlk.set5 {g : Nat} {a b c d e f : ByteArray} {v : Value} {w : World} (h : HBlk g a b c d e f v w) (x : ByteArray) : HBlk g a b c d e x v (w.setCell ⟨g, 5, none⟩ (.string x)) := by
  unfold HBlk at *
  simp [World.setCell, Array.getElem?_modify, h]
theorem HBlk.set6 {g : Nat} {a b c d e f : ByteArray} {v : Value} {w : World} (h : HBlk g a b c d e f v w) (x : Value) : HBlk g a b c d e f x (w.setCell ⟨g, 6, none⟩ x) := by
  unfold HBlk at *
  simp [World.setCell, Array.getElem?_modify, h]

abbrev gapS : ByteArray := ⟨#[32]⟩
/-- What operator reads. -/
def opF (s : ByteArray) : ByteArray := wordA s
def op1 (s : ByteArray) : ByteArray := skipB (wordB s) gapS
def opN (s : ByteArray) : ByteArray := wordA (op1 s)
def op2 (s : ByteArray) : ByteArray := wordB (op1 s)
def opG (s g : ByteArray) : ByteArray := if skipA (op2 s) gapS = true then wordA (skipB (op2 s) gapS) else g
def op3 (s : ByteArray) : ByteArray := if skipA (op2 s) gapS = true then wordB (skipB (op2 s) gapS) else op2 s
def opR (s : ByteArray) : ByteArray := skipB (op3 s) ⟨#[41]⟩

set_option maxHeartbeats 2000000 in
set_option maxRecDepth 100000 in
theorem operator_walk (gp gh : Nat) (s a b c d e f : ByteArray) (v : Value) (w : World) (hne : gp ≠ gh) (hp : Aside0 (PBlk gp s w)) (hh : Aside0 (HBlk gh a b c d e f v w)) :
    Calls Try.prog 40 #[.pointer (some ⟨gp, 0, none⟩), .pointer (some ⟨gh, 0, none⟩)] w fun en w' => en = .returned (.tuple #[]) ∧ Aside0 (PBlk gp (opR s) w') ∧ Aside0 (HBlk gh a b (opN s) d (opF s) (opG s f) v w') ∧ Aside0 (Two gp gh w w') := by
  go_enter Try.func40, Try.ntmps40
  go_wp2_with fail
  refine (word_walk gp s _ hp).mono ?_
  rintro en w1 ⟨rfl, hp1, hg1⟩
  have hh1 := Aside0.mk (hh.out.grown hne hg1.out)
  have hc1 := (blk_cell hh1.out 4).trans rfl
  have hf1 := blk_frozen hh1.out 4
  go_wp2_with fail
  refine (skip_walk gp _ gapS _ (Aside0.mk (hp1.out.far hne 4 _))).mono ?_
  rintro en w2 ⟨rfl, hp2, hg2⟩
  have hh2 := Aside0.mk ((hh1.out.set4 (wordA s)).grown hne hg2.out)
  clear hc1 hf1
  go_wp2_with fail
  refine (word_walk gp _ _ hp2).mono ?_
  rintro en w3 ⟨rfl, hp3, hg3⟩
  have hh3 := Aside0.mk (hh2.out.grown hne hg3.out)
  have hc3 := (blk_cell hh3.out 2).trans rfl
  have hf3 := blk_frozen hh3.out 2
  go_wp2_with fail
  refine (skip_walk gp _ gapS _ (Aside0.mk (hp3.out.far hne 2 _))).mono ?_
  rintro en w4 ⟨rfl, hp4, hg4⟩
  have hh4 := Aside0.mk ((hh3.out.set2 (wordA (skipB (wordB s) gapS))).grown hne hg4.out)
  clear hc3 hf3
  have HT4 := Aside0.mk (((((Two.grownL (h := gh) hg1.out).trans (Two.setR gp gh 4 _ _)).trans (Two.grownL hg2.out)).trans (Two.grownL hg3.out)).trans ((Two.setR gp gh 2 _ _).trans (Two.grownL hg4.out)))
  cases hb : skipA (wordB (skipB (wordB s) gapS)) gapS with
  | true =>
    have HB := Aside0.mk hb
    clear hb
    go_wp2_with fail
    refine (word_walk gp _ _ hp4).mono ?_
    rintro en w5 ⟨rfl, hp5, hg5⟩
    have hh5 := Aside0.mk (hh4.out.grown hne hg5.out)
    have hc5 := (blk_cell hh5.out 5).trans rfl
    have hf5 := blk_frozen hh5.out 5
    go_wp2_with fail
    refine (skip_walk gp _ ⟨#[41]⟩ _ (Aside0.mk (hp5.out.far hne 5 _))).mono ?_
    rintro en w6 ⟨rfl, hp6, hg6⟩
    have hh6 := Aside0.mk ((hh5.out.set5 (wordA (skipB (wordB (skipB (wordB s) gapS)) gapS))).grown hne hg6.out)
    go_wp2_with fail
    go_end0
    refine ⟨rfl, ?_, ?_, ⟨HT4.out.trans ((Two.grownL hg5.out).trans ((Two.setR gp gh 5 _ _).trans (Two.grownL hg6.out)))⟩⟩
    · unfold opR op3 op2 op1
      rw [if_pos HB.out]
      exact hp6
    · unfold opN opF opG op2 op1
      rw [if_pos HB.out]
      exact hh6
  | false =>
    have HB := Aside0.mk hb
    have HS : Aside0 (skipB (wordB (skipB (wordB s) gapS)) gapS = wordB (skipB (wordB s) gapS)) := ⟨by rw [skipB, if_neg (by simp [hb])]⟩
    rw [HS.out] at hp4
    clear hb
    go_wp2_with fail
    refine (skip_walk gp _ ⟨#[41]⟩ _ hp4).mono ?_
    rintro en w6 ⟨rfl, hp6, hg6⟩
    have hh6 := Aside0.mk (hh4.out.grown hne hg6.out)
    go_wp2_with fail
    go_end0
    refine ⟨rfl, ?_, ?_, ⟨HT4.out.trans (Two.grownL hg6.out)⟩⟩
    · unfold opR op3 op2 op1
      rw [if_neg (by simp [HB.out])]
      exact hp6
    · unfold opN opF opG op2 op1
      rw [if_neg (by simp [HB.out])]
      exact hh6
end Go.Proofs.Ytmddkjmcbddhiaa.P
end
