/-
  The walk of quote.Text: signs in quotes. Condition: no more than 2^40 numbers.
-/
import Derived.Test.YtmddkjmcbddhiaaDoorGBld
import Derived.Test.YtmddkjmcbddhiaaDoorGLibJ
import Derived.Test.YtmddkjmcbddhiaaDoorP0
import Derived.Lib.OthersKept
namespace Go.Proofs.YtmddkjmcbddhiaaDoor.P
open Go.RowKit Go.Proofs.YtmddkjmcbddhiaaDoorW.PrintWords
set_option linter.unusedVariables false
set_option linter.unusedSimpArgs false

/-- Is a number a sign's? -/
def signB (n : Int) : Bool := decide (0 ≤ n ∧ n ≤ 1114111 ∧ ¬ (55296 ≤ n ∧ n ≤ 57343))
/-- A sign's bytes in quotes. -/
def qEnc (n : Int) : List UInt8 := if n = 39 then [39, 39] else Lib.encodeRune n
def qText (l : List Int) : List UInt8 := 39 :: l.flatMap qEnc ++ [39]
theorem validRune_eq (c : Int) : Lib.validRune c = signB c := by
  unfold Lib.validRune signB
  exact decide_eq_decide.2 (by omega)
theorem qEnc_le (n : Int) : (qEnc n).length ≤ 4 := by
  unfold qEnc
  split
  · simp
  · have := Lib.runeCells_le n
    rw [Lib.runeCells_length] at this
    exact this.2
theorem flat_le : ∀ l : List Int, (l.flatMap qEnc).length ≤ 4 * l.length
  | [] => Nat.le_refl _
  | n :: t => by
    have h1 := qEnc_le n
    have h2 := flat_le t
    simp only [List.flatMap_cons, List.length_append, List.length_cons]
    omega
/-- What quote.Text comes to. -/
def qRes (l : List Int) : ByteArray × Bool := if l.all signB = true then (⟨(qText l).toArray⟩, true) else (⟨#[]⟩, false)
theorem strCells_mark : Lib.strCells (⟨#[39]⟩ : ByteArray) = Lib.byteCells [39] := rfl

theorem length_dataQ (s : ByteArray) : s.data.toList.length = s.size := by rw [Array.length_toList]; rfl
theorem enc39 : ((Utf8.encode 39).toList == ([39] : List UInt8)) = true := by
  rw [ByteArray.toList_eq]
  decide
theorem encNe {x : Int} (h0 : 0 ≤ x) (hne : x ≠ 39) : ((Utf8.encode x).toList == ([39] : List UInt8)) = false := by
  rw [ByteArray.toList_eq, beq_eq_false_iff_ne]
  unfold Utf8.encode
  simp only
  have hc : (if Utf8.valid x = true then x.toNat else Utf8.runeError) ≠ 39 := by
    split
    · omega
    · decide
  generalize (if Utf8.valid x = true then x.toNat else Utf8.runeError) = c at hc
  repeat' split
  · intro h
    simp only [List.cons.injEq, and_true] at h
    have h2 := congrArg UInt8.toNat h
    rw [UInt8.toNat_ofNat'] at h2
    have h3 : (39 : UInt8).toNat = 39 := rfl
    rw [h3] at h2
    omega
  all_goals (intro h; simp at h)
theorem rd_get (l : List Int) (k : Nat) (h : k < l.length) : rd l (k : Int) = l[k] := by
  unfold rd
  rw [Int.toNat_natCast, List.getD_eq_getElem?_getD, List.getElem?_eq_getElem h, Option.getD_some]
theorem take_next {l : List Int} {k : Nat} {x : Int} (h : k < l.length) (hx : x = l[k]) : (l.take (k + 1)) = l.take k ++ [x] := by
  rw [List.take_succ_eq_append_getElem h, hx]
theorem flat_next {l : List Int} {k : Nat} {x : Int} (h : k < l.length) (hx : x = l[k]) : Lib.byteCells (39 :: (l.take (k + 1)).flatMap qEnc) = Lib.byteCells (39 :: (l.take k).flatMap qEnc) ++ Lib.byteCells (qEnc x) := by
  rw [take_next h hx, ← Lib.byteCells_append]
  simp
theorem all_next {l : List Int} {k : Nat} {x : Int} (h : k < l.length) (hx : x = l[k]) (hs : signB x = true) (ha : (l.take k).all signB = true) : (l.take (k + 1)).all signB = true := by
  rw [take_next h hx, List.all_append, ha]
  simp [hs]
theorem qRes_bad {l : List Int} {k : Nat} {x : Int} (h : k < l.length) (hx : x = l[k]) (hs : signB x = false) : qRes l = (⟨#[]⟩, false) := by
  unfold qRes
  rw [if_neg]
  intro ha
  have := List.all_eq_true.1 ha x (by rw [hx]; exact List.getElem_mem h)
  rw [hs] at this
  cases this

set_option maxHeartbeats 4000000 in
set_option maxRecDepth 1000000 in
theorem qtext_walk (A0 : Option Addr) (c0 : Nat) (l : List Int) (w : World) (hr : Kd.C (Kd.int .i64) w A0 l.length l) (hn : l.length ≤ 1099511627776) :
    Calls Tryd.prog 14 #[.slice A0 l.length c0] w fun e w' => e = .returned (.tuple #[.string (qRes l).1, .bool (qRes l).2]) ∧ Below w.heap.size w w' := by
  have HR := Aside0.mk hr
  have HN := Aside0.mk hn
  obtain ⟨R, hR⟩ : ∃ R, R = qRes l := ⟨_, rfl⟩
  rw [← hR]
  have HRR := Aside0.mk hR
  clear hr hR
  go_enter Tryd.func14, Tryd.ntmps14
  go_wp2_with (go_at_call 40; refine (Tryd.Builder_WriteString_k w.heap.size w.heap.size [] ⟨#[39]⟩ _ (Lib.IsBuilderF.of (Lib.fresh_isBuilder 51 5 w)) (by simp; decide) (by simp)).mono ?_)
  rintro e W1 ⟨rfl, h1, b1, k1⟩
  have hI : Lib.IsBuilderF 51 5 w.heap.size w.heap.size (Lib.byteCells [39]) W1 := .inr (by rw [List.nil_append, strCells_mark] at h1; exact h1)
  have hB : Below w.heap.size w W1 := ((Below.refl _ w).alloc (Nat.le_refl _) _).trans b1
  clear h1 b1 k1
  go_wp2
  go_loopw [11] (fun i wr => ∃ (k : Nat), k ≤ l.length ∧ i = .int .i64 k ∧ Lib.IsBuilderF 51 5 w.heap.size w.heap.size (Lib.byteCells (39 :: (l.take k).flatMap qEnc)) wr ∧ Below w.heap.size w wr ∧ Aside0 ((l.take k).all signB = true))
    (fun i _ => l.length - (intOf i).toNat)
  case atStart => exact ⟨0, Nat.zero_le _, rfl, by rw [List.take_zero]; exact hI, hB, ⟨rfl⟩⟩
  case round =>
    obtain ⟨k, hk, rfl, hI2, hB2, hall⟩ := hrel
    have hkn : k ≤ 1099511627776 := Nat.le_trans hk HN.out
    have hsz : w.heap.size ≤ wr.heap.size := hB2.size
    clear hI hB
    by_cases hlt : k < l.length
    · obtain ⟨ad, e1, hc⟩ := Kd.at_int (Kd.C_below HR.out hB2) (k : Int) (by omega) (by omega)
      subst e1
      obtain ⟨x, hx⟩ : ∃ x, x = l[k] := ⟨_, rfl⟩
      have hc2 : wr.cell? (ad.add k) = some (.int .i64 x) := by
        rw [rd_get l k hlt, Int.toNat_natCast] at hc
        rw [hx]
        exact hc
      clear hc
      have HX := Aside0.mk hx
      clear hx
      cases hs : signB x with
      | true =>
        have hb0 : 0 ≤ x ∧ x ≤ 1114111 := by have := of_decide_eq_true hs; omega
        obtain ⟨hx0, hx1⟩ := hb0
        have HS := Aside0.mk hs
        clear hs
        have HV : Aside0 (Lib.validRune x = true) := ⟨by rw [validRune_eq]; exact HS.out⟩
        go_wp2_with (go_at_call 41; refine (Tryd.utf8_ValidRune x _).mono ?_; rw [HV.out]; rintro e w' ⟨rfl, rfl⟩)
        have hlen : ((l.take k).flatMap qEnc).length ≤ 4 * k := Nat.le_trans (flat_le _) (by have := List.length_take_le k l; omega)
        refine (Tryd.Builder_WriteRune_k w.heap.size w.heap.size _ x (by omega) (by omega) _ hI2 (by rw [Lib.byteCells_length, List.length_cons]; omega) hsz).mono ?_
        rintro e W2 ⟨rfl, h2, b2, k2⟩
        have hbw := hB2.trans (b2.mono (Nat.le_refl _))
        by_cases h39 : x = 39
        · have hq : ((Utf8.encode x).toList == ([39] : List UInt8)) = true := by rw [h39]; exact enc39
          have HQ9 : Aside0 (Lib.runeCells x = Lib.byteCells [39]) := ⟨by rw [h39]; unfold Lib.runeCells; rw [Lib.encodeRuneZ_one (by omega) (by omega)]; rfl⟩
          have H39 := Aside0.mk h39
          have hsz2 : w.heap.size ≤ W2.heap.size := Nat.le_trans hsz b2.size
          clear h39
          have hl2 : (Lib.byteCells (39 :: (l.take k).flatMap qEnc) ++ Lib.runeCells x).length + (⟨#[39]⟩ : ByteArray).size ≤ 140737488355328 := by
            have : (⟨#[39]⟩ : ByteArray).size = 1 := rfl
            rw [List.length_append, Lib.byteCells_length, List.length_cons, HQ9.out, Lib.byteCells_length, this]
            simp only [List.length_cons, List.length_nil]
            omega
          have HL2 := Aside0.mk hl2
          clear hl2
          go_wp2_with fail
          refine (Tryd.Builder_WriteString_k w.heap.size w.heap.size _ ⟨#[39]⟩ _ (.inr h2) HL2.out hsz2).mono ?_
          rintro e W3 ⟨rfl, h3, b3, k3⟩
          go_wp2
          go_roundw
          case rel =>
            refine ⟨k + 1, by omega, by go_num, ?_, hbw.trans b3, ⟨all_next hlt HX.out HS.out hall.out⟩⟩
            rw [flat_next hlt HX.out]
            have e4 : Lib.byteCells (qEnc x) = Lib.runeCells x ++ Lib.strCells ⟨#[39]⟩ := by rw [HQ9.out, strCells_mark, ← Lib.byteCells_append, H39.out]; rfl
            rw [e4, ← List.append_assoc]
            exact .inr h3
          case measure => simp [intOf]; omega
        · have hq : ((Utf8.encode x).toList == ([39] : List UInt8)) = false := encNe hx0 h39
          have H39 := Aside0.mk h39
          clear h39
          go_wp2_with fail
          go_roundw
          case rel =>
            refine ⟨k + 1, by omega, by go_num, ?_, hbw, ⟨all_next hlt HX.out HS.out hall.out⟩⟩
            rw [flat_next hlt HX.out]
            have e4 : Lib.byteCells (qEnc x) = Lib.runeCells x := by unfold qEnc; rw [if_neg H39.out, Lib.byteCells_encodeRune]
            rw [e4]
            exact .inr h2
          case measure => simp [intOf]; omega
      | false =>
        have HB := Aside0.mk (qRes_bad hlt HX.out hs)
        have HV : Aside0 (Lib.validRune x = false) := ⟨by rw [validRune_eq]; exact hs⟩
        clear hs
        by_cases hw : -2147483648 ≤ x ∧ x ≤ 2147483647
        · obtain ⟨hw1, hw2⟩ := hw
          go_wp2_with (go_at_call 41; refine (Tryd.utf8_ValidRune x _).mono ?_; rw [HV.out]; rintro e w' ⟨rfl, rfl⟩)
          go_ret2
          rw [HRR.out, HB.out]
          exact ⟨rfl, hB2⟩
        · have hxr : -9223372036854775808 ≤ x ∧ x ≤ 9223372036854775807 ∨ True := .inr trivial
          have hne : ¬ x = wrap64 (wrap32 x) := by unfold wrap64 wrap32; omega
          go_wp2_with fail
          go_ret2
          rw [HRR.out, HB.out]
          exact ⟨rfl, hB2⟩
    · have hkl : k = l.length := by omega
      subst hkl
      have HA := Aside0.mk (show l.all signB = true by have := hall.out; rw [List.take_length] at this; exact this)
      have hlen : (l.flatMap qEnc).length ≤ 4 * l.length := flat_le l
      rw [List.take_length] at hI2
      obtain ⟨S, hS⟩ : ∃ S : ByteArray, S = ⟨(39 :: l.flatMap qEnc).toArray⟩ := ⟨_, rfl⟩
      have hs1 : S.size ≤ 4 * l.length + 1 := by rw [hS, ← length_dataQ]; show (39 :: l.flatMap qEnc).length ≤ _; rw [List.length_cons]; omega
      have hs2 : S.size + 1 ≤ 9223372036854775807 := by omega
      have hs3 : (9223372036854775807 < S.size + 1) = False := eq_false (by omega)
      have hfin : S ++ ⟨#[39]⟩ = (qRes l).1 := by
        rw [hS]
        unfold qRes
        rw [if_pos HA.out]
        apply ByteArray.ext
        simp [qText]
      have HF := Aside0.mk hfin
      have HF2 : Aside0 ((qRes l).2 = true) := ⟨by unfold qRes; rw [if_pos HA.out]⟩
      have hC := fun W => Tryd.Builder_String_any_k w.heap.size w.heap.size (39 :: l.flatMap qEnc) W
      rw [← hS] at hC
      have HC := Aside0.mk hC
      clear hfin hlen hS hC
      go_wp2_with fail
      refine (HC.out _ hI2 hsz).mono ?_
      rintro e W2 ⟨rfl, _, b2, _⟩
      go_wp2
      go_ret2
      rw [HRR.out, ← HF.out, HF2.out]
      exact ⟨rfl, hB2.trans b2⟩
def quote_Text.f (l0 : List Int) : Option (ByteArray × Bool) := if l0.length ≤ 1099511627776 then some (qRes l0) else none
theorem quote_Text.calls (A0 : Option Addr) (c0 : Nat) (l0 : List Int) (r1 : ByteArray) (r2 : Bool) (w : World) (hr0 : Kd.C (Kd.int .i64) w A0 l0.length l0) (hc0 : l0.length ≤ c0) (h : quote_Text.f l0 = some (r1, r2)) :
    Calls Tryd.prog 14 #[.slice A0 l0.length c0] w fun e w' => e = .returned (.tuple #[.string r1, .bool r2]) ∧ Below w.heap.size w w' := by
  unfold quote_Text.f at h
  split at h
  · rename_i hn
    have h := Option.some.inj h
    have h2 := qtext_walk A0 c0 l0 w hr0 hn
    rw [h] at h2
    exact h2
  · cases h
end Go.Proofs.YtmddkjmcbddhiaaDoor.P
