/-
  The walk of quote.Text: signs in quotes. Condition: no more than 2^40 numbers.
  Plain: signs in quotes: quotes doubled (esc), halved (unq), where they end; strings.ReplaceAll of two quotes by one is unq. No program in sight.
  The walks of quote.ends and quote.Read: signs in quotes are read. Condition: the text has fewer than 2^32 - 15 bytes.
  Plain: signs and their bytes: what is encoded is decoded as it was, and what quote.Read comes to over lists of bytes. No memory in sight.
-/
import Derived.Test.YtmddkjmcbddhiaaDoorGLibM
import Derived.Test.YtmddkjmcbddhiaaDoorP0M
import Derived.Lib.OthersKept
import Derived.Lib.Replace
import Derived.Lib.MapLaws
import Derived.Lib.RuneBytes
import Derived.Test.YtmddkjmcbddhiaaDoorGTakeM
import Derived.Deep.QuietTactic
import Derived.BigQuiet
import Derived.IntWalk
section
namespace Go.Proofs.YtmddkjmcbddhiaaDoor.P
open Go.RowKit Go.Proofs.YtmddkjmcbddhiaaDoorW.PrintWords
set_option linter.unusedVariables false
set_option linter.unusedSimpArgs false

/-- Is a number a sign's? -/
def signB (n : Int) : Bool := decide (0 ≤ n ∧ n ≤ 1114111 ∧ ¬ (55296 ≤ n ∧ n ≤ 57343))
/-- A sign's bytes in quotes. -/
def qEnc (n : Int) : List UInt8 := if n = 39 then [39, 39] else Lib.encodeRune n
def qText (l : List Int) : List UInt8 := 39 :: l.flatMap qEnc ++ [39]
theorem validRune_eq (c : Int) : Lib.validRune c = signB c := by
  unfold Lib.validRune signB
  exact decide_eq_decide.2 (by omega)
theorem qEnc_le (n : Int) : (qEnc n).length ≤ 4 := by
  unfold qEnc
  split
  · simp
  · have := Lib.runeCells_le n
    rw [Lib.runeCells_length] at this
    exact this.2
theorem flat_le : ∀ l : List Int, (l.flatMap qEnc).length ≤ 4 * l.length
  | [] => Nat.le_refl _
  | n :: t => by
    have h1 := qEnc_le n
    have h2 := flat_le t
    simp only [List.flatMap_cons, List.length_append, List.length_cons]
    omega
/-- What quote.Text comes to. -/
def qRes (l : List Int) : ByteArray × Bool := if l.all signB = true then (⟨(qText l).toArray⟩, true) else (⟨#[]⟩, false)
theorem strCells_mark : Lib.strCells (⟨#[39]⟩ : ByteArray) = Lib.byteCells [39] := rfl

theorem length_dataQ (s : ByteArray) : s.data.toList.length = s.size := by rw [Array.length_toList]; rfl
theorem enc39 : ((Utf8.encode 39).toList == ([39] : List UInt8)) = true := by
  rw [ByteArray.toList_eq]
  decide
theorem encNe {x : Int} (h0 : 0 ≤ x) (hne : x ≠ 39) : ((Utf8.encode x).toList == ([39] : List UInt8)) = false := by
  rw [ByteArray.toList_eq, beq_eq_false_iff_ne]
  unfold Utf8.encode
  simp only
  have hc : (if Utf8.valid x = true then x.toNat else Utf8.runeError) ≠ 39 := by
    split
    · omega
    · decide
  generalize (if Utf8.valid x = true then x.toNat else Utf8.runeError) = c at hc
  repeat' split
  · intro h
    simp only [List.cons.injEq, and_true] at h
    have h2 := congrArg UInt8.toNat h
    rw [UInt8.toNat_ofNat'] at h2
    have h3 : (39 : UInt8).toNat = 39 := rfl
    rw [h3] at h2
    omega
  all_goals (intro h; simp at h)
theorem rd_get (l : List Int) (k : Nat) (h : k < l.length) : rd l (k : Int) = l[k] := by
  unfold rd
  rw [Int.toNat_natCast, List.getD_eq_getElem?_getD, List.getElem?_eq_getElem h, Option.getD_some]
theorem take_next {l : List Int} {k : Nat} {x : Int} (h : k < l.length) (hx : x = l[k]) : (l.take (k + 1)) = l.take k ++ [x] := by
  rw [List.take_succ_eq_append_getElem h, hx]
theorem flat_next {l : List Int} {k : Nat} {x : Int} (h : k < l.length) (hx : x = l[k]) : Lib.byteCells (39 :: (l.take (k + 1)).flatMap qEnc) = Lib.byteCells (39 :: (l.take k).flatMap qEnc) ++ Lib.byteCells (qEnc x) := by
  rw [take_next h hx, ← Lib.byteCells_append]
  simp
theorem all_next {l : List Int} {k : Nat} {x : Int} (h : k < l.length) (hx : x = l[k]) (hs : signB x = true) (ha : (l.take k).all signB = true) : (l.take (k + 1)).all signB = true := by
  rw [take_next h hx, List.all_append, ha]
  simp [hs]
theorem qRes_bad {l : List Int} {k : Nat} {x : Int} (h : k < l.length) (hx : x = l[k]) (hs : signB x = false) : qRes l = (⟨#[]⟩, false) := by
  unfold qRes
  rw [if_neg]
  intro ha
  have := List.all_eq_true.1 ha x (by rw [hx]; exact List.getElem_mem h)
  rw [hs] at this
  cases this

set_option maxHeartbeats 4000000 in
set_option maxRecDepth 1000000 in
theorem qtext_walk (A0 : Option Addr) (c0 : Nat) (l : List Int) (w : World) (hr : Kd.C (Kd.int .i64) w A0 l.length l) (hn : l.length ≤ 1099511627776) :
    Calls Tryd.prog 14 #[.slice A0 l.length c0] w fun e w' => e = .returned (.tuple #[.string (qRes l).1, .bool (qRes l).2]) ∧ Below w.heap.size w w' := by
  have HR := Aside0.mk hr
  have HN := Aside0.mk hn
  obtain ⟨R, hR⟩ : ∃ R, R = qRes l := ⟨_, rfl⟩
  rw [← hR]
  have HRR := Aside0.mk hR
  clear hr hR
  go_enter Tryd.func14, Tryd.ntmps14
  go_wp2_with (go_at_call 40; refine (Tryd.Builder_WriteString_k w.heap.size w.heap.size [] ⟨#[39]⟩ _ (Lib.IsBuilderF.of (Lib.fresh_isBuilder 51 5 w)) (by simp; decide) (by simp)).mono ?_)
  rintro e W1 ⟨rfl, h1, b1, k1⟩
  have hI : Lib.IsBuilderF 51 5 w.heap.size w.heap.size (Lib.byteCells [39]) W1 := .inr (by rw [List.nil_append, strCells_mark] at h1; exact h1)
  have hB : Below w.heap.size w W1 := ((Below.refl _ w).alloc (Nat.le_refl _) _).trans b1
  clear h1 b1 k1
  go_wp2
  go_loopw [11] (fun i wr => ∃ (k : Nat), k ≤ l.length ∧ i = .int .i64 k ∧ Lib.IsBuilderF 51 5 w.heap.size w.heap.size (Lib.byteCells (39 :: (l.take k).flatMap qEnc)) wr ∧ Below w.heap.size w wr ∧ Aside0 ((l.take k).all signB = true))
    (fun i _ => l.length - (intOf i).toNat)
  case atStart => exact ⟨0, Nat.zero_le _, rfl, by rw [List.take_zero]; exact hI, hB, ⟨rfl⟩⟩
  case round =>
    obtain ⟨k, hk, rfl, hI2, hB2, hall⟩ := hrel
    have hkn : k ≤ 1099511627776 := Nat.le_trans hk HN.out
    have hsz : w.heap.size ≤ wr.heap.size := hB2.size
    clear hI hB
    by_cases hlt : k < l.length
    · obtain ⟨ad, e1, hc⟩ := Kd.at_int (Kd.C_below HR.out hB2) (k : Int) (by omega) (by omega)
      subst e1
      obtain ⟨x, hx⟩ : ∃ x, x = l[k] := ⟨_, rfl⟩
      have hc2 : wr.cell? (ad.add k) = some (.int .i64 x) := by
        rw [rd_get l k hlt, Int.toNat_natCast] at hc
        rw [hx]
        exact hc
      clear hc
      have HX := Aside0.mk hx
      clear hx
      cases hs : signB x with
      | true =>
        have hb0 : 0 ≤ x ∧ x ≤ 1114111 := by have := of_decide_eq_true hs; omega
        obtain ⟨hx0, hx1⟩ := hb0
        have HS := Aside0.mk hs
        clear hs
        have HV : Aside0 (Lib.validRune x = true) := ⟨by rw [validRune_eq]; exact HS.out⟩
        go_wp2_with (go_at_call 41; refine (Tryd.utf8_ValidRune x _).mono ?_; rw [HV.out]; rintro e w' ⟨rfl, rfl⟩)
        have hlen : ((l.take k).flatMap qEnc).length ≤ 4 * k := Nat.le_trans (flat_le _) (by have := List.length_take_le k l; omega)
        refine (Tryd.Builder_WriteRune_k w.heap.size w.heap.size _ x (by omega) (by omega) _ hI2 (by rw [Lib.byteCells_length, List.length_cons]; omega) hsz).mono ?_
        rintro e W2 ⟨rfl, h2, b2, k2⟩
        have hbw := hB2.trans (b2.mono (Nat.le_refl _))
        by_cases h39 : x = 39
        · have hq : ((Utf8.encode x).toList == ([39] : List UInt8)) = true := by rw [h39]; exact enc39
          have HQ9 : Aside0 (Lib.runeCells x = Lib.byteCells [39]) := ⟨by rw [h39]; unfold Lib.runeCells; rw [Lib.encodeRuneZ_one (by omega) (by omega)]; rfl⟩
          have H39 := Aside0.mk h39
          have hsz2 : w.heap.size ≤ W2.heap.size := Nat.le_trans hsz b2.size
          clear h39
          have hl2 : (Lib.byteCells (39 :: (l.take k).flatMap qEnc) ++ Lib.runeCells x).length + (⟨#[39]⟩ : ByteArray).size ≤ 140737488355328 := by
            have : (⟨#[39]⟩ : ByteArray).size = 1 := rfl
            rw [List.length_append, Lib.byteCells_length, List.length_cons, HQ9.out, Lib.byteCells_length, this]
            simp only [List.length_cons, List.length_nil]
            omega
          have HL2 := Aside0.mk hl2
          clear hl2
          go_wp2_with fail
          refine (Tryd.Builder_WriteString_k w.heap.size w.heap.size _ ⟨#[39]⟩ _ (.inr h2) HL2.out hsz2).mono ?_
          rintro e W3 ⟨rfl, h3, b3, k3⟩
          go_wp2
          go_roundw
          case rel =>
            refine ⟨k + 1, by omega, by go_num, ?_, hbw.trans b3, ⟨all_next hlt HX.out HS.out hall.out⟩⟩
            rw [flat_next hlt HX.out]
            have e4 : Lib.byteCells (qEnc x) = Lib.runeCells x ++ Lib.strCells ⟨#[39]⟩ := by rw [HQ9.out, strCells_mark, ← Lib.byteCells_append, H39.out]; rfl
            rw [e4, ← List.append_assoc]
            exact .inr h3
          case measure => simp [intOf]; omega
        · have hq : ((Utf8.encode x).toList == ([39] : List UInt8)) = false := encNe hx0 h39
          have H39 := Aside0.mk h39
          clear h39
          go_wp2_with fail
          go_roundw
          case rel =>
            refine ⟨k + 1, by omega, by go_num, ?_, hbw, ⟨all_next hlt HX.out HS.out hall.out⟩⟩
            rw [flat_next hlt HX.out]
            have e4 : Lib.byteCells (qEnc x) = Lib.runeCells x := by unfold qEnc; rw [if_neg H39.out, Lib.byteCells_encodeRune]
            rw [e4]
            exact .inr h2
          case measure => simp [intOf]; omega
      | false =>
        have HB := Aside0.mk (qRes_bad hlt HX.out hs)
        have HV : Aside0 (Lib.validRune x = false) := ⟨by rw [validRune_eq]; exact hs⟩
        clear hs
        by_cases hw : -2147483648 ≤ x ∧ x ≤ 2147483647
        · obtain ⟨hw1, hw2⟩ := hw
          go_wp2_with (go_at_call 41; refine (Tryd.utf8_ValidRune x _).mono ?_; rw [HV.out]; rintro e w' ⟨rfl, rfl⟩)
          go_ret2
          rw [HRR.out, HB.out]
          exact ⟨rfl, hB2⟩
        · have hxr : -9223372036854775808 ≤ x ∧ x ≤ 9223372036854775807 ∨ True := .inr trivial
          have hne : ¬ x = wrap64 (wrap32 x) := by unfold wrap64 wrap32; omega
          go_wp2_with fail
          go_ret2
          rw [HRR.out, HB.out]
          exact ⟨rfl, hB2⟩
    · have hkl : k = l.length := by omega
      subst hkl
      have HA := Aside0.mk (show l.all signB = true by have := hall.out; rw [List.take_length] at this; exact this)
      have hlen : (l.flatMap qEnc).length ≤ 4 * l.length := flat_le l
      rw [List.take_length] at hI2
      obtain ⟨S, hS⟩ : ∃ S : ByteArray, S = ⟨(39 :: l.flatMap qEnc).toArray⟩ := ⟨_, rfl⟩
      have hs1 : S.size ≤ 4 * l.length + 1 := by rw [hS, ← length_dataQ]; show (39 :: l.flatMap qEnc).length ≤ _; rw [List.length_cons]; omega
      have hs2 : S.size + 1 ≤ 9223372036854775807 := by omega
      have hs3 : (9223372036854775807 < S.size + 1) = False := eq_false (by omega)
      have hfin : S ++ ⟨#[39]⟩ = (qRes l).1 := by
        rw [hS]
        unfold qRes
        rw [if_pos HA.out]
        apply ByteArray.ext
        simp [qText]
      have HF := Aside0.mk hfin
      have HF2 : Aside0 ((qRes l).2 = true) := ⟨by unfold qRes; rw [if_pos HA.out]⟩
      have hC := fun W => Tryd.Builder_String_any_k w.heap.size w.heap.size (39 :: l.flatMap qEnc) W
      rw [← hS] at hC
      have HC := Aside0.mk hC
      clear hfin hlen hS hC
      go_wp2_with fail
      refine (HC.out _ hI2 hsz).mono ?_
      rintro e W2 ⟨rfl, _, b2, _⟩
      go_wp2
      go_ret2
      rw [HRR.out, ← HF.out, HF2.out]
      exact ⟨rfl, hB2.trans b2⟩
def quote_Text.f (l0 : List Int) : Option (ByteArray × Bool) := if l0.length ≤ 1099511627776 then some (qRes l0) else none
theorem quote_Text.calls (A0 : Option Addr) (c0 : Nat) (l0 : List Int) (r1 : ByteArray) (r2 : Bool) (w : World) (hr0 : Kd.C (Kd.int .i64) w A0 l0.length l0) (hc0 : l0.length ≤ c0) (h : quote_Text.f l0 = some (r1, r2)) :
    Calls Tryd.prog 14 #[.slice A0 l0.length c0] w fun e w' => e = .returned (.tuple #[.string r1, .bool r2]) ∧ Below w.heap.size w w' := by
  unfold quote_Text.f at h
  split at h
  · rename_i hn
    have h := Option.some.inj h
    have h2 := qtext_walk A0 c0 l0 w hr0 hn
    rw [h] at h2
    exact h2
  · cases h
end Go.Proofs.YtmddkjmcbddhiaaDoor.P
end
section
namespace Go.Proofs.YtmddkjmcbddhiaaDoor.Q
set_option linter.unusedVariables false
set_option linter.unusedSimpArgs false

/-- Two quotes made one. -/
def unq : List UInt8 → List UInt8
  | [] => []
  | [c] => [c]
  | c :: d :: t => if c = 39 ∧ d = 39 then 39 :: unq t else c :: unq (d :: t)
theorem unq_skip {c : UInt8} {t : List UInt8} (h : ¬ [39, 39] <+: c :: t) : unq (c :: t) = c :: unq t := by
  cases t with
  | nil => rfl
  | cons d u =>
    rw [unq, if_neg]
    rintro ⟨rfl, rfl⟩
    exact h ⟨u, rfl⟩
theorem unq_two (t : List UInt8) : unq (39 :: 39 :: t) = 39 :: unq t := by rw [unq, if_pos ⟨rfl, rfl⟩]
theorem unq_len : ∀ (n : Nat) (s : List UInt8), s.length ≤ n → (unq s).length ≤ s.length
  | _, [], _ => Nat.le_refl _
  | _, [c], _ => Nat.le_refl _
  | 0, c :: d :: t, h => by simp at h
  | n + 1, c :: d :: t, h => by
    rw [unq]
    simp only [List.length_cons] at h
    split
    · have := unq_len n t (by omega)
      simp only [List.length_cons]
      omega
    · have := unq_len n (d :: t) (by simp only [List.length_cons]; omega)
      simp only [List.length_cons] at this ⊢
      omega
theorem pre_iff (s : List UInt8) : ([39, 39] : List UInt8).isPrefixOf s = true ↔ [39, 39] <+: s := List.isPrefixOf_iff_prefix
theorem unq_miss : ∀ s : List UInt8, Lib.index s [39, 39] = -1 → unq s = s
  | [], _ => rfl
  | b :: l, h => by
    unfold Lib.index at h
    split at h
    · cases h
    · rename_i hp
      have hg := Lib.index_ge l [39, 39]
      have h2 : Lib.index l [39, 39] = -1 := by
        split at h
        · rename_i h3; exact beq_iff_eq.1 h3
        · omega
      rw [unq_skip (fun hh => hp ((pre_iff _).2 hh)), unq_miss l h2]
theorem unq_hit : ∀ (s : List UInt8) (i : Nat), Lib.index s [39, 39] = (i : Int) → unq s = s.take i ++ 39 :: unq (s.drop (i + 2))
  | [], i, h => by
    unfold Lib.index at h
    simp at h
  | b :: l, i, h => by
    unfold Lib.index at h
    split at h
    · rename_i hp
      obtain ⟨t, ht⟩ := (pre_iff _).1 hp
      have hi : i = 0 := by omega
      subst hi
      rw [← ht]
      simp only [List.cons_append, List.nil_append, List.take_zero, List.drop_succ_cons, List.drop_zero]
      exact unq_two t
    · rename_i hp
      have hg := Lib.index_ge l [39, 39]
      split at h
      · omega
      · rename_i h3
        have h4 : ¬ Lib.index l [39, 39] = -1 := fun e => h3 (beq_iff_eq.2 e)
        obtain ⟨j, hj⟩ : ∃ j : Nat, Lib.index l [39, 39] = (j : Int) := ⟨(Lib.index l [39, 39]).toNat, by omega⟩
        have hi : i = j + 1 := by omega
        subst hi
        rw [unq_skip (fun hh => hp ((pre_iff _).2 hh)), unq_hit l j hj]
        simp
theorem replaceK_unq : ∀ (k : Nat) (s : List UInt8), Lib.count s [39, 39] ≤ k → Lib.replaceK [39, 39] [39] k s = unq s
  | 0, s, h => by
    have hg := Lib.index_ge s [39, 39]
    by_cases hm : Lib.index s [39, 39] = -1
    · rw [unq_miss s hm]; rfl
    · obtain ⟨i, hi⟩ : ∃ i : Nat, Lib.index s [39, 39] = (i : Int) := ⟨(Lib.index s [39, 39]).toNat, by omega⟩
      have := Lib.count_hit (sub := [39, 39]) (by simp) hi
      omega
  | k + 1, s, h => by
    have hg := Lib.index_ge s [39, 39]
    by_cases hm : Lib.index s [39, 39] = -1
    · rw [unq_miss s hm, Lib.replaceK, if_pos (beq_iff_eq.2 hm)]
    · obtain ⟨i, hi⟩ : ∃ i : Nat, Lib.index s [39, 39] = (i : Int) := ⟨(Lib.index s [39, 39]).toNat, by omega⟩
      have hc := Lib.count_hit (sub := [39, 39]) (by simp) hi
      rw [Lib.replaceK_hit _ _ _ _ _ hi, replaceK_unq k _ (by simp only [List.length_cons, List.length_nil] at hc ⊢; omega), unq_hit s i hi]
      simp
theorem replaceAll_unq (s : List UInt8) : Lib.replaceAll s [39, 39] [39] = unq s := by
  unfold Lib.replaceAll Lib.replace
  rw [if_neg (by decide)]
  unfold Lib.replaceNum
  rw [if_pos (.inl (by decide))]
  exact replaceK_unq _ s (Nat.le_refl _)

/-- Every quote doubled. -/
def esc : List UInt8 → List UInt8
  | [] => []
  | c :: t => if c = 39 then 39 :: 39 :: esc t else c :: esc t
theorem esc_append : ∀ a b : List UInt8, esc (a ++ b) = esc a ++ esc b
  | [], b => rfl
  | c :: t, b => by
    simp only [List.cons_append, esc]
    split
    · rw [esc_append t b]; rfl
    · rw [esc_append t b]; rfl
theorem unq_esc : ∀ a : List UInt8, unq (esc a) = a
  | [] => rfl
  | c :: t => by
    rw [esc]
    split
    · rename_i h
      rw [unq_two, unq_esc t, h]
    · rename_i h
      rw [unq_skip (fun hh => h (List.cons_prefix_cons.1 hh).1.symm), unq_esc t]
/-- Where signs end: the place of the first quote that no quote follows, quotes taken in twos; none: nowhere. -/
def endsL : List UInt8 → Option Nat
  | [] => none
  | [c] => if c = 39 then some 0 else none
  | c :: d :: t => if c = 39 then (if d = 39 then (endsL t).map (· + 2) else some 0) else (endsL (d :: t)).map (· + 1)
theorem endsL_skip {c : UInt8} (t : List UInt8) (h : c ≠ 39) : endsL (c :: t) = (endsL t).map (· + 1) := by
  cases t with
  | nil => simp [endsL, h]
  | cons d u => rw [endsL, if_neg h]
theorem endsL_two (t : List UInt8) : endsL (39 :: 39 :: t) = (endsL t).map (· + 2) := by rw [endsL, if_pos rfl, if_pos rfl]
theorem endsL_end {t : List UInt8} (h : ∀ u, t ≠ 39 :: u) : endsL (39 :: t) = some 0 := by
  cases t with
  | nil => rfl
  | cons d u =>
    rw [endsL, if_pos rfl, if_neg]
    rintro rfl
    exact h u rfl
theorem endsL_esc {r : List UInt8} (h : ∀ u, r ≠ 39 :: u) : ∀ a : List UInt8, endsL (esc a ++ 39 :: r) = some (esc a).length
  | [] => endsL_end h
  | c :: t => by
    rw [esc]
    split
    · simp only [List.cons_append, endsL_two, endsL_esc h t, Option.map_some, List.length_cons]
    · rename_i hc
      simp only [List.cons_append, endsL_skip _ hc, endsL_esc h t, Option.map_some, List.length_cons]
/-- What ends is doubled quotes, a quote, and what begins with none. -/
theorem endsL_some : ∀ (n : Nat) (s : List UInt8) (e : Nat), s.length ≤ n → endsL s = some e → ∃ a r, s = esc a ++ 39 :: r ∧ (esc a).length = e ∧ ∀ u, r ≠ 39 :: u
  | _, [], e, _, h => by cases h
  | _, [c], e, _, h => by
    unfold endsL at h
    split at h
    · rename_i hc
      obtain rfl := Option.some.inj h
      exact ⟨[], [], by rw [hc]; rfl, rfl, fun u h => by cases h⟩
    · cases h
  | 0, c :: d :: t, e, hn, _ => by simp at hn
  | n + 1, c :: d :: t, e, hn, h => by
    simp only [List.length_cons] at hn
    by_cases hc : c = 39
    · subst hc
      by_cases hd : d = 39
      · subst hd
        rw [endsL_two] at h
        obtain ⟨e2, h1, h2⟩ := Option.map_eq_some_iff.1 h
        obtain ⟨a, r, rfl, h4, h5⟩ := endsL_some n t e2 (by omega) h1
        exact ⟨39 :: a, r, by rw [esc, if_pos rfl]; rfl, by rw [esc, if_pos rfl]; simp only [List.length_cons]; omega, h5⟩
      · rw [endsL, if_pos rfl, if_neg hd] at h
        obtain rfl := Option.some.inj h
        exact ⟨[], d :: t, rfl, rfl, fun u hu => hd (List.cons.inj hu).1⟩
    · rw [endsL_skip _ hc] at h
      obtain ⟨e2, h1, h2⟩ := Option.map_eq_some_iff.1 h
      obtain ⟨a, r, h3, h4, h5⟩ := endsL_some n (d :: t) e2 (by simp only [List.length_cons]; omega) h1
      exact ⟨c :: a, r, by rw [h3, esc, if_neg hc]; rfl, by rw [esc, if_neg hc]; simp only [List.length_cons]; omega, h5⟩
end Go.Proofs.YtmddkjmcbddhiaaDoor.Q
end
section
namespace Go.Proofs.YtmddkjmcbddhiaaDoor.P
open Go.RowKit Go.Proofs.YtmddkjmcbddhiaaDoorW.PrintWords
set_option linter.unusedVariables false
set_option linter.unusedSimpArgs false

/-- Where signs end that begin at place k; -1: nowhere. -/
def endsAt (s : ByteArray) : Nat → Nat → Int
  | 0, _ => -1
  | b + 1, k => if h : k < s.size then (if s[k].toNat ≠ 39 then endsAt s b (k + 1) else if h2 : k + 1 < s.size then (if s[k + 1].toNat ≠ 39 then (k : Int) else endsAt s b (k + 2)) else (k : Int)) else -1
def endsI (s : ByteArray) : Int := endsAt s s.size 0
theorem endsAt_end (s : ByteArray) (b k : Nat) (h : ¬ k < s.size) : endsAt s b k = -1 := by
  cases b <;> simp [endsAt, h]

set_option maxHeartbeats 4000000 in
set_option maxRecDepth 1000000 in
theorem ends_walk (s : ByteArray) (w : World) (hs : s.size ≤ 4611686018427387904) :
    Calls Tryd.prog 46 #[.string s] w fun e w' => e = .returned (.int .i64 (endsI s)) ∧ ∃ nd, w' = w.drewN nd := by
  obtain ⟨R, hR⟩ : ∃ R, R = endsI s := ⟨_, rfl⟩
  rw [← hR]
  have HRR := Aside0.mk hR
  clear hR
  go_enter Tryd.func46, Tryd.ntmps46
  go_wp2
  go_loopw [3] (fun i wr => ∃ (k b : Nat), k ≤ s.size ∧ i = .int .i64 k ∧ s.size ≤ k + b ∧ Aside0 (endsAt s b k = endsI s) ∧ ∃ nd, wr = w.drewN nd) (fun i _ => s.size - (intOf i).toNat)
  case atStart => exact ⟨0, s.size, Nat.zero_le _, rfl, by omega, ⟨rfl⟩, 0, rfl⟩
  case round =>
    obtain ⟨k, b, hk, rfl, hb, he, nd, rfl⟩ := hrel
    by_cases hlt : k < s.size
    · obtain ⟨b, rfl⟩ : ∃ m, b = m + 1 := ⟨b - 1, by omega⟩
      have hks : (k : Int) < (s.size : Int) := by omega
      have hk0 : (0 : Int) ≤ (k : Int) := by omega
      by_cases h1 : s[k].toNat = 39
      · have hq : (((s[k].toNat : Nat) : Int) != (((⟨#[39]⟩ : ByteArray)[0]'(by decide)).toNat : Int)) = false := by rw [h1]; rfl
        by_cases h2 : k + 1 < s.size
        · have hg : (((k : Int) + 1) == (s.size : Int)) = false := beq_eq_false_iff_ne.2 (by omega)
          have hg2 : (k + 1 == s.size) = false := beq_eq_false_iff_ne.2 (by omega)
          have hg3 : decide (k + 1 = s.size) = false := decide_eq_false (by omega)
          have hg4 : decide ((k : Int) + 1 = (s.size : Int)) = false := decide_eq_false (by omega)
          have hks2 : (k : Int) + 1 < (s.size : Int) := by omega
          by_cases h3 : s[k + 1].toNat = 39
          · have HE : Aside0 (endsAt s b (k + 2) = endsI s) := ⟨by rw [← he.out, endsAt, dif_pos hlt, if_neg (by simpa using h1), dif_pos h2, if_neg (by simpa using h3)]⟩
            have hq2 : (((s[k + 1].toNat : Nat) : Int) != (((⟨#[39]⟩ : ByteArray)[0]'(by decide)).toNat : Int)) = false := by rw [h3]; rfl
            clear h1 h3
            go_wp2
            go_quiet (fail)
            go_wp2
            have hwr : IntKind.i64.wrap ((k : Int) + 1) = (k : Int) + 1 := IntWalk.i64_in _ (by omega)
            have hw0 : (0 : Int) ≤ (k : Int) + 1 := by clear hwr; omega
            have hw1 : ((k : Int) + 1).toNat = k + 1 := by clear hwr; omega
            go_quiet (fail)
            clear hwr
            go_wp2
            go_roundw
            case rel => exact ⟨k + 2, b, by omega, by go_num, by omega, HE, _, by first | rfl | (simp only [World.drewN_drewN]; rfl)⟩
            case measure => simp [intOf]; omega
          · have HE : Aside0 ((k : Int) = endsI s) := ⟨by rw [← he.out, endsAt, dif_pos hlt, if_neg (by simpa using h1), dif_pos h2, if_pos h3]⟩
            have hq2 : (((s[k + 1].toNat : Nat) : Int) != (((⟨#[39]⟩ : ByteArray)[0]'(by decide)).toNat : Int)) = true := bne_iff_ne.2 (fun e => h3 (by have e2 : (((⟨#[39]⟩ : ByteArray)[0]'(by decide)).toNat : Int) = 39 := rfl; omega))
            clear h1 h3
            go_wp2
            go_quiet (fail)
            go_wp2
            have hwr : IntKind.i64.wrap ((k : Int) + 1) = (k : Int) + 1 := IntWalk.i64_in _ (by omega)
            have hw0 : (0 : Int) ≤ (k : Int) + 1 := by clear hwr; omega
            have hw1 : ((k : Int) + 1).toNat = k + 1 := by clear hwr; omega
            go_quiet (fail)
            clear hwr
            go_wp2
            go_ret
            refine ⟨?_, _, by first | rfl | (simp only [World.drewN_drewN]; rfl)⟩
            show Ending.returned (Value.int .i64 (k : Int)) = _
            rw [HRR.out, HE.out]
        · have hg : (((k : Int) + 1) == (s.size : Int)) = true := beq_iff_eq.2 (by omega)
          have hg2 : (k + 1 == s.size) = true := beq_iff_eq.2 (by omega)
          have hg3 : decide (k + 1 = s.size) = true := decide_eq_true (by omega)
          have hg4 : decide ((k : Int) + 1 = (s.size : Int)) = true := decide_eq_true (by omega)
          have HE : Aside0 ((k : Int) = endsI s) := ⟨by rw [← he.out, endsAt, dif_pos hlt, if_neg (by simpa using h1), dif_neg h2]⟩
          clear h1 h2
          go_wp2
          go_quiet (fail)
          go_wp2
          have hwr : IntKind.i64.wrap ((k : Int) + 1) = (k : Int) + 1 := IntWalk.i64_in _ (by omega)
          go_quiet (fail)
          clear hwr
          go_wp2
          go_ret
          refine ⟨?_, _, by first | rfl | (simp only [World.drewN_drewN]; rfl)⟩
          show Ending.returned (Value.int .i64 (k : Int)) = _
          rw [HRR.out, HE.out]
      · have HE : Aside0 (endsAt s b (k + 1) = endsI s) := ⟨by rw [← he.out, endsAt, dif_pos hlt, if_pos h1]⟩
        have hq2 : (((s[k].toNat : Nat) : Int) != (((⟨#[39]⟩ : ByteArray)[0]'(by decide)).toNat : Int)) = true := bne_iff_ne.2 (fun e => h1 (by have e2 : (((⟨#[39]⟩ : ByteArray)[0]'(by decide)).toNat : Int) = 39 := rfl; omega))
        clear h1
        go_wp2
        go_quiet (fail)
        go_wp2
        go_roundw
        case rel => exact ⟨k + 1, b, by omega, by go_num, by omega, HE, _, rfl⟩
        case measure => simp [intOf]; omega
    · have HE : Aside0 ((-1 : Int) = endsI s) := ⟨by rw [← he.out, endsAt_end s b k hlt]⟩
      go_wp2
      go_ret
      rw [HRR.out, ← HE.out]
      exact ⟨rfl, _, rfl⟩

theorem length_dataR (s : ByteArray) : s.data.toList.length = s.size := by rw [Array.length_toList]; rfl
theorem ext_takeR (s : ByteArray) (n : Nat) : (s.extract 0 n).toList = s.data.toList.take n := by
  rw [ByteArray.toList_eq]
  simp
theorem cutPrefix_q (s p : ByteArray) : strings_CutPrefix.f s p = some (if p.data.toList <+: s.data.toList then (s.extract p.size s.size, true) else (s, false)) := by
  unfold strings_CutPrefix.f stringslite_CutPrefix.f stringslite_HasPrefix.f
  have h1 := length_dataR s
  have h2 := length_dataR p
  by_cases hl : (s.size : Int) ≥ (p.size : Int)
  · rw [if_pos hl, if_pos (by omega), if_pos (by omega)]
    simp only [Int.toNat_natCast, ext_takeR, Option.bind_some]
    by_cases hp : p.data.toList <+: s.data.toList
    · have he : s.data.toList.take p.size = p.data.toList := by rw [← h2]; exact (List.prefix_iff_eq_take.1 hp).symm
      rw [he, ByteArray.toList_eq, beq_self_eq_true, if_pos rfl, if_pos (by omega), if_pos (by omega), if_pos hp]
      rfl
    · have he : ¬ s.data.toList.take p.size = p.data.toList := by
        intro he
        exact hp (List.prefix_iff_eq_take.2 (by rw [h2]; exact he.symm))
      rw [ByteArray.toList_eq, if_neg (by simpa using he), if_neg hp]
      rfl
  · rw [if_neg hl]
    simp only [Option.bind_some]
    have hp : ¬ p.data.toList <+: s.data.toList := by
      intro hp
      have := hp.length_le
      omega
    rw [if_neg (by simp), if_neg hp]
    rfl

/-- The runes of a text, read from place pos on, by at most b runes. -/
def runesFrom (s : ByteArray) : Nat → Nat → List Int
  | 0, _ => []
  | b + 1, pos => if pos < s.size then ((Utf8.decode s pos).1 : Int) :: runesFrom s b (pos + (Utf8.decode s pos).2) else []
def runesOf (s : ByteArray) : List Int := runesFrom s s.size 0
theorem runesFrom_end (s : ByteArray) (b pos : Nat) (h : ¬ pos < s.size) : runesFrom s b pos = [] := by
  cases b <;> simp [runesFrom, h]
theorem decode_posQ (s : ByteArray) (pos : Nat) (h : pos < s.size) : 1 ≤ (Utf8.decode s pos).2 := by
  by_cases ha : (s[pos]'h).toNat < 128
  · rw [decode_ascii s pos h ha]
    exact Nat.le_refl _
  · exact (decode_high s pos h (by omega)).2
theorem endsAt_lt (s : ByteArray) : ∀ (b k : Nat), endsAt s b k < (s.size : Int) ∧ -1 ≤ endsAt s b k
  | 0, k => by simp only [endsAt]; omega
  | b + 1, k => by
    have h1 := endsAt_lt s b (k + 1)
    have h2 := endsAt_lt s b (k + 2)
    unfold endsAt
    repeat' split
    all_goals omega
/-- What quote.Read comes to. -/
def qIn (s : ByteArray) : ByteArray := (s.extract 1 s.size).extract 0 (endsI (s.extract 1 s.size)).toNat
def qRest (s : ByteArray) : ByteArray := (s.extract 1 s.size).extract ((endsI (s.extract 1 s.size)).toNat + 1) (s.extract 1 s.size).size
def qOne (s : ByteArray) : ByteArray := ⟨(Lib.replaceAll (qIn s).data.toList [39, 39] [39]).toArray⟩
def qOk (s : ByteArray) : Bool := decide ([39] <+: s.data.toList) && (decide (0 ≤ endsI (s.extract 1 s.size)) && Lib.validD (qIn s).data.toList)
def quote_Read.f (s : ByteArray) : Option (List Int × ByteArray × Bool) :=
  if s.size < 4294967281 then some (if qOk s = true then (runesOf (qOne s), qRest s, true) else ([], ⟨#[]⟩, false)) else none
theorem ends_calls (s : ByteArray) (r : Int) (w : World) (hs : s.size ≤ 4611686018427387904) (h : Aside0 (r = endsI s)) :
    Calls Tryd.prog 46 #[.string s] w fun e w' => e = .returned (.int .i64 r) ∧ ∃ nd, w' = w.drewN nd := by
  rw [h.out]
  exact ends_walk s w hs

set_option maxHeartbeats 8000000 in
set_option maxRecDepth 1000000 in
theorem qread_no (s : ByteArray) (w : World) (hE : Env w) (hs : s.size < 4294967281) (hp : ¬ [39] <+: s.data.toList) :
    Calls Tryd.prog 16 #[.string s] w fun e w' => e = .returned (.tuple #[.slice none 0 0, .string ⟨#[]⟩, .bool false]) ∧ Below w.heap.size w w' := by
  have hc : strings_CutPrefix.f s ⟨#[39]⟩ = some (s, false) := by rw [cutPrefix_q, if_neg hp]
  have HC := Aside0.mk hc
  obtain ⟨r, hr⟩ : ∃ r, r = endsI s := ⟨_, rfl⟩
  have HRR := Aside0.mk hr
  have HS := Aside0.mk (show s.size ≤ 4611686018427387904 by omega)
  clear hc hr hp
  go_enter Tryd.func16, Tryd.ntmps16
  go_wp2_with (first
    | (go_at_call 45; (with_reducible refine (strings_CutPrefix.calls _ _ s false _ HC.out).mono ?_); rintro e w' ⟨rfl, ⟨nd, rfl⟩⟩)
    | (go_at_call 46; (with_reducible refine (ends_calls _ r _ HS.out HRR).mono ?_); rintro e w' ⟨rfl, ⟨nd2, rfl⟩⟩))
  go_ret3
  exact ⟨rfl, pw_below_drewN (Below.refl _ _) _⟩

theorem valid_calls (s : ByteArray) (r : Bool) (w : World) (hE : Env w) (hs : s.size ≤ 4611686018427387904) (h : Aside0 (Lib.validD s.data.toList = r)) :
    Calls Tryd.prog 47 #[.string s] w fun e w' => e = .returned (.bool r) ∧ Below w.heap.size w w' := by
  refine utf8_ValidString.calls s r w hE ?_
  unfold utf8_ValidString.f
  rw [if_pos (by omega), h.out]
theorem drewN_below (w : World) (n : Nat) : Below w.heap.size w (w.drewN n) := pw_below_drewN (Below.refl _ _) _

set_option maxHeartbeats 8000000 in
set_option maxRecDepth 1000000 in
theorem qread_short (s s1 : ByteArray) (w : World) (hE : Env w) (hs : s1.size < 4294967281) (hp : Aside0 (strings_CutPrefix.f s ⟨#[39]⟩ = some (s1, true))) (he : endsI s1 < 0) :
    Calls Tryd.prog 16 #[.string s] w fun e w' => e = .returned (.tuple #[.slice none 0 0, .string ⟨#[]⟩, .bool false]) ∧ Below w.heap.size w w' := by
  obtain ⟨r, hr⟩ : ∃ r, r = endsI s1 := ⟨_, rfl⟩
  rw [← hr] at he
  have hd : decide (r < 0) = true := decide_eq_true he
  have HRR := Aside0.mk hr
  have HS := Aside0.mk (show s1.size ≤ 4611686018427387904 by omega)
  clear hr
  go_enter Tryd.func16, Tryd.ntmps16
  go_wp2_with (first
    | (go_at_call 45; (with_reducible refine (strings_CutPrefix.calls _ _ s1 true _ hp.out).mono ?_); rintro e w' ⟨rfl, ⟨nd, rfl⟩⟩)
    | (go_at_call 46; (with_reducible refine (ends_calls _ r _ HS.out HRR).mono ?_); rintro e w' ⟨rfl, ⟨nd2, rfl⟩⟩))
  go_ret3
  exact ⟨rfl, pw_below_drewN (Below.refl _ _) _⟩

set_option maxHeartbeats 8000000 in
set_option maxRecDepth 1000000 in
theorem qread_bad (s s1 : ByteArray) (e1 : Nat) (w : World) (hE : Env w) (hs : s1.size < 4294967281) (hp : Aside0 (strings_CutPrefix.f s ⟨#[39]⟩ = some (s1, true))) (he : Aside0 ((e1 : Int) = endsI s1)) (hlt : e1 < s1.size) (hv : Aside0 (Lib.validD (s1.extract 0 e1).data.toList = false)) :
    Calls Tryd.prog 16 #[.string s] w fun e w' => e = .returned (.tuple #[.slice none 0 0, .string ⟨#[]⟩, .bool false]) ∧ Below w.heap.size w w' := by
  have HS := Aside0.mk (show s1.size ≤ 4611686018427387904 by omega)
  have HE := Aside0.mk hE
  have hz : (s1.extract 0 e1).size ≤ 4611686018427387904 := by rw [ByteArray.size_extract]; omega
  have HZ := Aside0.mk hz
  clear hz hE
  go_enter Tryd.func16, Tryd.ntmps16
  go_wp2_with (first
    | (go_at_call 45; (with_reducible refine (strings_CutPrefix.calls _ _ s1 true _ hp.out).mono ?_); rintro e w' ⟨rfl, ⟨nd, rfl⟩⟩)
    | (go_at_call 46; (with_reducible refine (ends_calls _ (e1 : Int) _ HS.out he).mono ?_); rintro e w' ⟨rfl, ⟨nd2, rfl⟩⟩))
  refine (valid_calls _ false _ (HE.out.below (drewN_below _ _)) HZ.out hv).mono ?_
  rintro e w1 ⟨rfl, hb⟩
  go_wp2
  go_ret3
  exact ⟨rfl, (drewN_below _ _).trans hb⟩

set_option maxHeartbeats 8000000 in
set_option maxRecDepth 1000000 in
theorem qread_yes (s s1 S : ByteArray) (e1 : Nat) (w : World) (hE : Env w) (hs : s1.size < 4294967281) (hp : Aside0 (strings_CutPrefix.f s ⟨#[39]⟩ = some (s1, true))) (he : Aside0 ((e1 : Int) = endsI s1)) (hlt : e1 < s1.size) (hv : Aside0 (Lib.validD (s1.extract 0 e1).data.toList = true))
    (hS : Aside0 (S = ⟨(Lib.replaceAll (s1.extract 0 e1).data.toList [39, 39] [39]).toArray⟩)) (hSz : S.size < 4294967281) :
    Calls Tryd.prog 16 #[.string s] w fun e w' => ∃ v_ : Value, e = .returned (.tuple #[v_, .string (s1.extract (e1 + 1) s1.size), .bool true]) ∧ Kd.R (Kd.int .i64) 3 w' w.heap.size (fun _ => True) v_ (runesOf S) ∧ Below w.heap.size w w' := by
  have HS := Aside0.mk (show s1.size ≤ 4611686018427387904 by omega)
  have HE := Aside0.mk hE
  have hz : (s1.extract 0 e1).size < 4294967281 := by rw [ByteArray.size_extract]; omega
  have HZ := Aside0.mk hz
  clear hz hE
  go_enter Tryd.func16, Tryd.ntmps16
  go_wp2_with (first
    | (go_at_call 45; (with_reducible refine (strings_CutPrefix.calls _ _ s1 true _ hp.out).mono ?_); rintro e w' ⟨rfl, ⟨nd, rfl⟩⟩)
    | (go_at_call 46; (with_reducible refine (ends_calls _ (e1 : Int) _ HS.out he).mono ?_); rintro e w' ⟨rfl, ⟨nd2, rfl⟩⟩))
  refine (valid_calls _ true _ (HE.out.below (drewN_below _ _)) (by have := HZ.out; omega) hv).mono ?_
  rintro e w1 ⟨rfl, hb⟩
  have hB := (drewN_below w (nd + nd2)).trans hb
  have hE1 := HE.out.below hB
  obtain ⟨m, hm⟩ := hE1.ml
  have HM := Aside0.mk hm
  clear hb hE1 hm
  have hC : (s1.extract 0 e1).size + Lib.countB (s1.extract 0 e1) ⟨#[39, 39]⟩ * (⟨#[39]⟩ : ByteArray).size ≤ 140737488355328 := by
    have h1 := Lib.countB_mul_le ⟨#[39, 39]⟩ (by decide) _ (s1.extract 0 e1) (Nat.le_refl _)
    have h2 : (⟨#[39, 39]⟩ : ByteArray).size = 2 := rfl
    have h3 : (⟨#[39]⟩ : ByteArray).size = 1 := rfl
    have h4 := HZ.out
    rw [h2] at h1
    rw [h3]
    omega
  have HC := Aside0.mk hC
  clear hC
  go_wp2_with fail
  refine (Tryd.strings_ReplaceAll _ ⟨#[39, 39]⟩ ⟨#[39]⟩ m _ HZ.out HM.out (by decide) HC.out).mono ?_
  rintro e w2 ⟨rfl, hb⟩
  have hB2 := hB.trans (hb.mono hB.size)
  rw [show (⟨(Lib.replaceAll (s1.extract 0 e1).data.toList [39, 39] [39]).toArray⟩ : ByteArray) = S from hS.out.symm]
  have HB := Aside0.mk hB2
  have HSZ := Aside0.mk hSz
  clear hB hb hB2 HM hSz
  go_wp2
  go_loopw [2] (fun v wr => ∃ (pos b : Nat) (acc : List Int), wr.heap[w2.heap.size]? = some (.stringIter S pos) ∧ Aside0 (Kd.R (Kd.int .i64) 3 wr w.heap.size (fun k => k ≠ w2.heap.size) v acc) ∧ Aside0 (Below w.heap.size w wr) ∧ Aside0 (acc ++ runesFrom S b pos = runesOf S) ∧ S.size ≤ pos + b ∧ Aside0 (acc.length ≤ pos))
    (fun _ wr => S.size - wr.iterPos w2.heap.size)
  case atStart =>
    exact ⟨0, S.size, [], World.iter_heap w2 S 0, ⟨Kd.R_nil _ _ _ _ _⟩, ⟨HB.out.alloc HB.out.size _⟩, ⟨rfl⟩, by omega, ⟨by simp⟩⟩
  case round =>
    obtain ⟨pos, b, acc, hit, hR, hBr, hacc, hpb, hal⟩ := hrel
    have hgs : w2.heap.size < wr.heap.size := (Array.getElem?_eq_some_iff.1 hit).1
    have HG := Aside0.mk hgs
    clear hgs
    by_cases hp2 : pos < S.size
    · have hnx : ∀ ty, (Instr.next (.pointer (some ⟨w2.heap.size, 0, none⟩)) true ty).run Tryd.prog wr = _ := fun ty => Lib.run_next_any_at wr w2.heap.size S pos ty hit hp2
      have hwd := decode_posQ S pos hp2
      have hit2 := Lib.iterAt_heap wr w2.heap.size S pos (pos + (Utf8.decode S pos).2) hit
      have hbw2 := Lib.below_iterAt hBr.out (k := w2.heap.size) HB.out.size S (pos + (Utf8.decode S pos).2)
      have HBW := Aside0.mk hbw2
      have HR2 : Aside0 (Kd.R (Kd.int .i64) 3 (wr.iterAt w2.heap.size S (pos + (Utf8.decode S pos).2)) w.heap.size (fun k => k ≠ w2.heap.size) _ acc) := ⟨Kd.R_move hR.out (fun k hk => Lib.iterAt_other _ _ _ _ _ hk)⟩
      obtain ⟨b, rfl⟩ : ∃ m, b = m + 1 := ⟨b - 1, by omega⟩
      have hu : runesFrom S (b + 1) pos = ((Utf8.decode S pos).1 : Int) :: runesFrom S b (pos + (Utf8.decode S pos).2) := by
        rw [runesFrom, if_pos hp2]
      have HU := Aside0.mk hu
      have hm : (wr.iterAt w2.heap.size S (pos + (Utf8.decode S pos).2)).iterPos w2.heap.size = pos + (Utf8.decode S pos).2 := by
        simp only [World.iterPos, hit2]
      have hm0 : wr.iterPos w2.heap.size = pos := by simp only [World.iterPos, hit]
      have HM := Aside0.mk hm
      have HM0 := Aside0.mk hm0
      have HIT := Aside0.mk hit2
      have hd1 := decode_le S pos
      have hpS : pos < 4294967281 := Nat.lt_trans hp2 HSZ.out
      have HSI : Aside0 (w2.heap.size < (wr.iterAt w2.heap.size S (pos + (Utf8.decode S pos).2)).heap.size) := ⟨by rw [Lib.iterAt_size]; exact HG.out⟩
      clear hu hm hm0 hbw2 hit2
      go_wp2_with ((with_reducible refine gate_builtin (b := .append) (xs := #[.tmp 36, .tmp 39]) rfl ?_); at_builtin; refine Kd.R_append (Kd.int .i64) (w0 := w) w.heap.size rfl (.tmp 36) (.tmp 39) 22 3 (.int .i64 0) 8 rfl Tryd.underlying22 info3 rfl (by decide) (by omega) _ acc ((Utf8.decode S pos).1 : Int) [.int .i64 ((Utf8.decode S pos).1 : Int)] (fun k => k ≠ w2.heap.size) (fun _ => False) rfl rfl ?aP (fun _ hk => hk.elim) ?aF ?aO ?aB ?aS ?aL ?_; (case aP => exact rfl); (case aB => exact HBW.out); (case aF => exact (fun k hk => by have := HSI.out; omega)); (case aO => exact HR2.out); (case aS => exact HBW.out.size); (case aL => have := hal.out; omega); intro v1 w8 ho hb hg hat; have HO := Aside0.mk ho; have HBN := Aside0.mk hb; have HGR := Aside0.mk hg; clear ho hb hg hat)
      go_roundw
      case rel =>
        refine ⟨pos + (Utf8.decode S pos).2, b, acc ++ [((Utf8.decode S pos).1 : Int)], ?_, HO, HBN, ⟨?_⟩, by omega, ⟨?_⟩⟩
        · exact (HGR.out.block _ HSI.out (fun e => HR2.out.1 _ e.symm rfl)).trans HIT.out
        · rw [← hacc.out, HU.out]; simp
        · rw [List.length_append]; have := hal.out; simp; omega
      case measure =>
        have hit3 := (HGR.out.block _ HSI.out (fun e => HR2.out.1 _ e.symm rfl)).trans HIT.out
        rw [HM0.out]
        simp only [World.iterPos, hit3]
        omega
    · have hnx : ∀ ty, (Instr.next (.pointer (some ⟨w2.heap.size, 0, none⟩)) true ty).run Tryd.prog wr = _ := fun ty => Lib.run_next_end_at wr w2.heap.size S pos ty hit hp2
      have HF : Aside0 (acc = runesOf S) := ⟨by rw [← hacc.out, runesFrom_end S b pos hp2, List.append_nil]⟩
      go_wp2
      have hwr : IntKind.i64.wrap ((e1 : Int) + 1) = (e1 : Int) + 1 := IntWalk.i64_in _ (by omega)
      have hw0 : (0 : Int) ≤ (e1 : Int) + 1 := by clear hwr; omega
      have hw1 : ((e1 : Int) + 1).toNat = e1 + 1 := by clear hwr; omega
      have hw2 : (e1 : Int) + 1 ≤ (s1.size : Int) := by clear hwr hw1; omega
      go_quiet (fail)
      go_wp2
      go_ret3
      refine ⟨_, rfl, ?_, ?_⟩
      · rw [← HF.out]
        exact Kd.R_drewN (Kd.R_mono hR.out (fun _ _ => trivial)) _
      · exact pw_below_drewN hBr.out _
theorem replace_len (s : ByteArray) (hs : s.size < 4294967281) : (⟨(Lib.replaceAll s.data.toList [39, 39] [39]).toArray⟩ : ByteArray).size ≤ s.size := by
  have h1 := Q.unq_len _ s.data.toList (Nat.le_refl _)
  rw [← Q.replaceAll_unq] at h1
  rw [← length_dataR, ← length_dataR s]
  exact h1
theorem quote_Read.calls (a0 : ByteArray) (r1 : List Int) (r2 : ByteArray) (r3 : Bool) (w : World) (hE_ : Env w) (h : quote_Read.f a0 = some (r1, r2, r3)) :
    Calls Tryd.prog 16 #[.string a0] w fun e w' => ∃ v_ : Value, e = .returned (.tuple #[v_, .string r2, .bool r3]) ∧ Kd.R (Kd.int .i64) 3 w' w.heap.size (fun _ => True) v_ r1 ∧ Below w.heap.size w w' := by
  unfold quote_Read.f at h
  split at h
  · rename_i hs
    have h := Option.some.inj h
    have no : Calls Tryd.prog 16 #[.string a0] w (fun e w' => e = .returned (.tuple #[.slice none 0 0, .string ⟨#[]⟩, .bool false]) ∧ Below w.heap.size w w') → qOk a0 = false → Calls Tryd.prog 16 #[.string a0] w fun e w' => ∃ v_ : Value, e = .returned (.tuple #[v_, .string r2, .bool r3]) ∧ Kd.R (Kd.int .i64) 3 w' w.heap.size (fun _ => True) v_ r1 ∧ Below w.heap.size w w' := by
      intro hc hq
      rw [if_neg (by simp [hq])] at h
      simp only [Prod.mk.injEq] at h
      obtain ⟨rfl, rfl, rfl⟩ := h
      refine hc.mono ?_
      rintro e w' ⟨rfl, hb⟩
      exact ⟨_, rfl, Kd.R_nil _ _ _ _ _, hb⟩
    by_cases hp : [39] <+: a0.data.toList
    · have hp2 : Aside0 (strings_CutPrefix.f a0 ⟨#[39]⟩ = some (a0.extract 1 a0.size, true)) := ⟨by
        rw [cutPrefix_q, if_pos hp]; rfl⟩
      have hz : (a0.extract 1 a0.size).size < 4294967281 := by rw [ByteArray.size_extract]; omega
      have hlt := endsAt_lt (a0.extract 1 a0.size) (a0.extract 1 a0.size).size 0
      by_cases he : endsI (a0.extract 1 a0.size) < 0
      · exact no (qread_short a0 _ w hE_ hz hp2 he) (by unfold qOk; rw [decide_eq_false (show ¬ 0 ≤ endsI (a0.extract 1 a0.size) by omega)]; simp)
      · obtain ⟨e1, he1⟩ : ∃ e1 : Nat, (e1 : Int) = endsI (a0.extract 1 a0.size) := ⟨(endsI (a0.extract 1 a0.size)).toNat, by omega⟩
        have he2 : (endsI (a0.extract 1 a0.size)).toNat = e1 := by omega
        have hlt2 : e1 < (a0.extract 1 a0.size).size := by
          have : endsI (a0.extract 1 a0.size) < ((a0.extract 1 a0.size).size : Int) := hlt.1
          omega
        cases hv : Lib.validD ((a0.extract 1 a0.size).extract 0 e1).data.toList with
        | false => exact no (qread_bad a0 _ e1 w hE_ hz hp2 ⟨he1⟩ hlt2 ⟨hv⟩) (by unfold qOk qIn; rw [he2, hv]; simp)
        | true =>
          have hq : qOk a0 = true := by
            unfold qOk qIn
            rw [he2, hv, decide_eq_true hp, decide_eq_true (show 0 ≤ endsI (a0.extract 1 a0.size) by omega)]
            rfl
          rw [if_pos hq] at h
          simp only [Prod.mk.injEq] at h
          obtain ⟨rfl, rfl, rfl⟩ := h
          have hz2 : ((a0.extract 1 a0.size).extract 0 e1).size < 4294967281 := by rw [ByteArray.size_extract]; omega
          unfold qOne qRest qIn
          rw [he2]
          exact qread_yes a0 _ _ e1 w hE_ hz hp2 ⟨he1⟩ hlt2 ⟨hv⟩ ⟨rfl⟩ (Nat.lt_of_le_of_lt (replace_len _ hz2) hz2)
    · exact no (qread_no a0 w hE_ hs hp) (by unfold qOk; rw [decide_eq_false hp]; rfl)
  · cases h
end Go.Proofs.YtmddkjmcbddhiaaDoor.P
end
section
namespace Go.Proofs.YtmddkjmcbddhiaaDoor.P
open Go.RowKit Go.Proofs.YtmddkjmcbddhiaaDoorW.PrintWords Go.Proofs.YtmddkjmcbddhiaaDoor.Q
set_option linter.unusedVariables false
set_option linter.unusedSimpArgs false

theorem tb {z : Int} {k : Nat} (h : z = (k : Int)) (hk : k < 256) : (z.toNat.toUInt8).toNat = k := by
  subst h
  rw [Int.toNat_natCast]
  show (UInt8.ofNat k).toNat = k
  rw [UInt8.toNat_ofNat']
  omega
theorem signB_iff (n : Int) : signB n = true ↔ 0 ≤ n ∧ n ≤ 1114111 ∧ ¬ (55296 ≤ n ∧ n ≤ 57343) := by
  unfold signB
  exact decide_eq_true_iff
/-- What is encoded is decoded as it was. -/
theorem dec_enc {n : Int} (h : signB n = true) (t : List UInt8) : Lib.decodeL (Lib.encodeRune n ++ t) = (n.toNat, (Lib.encodeRune n).length) := by
  obtain ⟨h0, h1, h2⟩ := (signB_iff n).1 h
  obtain ⟨m, rfl⟩ : ∃ m : Nat, n = (m : Int) := ⟨n.toNat, by omega⟩
  unfold Lib.encodeRune
  rw [Int.toNat_natCast]
  by_cases c1 : m ≤ 127
  · rw [Lib.encodeRuneZ_one (by omega) (by omega)]
    simp only [List.map_cons, List.map_nil, List.cons_append, List.nil_append, List.length_cons, List.length_nil]
    have e0 := tb (z := (m : Int)) (k := m) rfl (by omega)
    rw [Lib.decodeL_ascii _ _ (by rw [e0]; omega), e0]
  · by_cases c2 : m ≤ 2047
    · rw [Lib.encodeRuneZ_two (by omega) (by omega), Lib.decodeL_N]
      simp only [List.map_cons, List.map_nil, List.cons_append, List.nil_append, List.length_cons, List.length_nil, List.getD_cons_zero, List.getD_cons_succ]
      rw [tb (z := 192 + (m : Int) / 64) (k := 192 + m / 64) (by omega) (by omega), tb (z := 128 + (m : Int) % 64) (k := 128 + m % 64) (by omega) (by omega)]
      unfold Lib.decodeN
      rw [if_neg (by omega), if_pos (by omega), if_pos (by omega)]
      congr 1
      omega
    · by_cases c3 : m ≤ 65535
      · rw [Lib.encodeRuneZ_three (by omega), Lib.decodeL_N]
        simp only [List.map_cons, List.map_nil, List.cons_append, List.nil_append, List.length_cons, List.length_nil, List.getD_cons_zero, List.getD_cons_succ]
        rw [tb (z := 224 + (m : Int) / 4096) (k := 224 + m / 4096) (by omega) (by omega), tb (z := 128 + (m : Int) / 64 % 64) (k := 128 + m / 64 % 64) (by omega) (by omega), tb (z := 128 + (m : Int) % 64) (k := 128 + m % 64) (by omega) (by omega)]
        have e : (224 + m / 4096) % 16 * 4096 + (128 + m / 64 % 64) % 64 * 64 + (128 + m % 64) % 64 = m := by omega
        unfold Lib.decodeN
        rw [if_neg (by omega), if_neg (by omega), if_pos (by omega), e, if_pos (by omega)]
      · rw [Lib.encodeRuneZ_four (by omega) (by omega), Lib.decodeL_N]
        simp only [List.map_cons, List.map_nil, List.cons_append, List.nil_append, List.length_cons, List.length_nil, List.getD_cons_zero, List.getD_cons_succ]
        rw [tb (z := 240 + (m : Int) / 262144) (k := 240 + m / 262144) (by omega) (by omega), tb (z := 128 + (m : Int) / 4096 % 64) (k := 128 + m / 4096 % 64) (by omega) (by omega), tb (z := 128 + (m : Int) / 64 % 64) (k := 128 + m / 64 % 64) (by omega) (by omega), tb (z := 128 + (m : Int) % 64) (k := 128 + m % 64) (by omega) (by omega)]
        have e : (240 + m / 262144) % 8 * 262144 + (128 + m / 4096 % 64) % 64 * 4096 + (128 + m / 64 % 64) % 64 * 64 + (128 + m % 64) % 64 = m := by omega
        unfold Lib.decodeN
        rw [if_neg (by omega), if_neg (by omega), if_neg (by omega), if_pos (by omega), e, if_pos (by omega)]
/-- What is decoded is a sign. -/
theorem dec_sign {l : List UInt8} (hne : l ≠ []) (hv : ¬ ((Lib.decodeL l).1 = 65533 ∧ (Lib.decodeL l).2 = 1)) : signB ((Lib.decodeL l).1 : Int) = true := by
  rw [signB_iff]
  rw [Lib.decodeL_N] at hv ⊢
  have k0 := (l.getD 0 0).toNat_lt
  have k1 := (l.getD 1 0).toNat_lt
  have k2 := (l.getD 2 0).toNat_lt
  have k3 := (l.getD 3 0).toNat_lt
  rcases Lib.decodeN_shape l.length (l.getD 0 0).toNat (l.getD 1 0).toNat (l.getD 2 0).toNat (l.getD 3 0).toNat with ⟨c, e⟩ | ⟨c1, c2, c3, cv, e⟩ | ⟨c1, c2, c3, c4, cv, cs, e⟩ | ⟨c1, c2, c3, c4, c5, cv, cw, e⟩ | e
  · rw [e]; dsimp only; omega
  · rw [e]; dsimp only; omega
  · rw [e]; dsimp only; omega
  · rw [e]; dsimp only
    refine ⟨by omega, by omega, ?_⟩
    omega
  · rw [e] at hv
    exact absurd ⟨rfl, rfl⟩ hv
/-- The bytes of signs. -/
def utf8 (ls : List Int) : List UInt8 := ls.flatMap Lib.encodeRune
theorem utf8_cons (n : Int) (ls : List Int) : utf8 (n :: ls) = Lib.encodeRune n ++ utf8 ls := by simp [utf8]
theorem utf8_append (a b : List Int) : utf8 (a ++ b) = utf8 a ++ utf8 b := by simp [utf8]
theorem enc_pos (n : Int) : 1 ≤ (Lib.encodeRune n).length := by
  have := (Lib.runeCells_le n).1
  rw [Lib.runeCells_length] at this
  exact this
theorem enc_ne (n : Int) (t : List UInt8) : Lib.encodeRune n ++ t ≠ [] := by
  intro h
  have h1 := congrArg List.length h
  rw [List.length_append] at h1
  have := enc_pos n
  simp only [List.length_nil] at h1
  omega
theorem dec_ok {n : Int} (h : signB n = true) (t : List UInt8) : ¬ ((Lib.decodeL (Lib.encodeRune n ++ t)).1 = 65533 ∧ (Lib.decodeL (Lib.encodeRune n ++ t)).2 = 1) := by
  rw [dec_enc h]
  rintro ⟨h1, h2⟩
  have h1 : n.toNat = 65533 := h1
  have h2 : (Lib.encodeRune n).length = 1 := h2
  obtain ⟨h0, _, _⟩ := (signB_iff n).1 h
  have e : n = 65533 := by omega
  rw [e] at h2
  revert h2
  decide
theorem valid_utf8 : ∀ (ls : List Int) (n : Nat), ls.all signB = true → (utf8 ls).length ≤ n → Lib.validGoD n (utf8 ls) = true
  | [], 0, _, _ => rfl
  | [], n + 1, _, _ => by simp [Lib.validGoD, utf8]
  | x :: t, 0, _, hn => by
    rw [utf8_cons, List.length_append] at hn
    have := enc_pos x
    omega
  | x :: t, n + 1, h, hn => by
    rw [List.all_cons, Bool.and_eq_true] at h
    rw [utf8_cons] at hn ⊢
    rw [Lib.validGoD, if_neg (enc_ne _ _), if_neg (dec_ok h.1 _), dec_enc h.1, List.drop_left]
    refine valid_utf8 t n h.2 ?_
    rw [List.length_append] at hn
    have := enc_pos x
    omega
theorem utf8_of_valid : ∀ (n : Nat) (u : List UInt8), u.length ≤ n → Lib.validGoD n u = true → ∃ ls, ls.all signB = true ∧ u = utf8 ls
  | 0, u, hn, _ => ⟨[], rfl, by cases u with | nil => rfl | cons => simp at hn⟩
  | n + 1, u, hn, h => by
    by_cases hz : u = []
    · exact ⟨[], rfl, hz⟩
    · rw [Lib.validGoD, if_neg hz] at h
      split at h
      · cases h
      · rename_i hv
        have hw := Lib.decodeL_width u
        obtain ⟨ls, h1, h2⟩ := utf8_of_valid n (u.drop (Lib.decodeL u).2) (by rw [List.length_drop]; omega) h
        refine ⟨((Lib.decodeL u).1 : Int) :: ls, by rw [List.all_cons, dec_sign hz hv, h1]; rfl, ?_⟩
        rw [utf8_cons, ← h2, Lib.encode_decode u hz hv, List.take_append_drop]
theorem valid_iff (u : List UInt8) : Lib.validD u = true ↔ ∃ ls, ls.all signB = true ∧ u = utf8 ls :=
  ⟨fun h => utf8_of_valid _ u (Nat.le_refl _) h, fun ⟨ls, h1, h2⟩ => by rw [h2]; exact valid_utf8 ls _ h1 (Nat.le_refl _)⟩
theorem runesFrom_utf8 (s : ByteArray) : ∀ (ls : List Int) (b pos : Nat), ls.all signB = true → s.data.toList.drop pos = utf8 ls → s.size ≤ pos + b → runesFrom s b pos = ls
  | [], b, pos, _, hd, _ => by
    refine runesFrom_end s b pos (fun hp => ?_)
    have h1 := congrArg List.length hd
    rw [List.length_drop, length_dataR] at h1
    simp only [utf8, List.flatMap_nil, List.length_nil] at h1
    omega
  | x :: t, b, pos, h, hd, hb => by
    rw [List.all_cons, Bool.and_eq_true] at h
    have h1 := congrArg List.length hd
    rw [List.length_drop, length_dataR, utf8_cons, List.length_append] at h1
    have h2 := enc_pos x
    obtain ⟨b, rfl⟩ : ∃ m, b = m + 1 := ⟨b - 1, by omega⟩
    have hdec : Utf8.decode s pos = (x.toNat, (Lib.encodeRune x).length) := by rw [← Lib.decodeL_drop, hd, utf8_cons, dec_enc h.1]
    rw [runesFrom, if_pos (by omega), hdec]
    dsimp only
    rw [runesFrom_utf8 s t b _ h.2 (by rw [← List.drop_drop, hd, utf8_cons, List.drop_left]) (by omega)]
    congr 1
    have := ((signB_iff x).1 h.1).1
    omega
theorem runesOf_utf8 {s : ByteArray} {ls : List Int} (h : ls.all signB = true) (hs : s.data.toList = utf8 ls) : runesOf s = ls :=
  runesFrom_utf8 s ls _ 0 h (by rw [List.drop_zero]; exact hs) (by omega)
end Go.Proofs.YtmddkjmcbddhiaaDoor.P
end
