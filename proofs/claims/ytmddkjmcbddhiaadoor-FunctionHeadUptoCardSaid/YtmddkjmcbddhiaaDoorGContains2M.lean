/-
  The walks of header.may, of the function literal in header.Right, and of slices.IndexFunc and ContainsFunc at that literal: is there a text that is neither empty nor a name? And of the function literal in function.Right: is there a line that is not right? Conditions: sizes that fit an int.
-/
import Derived.Test.YtmddkjmcbddhiaaDoorLw8M
import Derived.Test.YtmddkjmcbddhiaaDoorGUnlikeM
import Derived.Test.YtmddkjmcbddhiaaDoorP19M
namespace Go.Proofs.YtmddkjmcbddhiaaDoor.P
open Go.RowKit Go.Proofs.YtmddkjmcbddhiaaDoorW.PrintWords Go.Proofs.YtmddkjmcbddhiaaDoor.Sp
set_option linter.unusedVariables false
set_option linter.unusedSimpArgs false

/-- Is a text a name, or empty? -/
def mayB (l : List UInt8) : Bool := l.isEmpty || isName l

set_option maxHeartbeats 1000000 in
set_option maxRecDepth 100000 in
theorem may_walk (s : ByteArray) (w : World) (hs : s.size ≤ 4611686018427387904) :
    Calls Tryd.prog 69 #[.string s] w fun e w' => e = .returned (.bool (mayB s.data.toList)) ∧ Below w.heap.size w w' := by
  by_cases h0 : s.data.toList = []
  · have h1 : s.toList = [] := by rw [ByteArray.toList_eq]; exact h0
    have h2 : s.toList.isEmpty = true := by rw [h1]; rfl
    have h3 : (s.toList == ([] : List UInt8)) = true := by rw [h1]; rfl
    have HM : Aside0 (mayB s.data.toList = true) := ⟨by rw [h0]; rfl⟩
    clear h0
    go_enter Tryd.func69, Tryd.ntmps69
    go_wp2
    go_ret
    rw [HM.out]
    exact ⟨rfl, Below.refl _ _⟩
  · have h1 : ¬ s.toList = [] := by rw [ByteArray.toList_eq]; exact h0
    have h2 : s.toList.isEmpty = false := by cases h : s.toList <;> simp_all
    have h3 : (s.toList == ([] : List UInt8)) = false := by simpa using h1
    have HM : Aside0 (mayB s.data.toList = isName s.data.toList) := ⟨by cases h : s.data.toList <;> simp_all [mayB]⟩
    have HR : Aside0 (name_Right.f s = some (isName s.data.toList)) := ⟨name_Right_f s (by omega)⟩
    clear h0
    obtain ⟨b, hb⟩ : ∃ b, b = isName s.data.toList := ⟨_, rfl⟩
    rw [← hb] at HM HR
    clear hb
    go_enter Tryd.func69, Tryd.ntmps69
    go_wp2_with (first | (go_at_call 35; (with_reducible refine (name_Right.calls _ b _ HR.out).mono ?_); rintro e w' ⟨rfl, hb1⟩))
    go_ret
    rw [HM.out]
    exact ⟨rfl, hb1⟩

set_option maxHeartbeats 1000000 in
set_option maxRecDepth 100000 in
theorem wrong_walk (s : ByteArray) (w : World) (hs : s.size ≤ 4611686018427387904) :
    Calls Tryd.prog 68 #[.string s] w fun e w' => e = .returned (.bool (!mayB s.data.toList)) ∧ Below w.heap.size w w' := by
  go_enter Tryd.func68, Tryd.ntmps68
  go_wp2_with (first | (go_at_call 69; (with_reducible refine (may_walk _ _ hs).mono ?_); rintro e w' ⟨rfl, hb1⟩))
  go_ret
  exact ⟨rfl, hb1⟩

/-- Where the first text stands that is neither empty nor a name, from place k on; -1: none. -/
def idxBad : List (List UInt8) → Nat → Int
  | [], _ => -1
  | x :: t, k => if mayB x then idxBad t (k + 1) else k
theorem idxBad_any : ∀ (l : List (List UInt8)) (k : Nat), decide (idxBad l k ≥ 0) = l.any fun x => !mayB x
  | [], _ => rfl
  | x :: t, k => by
    unfold idxBad
    cases h : mayB x with
    | true => rw [if_pos rfl, idxBad_any t (k + 1)]; simp [h]
    | false => simp [h]

set_option maxHeartbeats 1000000 in
set_option maxRecDepth 100000 in
theorem indexFunc_walk (A0 : Option Addr) (c0 : Nat) (l : List ByteArray) (w : World) (hr : Kd.C Kd.string w A0 l.length l) (hn : l.length < 140737488355328) (hs : l.all (fun s => s.size ≤ 4611686018427387904) = true) :
    Calls Tryd.prog 83 #[.slice A0 l.length c0, .func (.func 68) #[] #[]] w fun e w' => e = .returned (.int .i64 (idxBad (bys l) 0)) ∧ Below w.heap.size w w' := by
  have HR := Aside0.mk hr
  have HS := Aside0.mk hs
  clear hr hs
  go_enter Tryd.func83, Tryd.ntmps83
  go_wp2
  go_loopw [8] (fun i wr => ∃ (k : Nat), k ≤ l.length ∧ i = .int .i64 k ∧ Below w.heap.size w wr ∧ Aside0 (idxBad ((bys l).drop k) k = idxBad (bys l) 0))
    (fun i _ => l.length - (intOf i).toNat)
  case atStart => exact ⟨0, Nat.zero_le _, rfl, Below.refl _ _, ⟨rfl⟩⟩
  case round =>
    obtain ⟨k, hk, rfl, hnx, hul⟩ := hrel
    by_cases hlt : k < l.length
    · obtain ⟨ad, s, rfl, hx, hc⟩ := strs_cell (Kd.C_below HR.out hnx) hlt
      have hsz : s.size ≤ 4611686018427387904 := by
        have h1 := List.all_eq_true.1 HS.out s (List.mem_of_getElem? hx)
        simpa using h1
      have hbk : (bys l)[k]? = some s.data.toList := by simp [bys, List.getElem?_map, hx]
      have hdk : (bys l).drop k = s.data.toList :: (bys l).drop (k + 1) := by
        rw [List.drop_eq_getElem?_toList_append, hbk]; rfl
      have HD : Aside0 (idxBad ((bys l).drop k) k = if mayB s.data.toList then idxBad ((bys l).drop (k + 1)) (k + 1) else k) := ⟨by rw [hdk]; rfl⟩
      clear hx hbk hdk
      cases hm : mayB s.data.toList with
      | true =>
        have HM := Aside0.mk hm
        have HI : Aside0 (idxBad ((bys l).drop (k + 1)) (k + 1) = idxBad (bys l) 0) := ⟨by rw [← hul.out, HD.out, if_pos hm]⟩
        clear hm
        go_wp2_with (first | (go_at_call 68; (with_reducible refine (wrong_walk _ _ hsz).mono ?_); rw [HM.out]; rintro e w' ⟨rfl, hb1⟩))
        have hb2 := hnx.trans (hb1.mono hnx.size)
        go_roundw
        case rel => exact ⟨k + 1, by omega, by go_num, hb2, HI⟩
        case measure => simp [intOf]; omega
      | false =>
        have HM := Aside0.mk hm
        have HI : Aside0 (idxBad (bys l) 0 = k) := ⟨by rw [← hul.out, HD.out, if_neg (by simp [hm])]⟩
        clear hm
        go_wp2_with (first | (go_at_call 68; (with_reducible refine (wrong_walk _ _ hsz).mono ?_); rw [HM.out]; rintro e w' ⟨rfl, hb1⟩))
        go_ret
        rw [HI.out]
        exact ⟨rfl, hnx.trans (hb1.mono hnx.size)⟩
    · have hfin : idxBad (bys l) 0 = -1 := by
        rw [← hul.out, List.drop_eq_nil_of_le (by simp [bys]; omega)]; rfl
      have HF := Aside0.mk hfin
      clear hfin
      go_wp2
      go_ret
      rw [HF.out]
      exact ⟨rfl, hnx⟩

/-! ### The literal of function.Right -/
/-- Is a line right? -/
def lineB (s : ByteArray) : Bool := Lib.validD s.data.toList && (decide ((Lib.runeCount s : Int) ≤ 1000) && decide (oddIdx s < 0))
theorem function_Line_f (s : ByteArray) (hs : s.size ≤ 4611686018427387904) : function_Line.f s = some (lineB s) := by
  unfold function_Line.f signs_Right.f utf8_ValidString.f utf8_RuneCountInString.f strings_IndexFunc.f lineB
  rw [if_pos (by omega), if_pos (by omega)]
  simp only [Option.bind_some, if_true]
  cases Lib.validD s.data.toList with
  | false => rfl
  | true =>
    by_cases h : (Lib.runeCount s : Int) ≤ 1000
    · simp [h]
    · simp [h]
set_option maxHeartbeats 1000000 in
set_option maxRecDepth 100000 in
theorem wrongL_walk (s : ByteArray) (w : World) (hs : s.size ≤ 4611686018427387904) (hE : Aside0 (Env w)) :
    Calls Tryd.prog 57 #[.string s] w fun e w' => e = .returned (.bool (!lineB s)) ∧ Below w.heap.size w w' := by
  have HL := Aside0.mk (function_Line_f s hs)
  obtain ⟨b, hb⟩ : ∃ b, b = lineB s := ⟨_, rfl⟩
  rw [← hb] at HL ⊢
  clear hb
  go_enter Tryd.func57, Tryd.ntmps57
  go_wp2_with (first | (go_at_call 21; (with_reducible refine (function_Line.calls _ b _ hE.out HL.out).mono ?_); rintro e w' ⟨rfl, hb1⟩))
  go_ret
  exact ⟨rfl, hb1⟩

/-- Where the first line stands that is not right, from place k on; -1: none. -/
def idxBadL : List ByteArray → Nat → Int
  | [], _ => -1
  | x :: t, k => if lineB x then idxBadL t (k + 1) else k
theorem idxBadL_any : ∀ (l : List ByteArray) (k : Nat), decide (idxBadL l k ≥ 0) = l.any fun x => !lineB x
  | [], _ => rfl
  | x :: t, k => by
    unfold idxBadL
    cases h : lineB x with
    | true => rw [if_pos rfl, idxBadL_any t (k + 1)]; simp [h]
    | false => simp [h]

set_option maxHeartbeats 1000000 in
set_option maxRecDepth 100000 in
theorem indexFuncL_walk (A0 : Option Addr) (c0 : Nat) (l : List ByteArray) (w : World) (hr : Kd.C Kd.string w A0 l.length l) (hn : l.length < 140737488355328) (hE : Aside0 (Env w)) (hs : l.all (fun s => s.size ≤ 4611686018427387904) = true) :
    Calls Tryd.prog 83 #[.slice A0 l.length c0, .func (.func 57) #[] #[]] w fun e w' => e = .returned (.int .i64 (idxBadL l 0)) ∧ Below w.heap.size w w' := by
  have HR := Aside0.mk hr
  have HS := Aside0.mk hs
  clear hr hs
  go_enter Tryd.func83, Tryd.ntmps83
  go_wp2
  go_loopw [8] (fun i wr => ∃ (k : Nat), k ≤ l.length ∧ i = .int .i64 k ∧ Below w.heap.size w wr ∧ Aside0 (idxBadL ((l).drop k) k = idxBadL l 0))
    (fun i _ => l.length - (intOf i).toNat)
  case atStart => exact ⟨0, Nat.zero_le _, rfl, Below.refl _ _, ⟨rfl⟩⟩
  case round =>
    obtain ⟨k, hk, rfl, hnx, hul⟩ := hrel
    by_cases hlt : k < l.length
    · obtain ⟨ad, s, rfl, hx, hc⟩ := strs_cell (Kd.C_below HR.out hnx) hlt
      have hsz : s.size ≤ 4611686018427387904 := by
        have h1 := List.all_eq_true.1 HS.out s (List.mem_of_getElem? hx)
        simpa using h1
      have hdk : l.drop k = s :: l.drop (k + 1) := by
        rw [List.drop_eq_getElem?_toList_append, hx]; rfl
      have HD : Aside0 (idxBadL ((l).drop k) k = if lineB s then idxBadL ((l).drop (k + 1)) (k + 1) else k) := ⟨by rw [hdk]; rfl⟩
      clear hx hdk
      cases hm : lineB s with
      | true =>
        have HM := Aside0.mk hm
        have HI : Aside0 (idxBadL ((l).drop (k + 1)) (k + 1) = idxBadL l 0) := ⟨by rw [← hul.out, HD.out, if_pos hm]⟩
        clear hm
        go_wp2_with (first | (go_at_call 57; (with_reducible refine (wrongL_walk _ _ hsz ⟨hE.out.below hnx⟩).mono ?_); rw [HM.out]; rintro e w' ⟨rfl, hb1⟩))
        have hb2 := hnx.trans (hb1.mono hnx.size)
        go_roundw
        case rel => exact ⟨k + 1, by omega, by go_num, hb2, HI⟩
        case measure => simp [intOf]; omega
      | false =>
        have HM := Aside0.mk hm
        have HI : Aside0 (idxBadL l 0 = k) := ⟨by rw [← hul.out, HD.out, if_neg (by simp [hm])]⟩
        clear hm
        go_wp2_with (first | (go_at_call 57; (with_reducible refine (wrongL_walk _ _ hsz ⟨hE.out.below hnx⟩).mono ?_); rw [HM.out]; rintro e w' ⟨rfl, hb1⟩))
        go_ret
        rw [HI.out]
        exact ⟨rfl, hnx.trans (hb1.mono hnx.size)⟩
    · have hfin : idxBadL l 0 = -1 := by
        rw [← hul.out, List.drop_eq_nil_of_le (by omega)]; rfl
      have HF := Aside0.mk hfin
      clear hfin
      go_wp2
      go_ret
      rw [HF.out]
      exact ⟨rfl, hnx⟩

def slices_ContainsFunc_string_string.f (l0 : List ByteArray) (a1 : Value) : Option Bool :=
  match a1 with
  | .func (.func n) ⟨[]⟩ ⟨[]⟩ => if l0.length < 140737488355328 ∧ l0.all (fun s => s.size ≤ 4611686018427387904) = true then (if n = 68 then some ((bys l0).any fun x => !mayB x) else if n = 57 then some (l0.any fun x => !lineB x) else none) else none
  | _ => none

set_option maxHeartbeats 1000000 in
set_option maxRecDepth 100000 in
theorem slices_ContainsFunc_string_string.calls (A0 : Option Addr) (c0 : Nat) (l0 : List ByteArray) (a1 : Value) (r : Bool) (w : World) (hr0 : Kd.C Kd.string w A0 l0.length l0) (hc0 : l0.length ≤ c0) (hE_ : a1 = .func (.func 57) #[] #[] → Env w) (h : slices_ContainsFunc_string_string.f l0 a1 = some r) :
    Calls Tryd.prog 58 #[.slice A0 l0.length c0, a1] w fun e w' => e = .returned (.bool r) ∧ Below w.heap.size w w' := by
  unfold slices_ContainsFunc_string_string.f at h
  split at h
  · split at h
    · rename_i hh
      obtain ⟨hn, hs⟩ := hh
      split at h
      · rename_i h1
        subst h1
        obtain rfl := Option.some.inj h
        rw [← idxBad_any (bys l0) 0]
        obtain ⟨i, hi⟩ : ∃ i, i = idxBad (bys l0) 0 := ⟨_, rfl⟩
        have HI := Aside0.mk hi
        clear hi
        have HR := Aside0.mk hr0
        clear hr0 hE_
        go_enter Tryd.func58, Tryd.ntmps58
        go_wp2_with (first | (go_at_call 83; (with_reducible refine (indexFunc_walk _ _ _ _ HR.out hn hs).mono ?_); rw [← HI.out]; rintro e w' ⟨rfl, hb1⟩))
        go_ret
        rw [← HI.out]
        exact ⟨rfl, hb1⟩
      · split at h
        · rename_i h1
          subst h1
          obtain rfl := Option.some.inj h
          have hE := Aside0.mk (hE_ rfl)
          rw [← idxBadL_any l0 0]
          obtain ⟨i, hi⟩ : ∃ i, i = idxBadL l0 0 := ⟨_, rfl⟩
          have HI := Aside0.mk hi
          clear hi
          have HR := Aside0.mk hr0
          clear hr0 hE_
          go_enter Tryd.func58, Tryd.ntmps58
          go_wp2_with (first | (go_at_call 83; (with_reducible refine (indexFuncL_walk _ _ _ _ HR.out hn hE hs).mono ?_); rw [← HI.out]; rintro e w' ⟨rfl, hb1⟩))
          go_ret
          rw [← HI.out]
          exact ⟨rfl, hb1⟩
        · cases h
    · cases h
  · cases h
end Go.Proofs.YtmddkjmcbddhiaaDoor.P
