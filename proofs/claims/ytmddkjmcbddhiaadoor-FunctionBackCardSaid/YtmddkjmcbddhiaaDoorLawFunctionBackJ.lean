/-
  Plain: right lines as runes; texts cut at the line's end, and joined. No memory in sight.
  Proved: a text cut at the line's end and joined again is the text; right lines joined and cut again are the lines; lines of which one is wrong are no function's. Conditions: sizes that rows of texts can have.
  Proved: the Go function deckle/decklelaw16.FunctionBack answers true at every input; each argument reads afterwards as it read before. Conditions: none but the form's own.
-/
import Derived.Test.YtmddkjmcbddhiaaDoorGSmall16J
import Derived.Test.YtmddkjmcbddhiaaDoorGContains2J
import Derived.Test.YtmddkjmcbddhiaaDoorQdJ
import Derived.Test.YtmddkjmcbddhiaaDoorFbJ
import Derived.Test.YtmddkjmcbddhiaaDoorP42J
import Derived.Test.YtmddkjmcbddhiaaDoorCards
import Derived.Test.YtmddkjmcbddhiaaDoorRk3J
import Derived.WalkKit
import Derived.ProofKit
import Derived.OpenShut
import Derived.ShutString
import Derived.ChangeOld
import Derived.Below
import Derived.SizedLaws
import Derived.Deep.DeepHandedRow
import Derived.Deep.DeepWitnessRowRef
import Derived.Lib.LaidIn
import Derived.Test.YtmddkjmcbddhiaaDoorWSized
section
namespace Go.Proofs.YtmddkjmcbddhiaaDoor.P
open Go.RowKit Go.Proofs.YtmddkjmcbddhiaaDoorW.PrintWords Go.Proofs.YtmddkjmcbddhiaaDoor.Sp
set_option linter.unusedVariables false
set_option linter.unusedSimpArgs false

theorem dec_at {s : ByteArray} {pos : Nat} {x : Int} {t : List Int} (h : signB x = true) (hd : s.data.toList.drop pos = utf8 (x :: t)) : pos < s.size ∧ Utf8.decode s pos = (x.toNat, (Lib.encodeRune x).length) ∧ s.data.toList.drop (pos + (Lib.encodeRune x).length) = utf8 t := by
  have h1 := congrArg List.length hd
  rw [List.length_drop, length_dataR, utf8_cons, List.length_append] at h1
  have h2 := enc_pos x
  exact ⟨by omega, by rw [← Lib.decodeL_drop, hd, utf8_cons, dec_enc h], by rw [← List.drop_drop, hd, utf8_cons, List.drop_left]⟩
theorem end_at {s : ByteArray} {pos : Nat} (hd : s.data.toList.drop pos = utf8 []) : ¬ pos < s.size := by
  intro hp
  have h1 := congrArg List.length hd
  rw [List.length_drop, length_dataR] at h1
  simp only [utf8, List.flatMap_nil, List.length_nil] at h1
  omega
theorem oddFrom_utf8 (s : ByteArray) : ∀ (ls : List Int) (b pos : Nat), ls.all signB = true → s.data.toList.drop pos = utf8 ls → s.size ≤ pos + b → (oddFrom s b pos < 0 ↔ ls.all (fun n => !oddR n) = true)
  | [], b, pos, _, hd, _ => by
    rw [oddFrom_end s b pos (end_at hd)]
    simp
  | x :: t, b, pos, h, hd, hb => by
    rw [List.all_cons, Bool.and_eq_true] at h
    obtain ⟨h1, h2, h3⟩ := dec_at h.1 hd
    have h4 := enc_pos x
    obtain ⟨b, rfl⟩ : ∃ m, b = m + 1 := ⟨b - 1, by omega⟩
    have hx := ((signB_iff x).1 h.1).1
    have e : ((x.toNat : Nat) : Int) = x := by omega
    rw [oddFrom, if_pos h1, h2]
    dsimp only
    rw [e, List.all_cons]
    cases ho : oddR x with
    | true =>
      rw [if_pos rfl]
      constructor
      · intro h5; omega
      · intro h5; simp at h5
    | false =>
      rw [if_neg (by simp), oddFrom_utf8 s t b _ h.2 h3 (by omega)]
      simp
theorem runeCountFrom_utf8 (s : ByteArray) : ∀ (ls : List Int) (b pos : Nat), ls.all signB = true → s.data.toList.drop pos = utf8 ls → s.size ≤ pos + b → Lib.runeCountFrom s b pos = ls.length
  | [], b, pos, _, hd, _ => by
    have h := end_at hd
    cases b with
    | zero => rfl
    | succ b => rw [Lib.runeCountFrom, if_neg h]; rfl
  | x :: t, b, pos, h, hd, hb => by
    rw [List.all_cons, Bool.and_eq_true] at h
    obtain ⟨h1, h2, h3⟩ := dec_at h.1 hd
    have h4 := enc_pos x
    obtain ⟨b, rfl⟩ : ∃ m, b = m + 1 := ⟨b - 1, by omega⟩
    rw [Lib.runeCountFrom, if_pos h1, h2]
    dsimp only
    rw [runeCountFrom_utf8 s t b _ h.2 h3 (by omega), List.length_cons]
    omega
theorem lineB_utf8 {s : ByteArray} {ls : List Int} (h : ls.all signB = true) (hs : s.data.toList = utf8 ls) : lineB s = (decide (ls.length ≤ 1000) && ls.all (fun n => !oddR n)) := by
  unfold lineB
  have h1 : Lib.validD s.data.toList = true := (valid_iff _).2 ⟨ls, h, hs⟩
  have h2 : Lib.runeCount s = ls.length := runeCountFrom_utf8 s ls _ 0 h (by rw [List.drop_zero]; exact hs) (by omega)
  have h3 := oddFrom_utf8 s ls s.size 0 h (by rw [List.drop_zero]; exact hs) (by omega)
  have h4 : decide (oddIdx s < 0) = ls.all (fun n => !oddR n) := by
    cases ha : ls.all (fun n => !oddR n) with
    | true => exact decide_eq_true (h3.2 ha)
    | false => exact decide_eq_false (fun hh => by have := h3.1 hh; rw [ha] at this; cases this)
  have h5 : decide ((Lib.runeCount s : Int) ≤ 1000) = decide (ls.length ≤ 1000) := by
    rw [h2]
    by_cases hl : ls.length ≤ 1000
    · rw [decide_eq_true hl, decide_eq_true (by omega)]
    · rw [decide_eq_false hl, decide_eq_false (by omega)]
  rw [h1, h4, h5, Bool.true_and]
theorem lineB_was {s : ByteArray} (h : lineB s = true) : ∃ ls, ls.all signB = true ∧ s.data.toList = utf8 ls ∧ ls.length ≤ 1000 ∧ ls.all (fun n => !oddR n) = true := by
  have h0 := h
  unfold lineB at h0
  rw [Bool.and_eq_true] at h0
  obtain ⟨ls, h1, h2⟩ := (valid_iff _).1 h0.1
  rw [lineB_utf8 h1 h2, Bool.and_eq_true, decide_eq_true_eq] at h
  exact ⟨ls, h1, h2, h.1, h.2⟩
theorem encZ_range {n : Int} (h : signB n = true) (h2 : 32 ≤ n) : ∀ z ∈ Lib.encodeRuneZ n, 32 ≤ z ∧ z ≤ 255 := by
  obtain ⟨h3, h4, h5⟩ := (signB_iff n).1 h
  intro z hz
  unfold Lib.encodeRuneZ at hz
  repeat' split at hz
  all_goals simp only [List.mem_cons, List.not_mem_nil, or_false] at hz
  all_goals omega
theorem no10 : ∀ {ls : List Int}, ls.all signB = true → ls.all (fun n => !oddR n) = true → (10 : UInt8) ∉ utf8 ls
  | [], _, _ => by simp [utf8]
  | x :: t, h, ho => by
    rw [List.all_cons, Bool.and_eq_true] at h ho
    rw [utf8_cons]
    intro hm
    rcases List.mem_append.1 hm with h1 | h1
    · unfold Lib.encodeRune at h1
      obtain ⟨z, hz, he⟩ := List.mem_map.1 h1
      have hx : 32 ≤ x := by
        have h2 := ho.1
        unfold oddR at h2
        simp only [Bool.not_or, Bool.and_eq_true, Bool.not_eq_true', decide_eq_false_iff_not] at h2
        omega
      obtain ⟨z1, z2⟩ := encZ_range h.1 hx z hz
      have h3 := congrArg UInt8.toNat he
      rw [tb (k := z.toNat) (by omega) (by omega)] at h3
      have e : (10 : UInt8).toNat = 10 := rfl
      omega
    · exact no10 h.2 ho.2 h1
theorem lineB_no10 {s : ByteArray} (h : lineB s = true) : (10 : UInt8) ∉ s.data.toList := by
  obtain ⟨ls, h1, h2, _, h3⟩ := lineB_was h
  rw [h2]
  exact no10 h1 h3

/-- A text cut at the line's end. -/
def spl : List UInt8 → List (List UInt8)
  | [] => [[]]
  | c :: t => if c = 10 then [] :: spl t else (match spl t with | [] => [[c]] | x :: xs => (c :: x) :: xs)
theorem spl_ne : ∀ l, spl l ≠ []
  | [] => by simp [spl]
  | c :: t => by
    rw [spl]
    split
    · simp
    · split <;> simp
theorem spl_cut : ∀ (p t : List UInt8), (10 : UInt8) ∉ p → spl (p ++ 10 :: t) = p :: spl t
  | [], t, _ => by rw [List.nil_append, spl, if_pos rfl]
  | c :: p, t, h => by
    have hc : ¬ c = 10 := fun e => h (by rw [e]; exact List.mem_cons_self ..)
    rw [List.cons_append, spl, if_neg hc, spl_cut p t (fun hm => h (List.mem_cons_of_mem _ hm))]
theorem spl_one : ∀ (p : List UInt8), (10 : UInt8) ∉ p → spl p = [p]
  | [], _ => rfl
  | c :: p, h => by
    have hc : ¬ c = 10 := fun e => h (by rw [e]; exact List.mem_cons_self ..)
    rw [spl, if_neg hc, spl_one p (fun hm => h (List.mem_cons_of_mem _ hm))]
theorem join_cons (x y : List UInt8) (t : List (List UInt8)) : Lib.join (x :: y :: t) [10] = x ++ 10 :: Lib.join (y :: t) [10] := by
  unfold Lib.join
  simp [List.intercalate]
theorem join_one (x : List UInt8) : Lib.join [x] [10] = x := by
  unfold Lib.join
  simp [List.intercalate]
theorem join_spl : ∀ l, Lib.join (spl l) [10] = l
  | [] => join_one []
  | c :: t => by
    have ih := join_spl t
    have hn := spl_ne t
    rw [spl]
    cases hs : spl t with
    | nil => exact absurd hs hn
    | cons x xs =>
      rw [hs] at ih
      split
      · rename_i e
        rw [join_cons, ih, e, List.nil_append]
      · cases xs with
        | nil => rw [join_one] at ih ⊢; rw [ih]
        | cons y ys => rw [join_cons] at ih ⊢; rw [List.cons_append, ih]
theorem spl_join : ∀ (ls : List (List UInt8)), ls ≠ [] → (∀ x ∈ ls, (10 : UInt8) ∉ x) → spl (Lib.join ls [10]) = ls
  | [], h, _ => absurd rfl h
  | [x], _, h => by rw [join_one]; exact spl_one x (h x (List.mem_cons_self ..))
  | x :: y :: t, _, h => by rw [join_cons, spl_cut _ _ (h x (List.mem_cons_self ..)), spl_join (y :: t) (by simp) (fun z hz => h z (List.mem_cons_of_mem _ hz))]
theorem spl_length : ∀ l, (spl l).length ≤ l.length + 1
  | [] => by simp [spl]
  | c :: t => by
    have ih := spl_length t
    rw [spl]
    split
    · simp only [List.length_cons]; omega
    · split
      · simp
      · rename_i x xs e
        rw [e] at ih
        simp only [List.length_cons] at ih ⊢
        omega
theorem join_length : ∀ (ls : List (List UInt8)) (n : Nat), (∀ x ∈ ls, x.length ≤ n) → (Lib.join ls [10]).length ≤ ls.length * (n + 1)
  | [], n, _ => by simp [Lib.join, List.intercalate]
  | [x], n, h => by have := h x (List.mem_cons_self ..); rw [join_one]; simp only [List.length_cons, List.length_nil]; omega
  | x :: y :: t, n, h => by
    have h1 := h x (List.mem_cons_self ..)
    have h2 := join_length (y :: t) n (fun z hz => h z (List.mem_cons_of_mem _ hz))
    rw [join_cons, List.length_append, List.length_cons, List.length_cons, Nat.succ_mul]
    omega
theorem spl_split : ∀ (n : Nat) (s : List UInt8), s.length ≤ n → Lib.splitK [10] 0 (Lib.count s [10]) s = spl s := by
  intro n
  induction n with
  | zero =>
    intro s hn
    have : s = [] := by cases s with | nil => rfl | cons => simp at hn
    subst this
    rfl
  | succ n ih =>
    intro s hn
    have hi := Lib.index_one s 10
    by_cases hm : Lib.index s [10] = -1
    · rw [Lib.count_miss hm, Lib.splitK]
      rw [hi] at hm
      refine (spl_one s (fun h => ?_)).symm
      obtain ⟨k, hk, he⟩ := List.getElem_of_mem h
      exact Lib.indexByte_none hm k (by rw [List.getElem?_eq_getElem hk, he])
    · have hge := Lib.index_ge s [10]
      obtain ⟨i, hi2⟩ : ∃ i : Nat, Lib.index s [10] = (i : Int) := ⟨(Lib.index s [10]).toNat, by omega⟩
      have hc := Lib.count_hit (by simp) hi2
      have hb := Lib.indexByte_some (hi.symm.trans hi2)
      have hlt : i < s.length := (List.getElem?_eq_some_iff.1 hb.1).1
      have h10 : s[i] = 10 := (List.getElem?_eq_some_iff.1 hb.1).2
      rw [hc, Nat.add_comm 1, Lib.splitK, if_neg (by rw [hi2]; simp), hi2]
      simp only [Int.toNat_natCast, Nat.add_zero, List.length_cons, List.length_nil, Nat.zero_add]
      rw [ih _ (by rw [List.length_drop]; omega)]
      have hs : s = s.take i ++ 10 :: s.drop (i + 1) := by
        rw [← h10, ← List.drop_eq_getElem_cons hlt, List.take_append_drop]
      have hno : (10 : UInt8) ∉ s.take i := by
        intro h
        obtain ⟨k, hk, he⟩ := List.getElem_of_mem h
        rw [List.length_take] at hk
        refine hb.2 k (by omega) ?_
        rw [List.getElem?_eq_getElem (by omega)]
        rw [List.getElem_take] at he
        rw [he]
      conv => rhs; rw [hs]
      rw [spl_cut _ _ hno]
theorem toBytes_data (u : List UInt8) : (⟨u.toArray⟩ : ByteArray).data.toList = u := rfl
/-- A text of bytes. -/
def txt (u : List UInt8) : ByteArray := ⟨u.toArray⟩
theorem txt_data (u : List UInt8) : (txt u).data.toList = u := rfl
theorem txt_of (s : ByteArray) : txt s.data.toList = s := rfl
theorem bys_txt (l : List (List UInt8)) : bys (l.map txt) = l := by
  unfold bys
  rw [List.map_map]
  exact (List.map_congr_left (fun x _ => rfl)).trans (List.map_id l)
theorem of_bys {l : List ByteArray} {m : List (List UInt8)} (h : bys l = m) : l = m.map txt := by
  rw [← h]
  unfold bys
  rw [List.map_map]
  exact ((List.map_congr_left (fun x _ => rfl)).trans (List.map_id l)).symm
theorem fsplit_f (s : ByteArray) (hs : s.size < 4294967281) : function_Split.f s = some ((spl s.data.toList).map txt) := by
  unfold function_Split.f strings_Split.f
  rw [if_pos ⟨hs, by decide⟩, Option.bind_some]
  congr 1
  exact of_bys ((Lib.splitB_data ⟨#[10]⟩ 0 _ s).trans (spl_split _ _ (Nat.le_refl _)))
theorem fjoin_f (l : List ByteArray) (h : (Lib.join (bys l) [10]).length ≤ 140737488355328) (h2 : l.length ≤ 140737488355328) : function_Join.f l = some (txt (Lib.join (bys l) [10])) := by
  unfold function_Join.f strings_Join.f
  rw [if_pos ⟨h, h2⟩]
  rfl
end Go.Proofs.YtmddkjmcbddhiaaDoor.P
end
section
namespace Go.Proofs.YtmddkjmcbddhiaaDoor.Pure
open Go.RowKit Go.Proofs.YtmddkjmcbddhiaaDoor.P Go.Proofs.YtmddkjmcbddhiaaDoorW.PrintWords Go.Proofs.YtmddkjmcbddhiaaDoor.Sp
set_option linter.unusedVariables false
set_option linter.unusedSimpArgs false

theorem rightF_lines {l : List ByteArray} {i : Nat} (hi : i < l.length) (h : lineB l[i] = false) : rightF l = false := by
  cases hr : rightF l with
  | false => rfl
  | true =>
    have h2 := List.all_eq_true.1 (rightF_pos hr).2.2.1 _ (List.getElem_mem hi)
    rw [h] at h2
    cases h2
theorem back_loop (l : List ByteArray) (hl : l.length ≤ 1000) (hs : ∀ x ∈ l, x.size ≤ 1099511627776) (hR : Ev (fun k => function_Right.f k l) (rightF l))
    (hend : l.all lineB = true → ∃ K, ∀ k, K ≤ k → decklelaw16_FunctionBack.l0 k l true (l.length : Int) = some true) (n : Nat) : ∀ i : Nat, i ≤ l.length → l.length ≤ i + n → (l.take i).all lineB = true →
    Ev (fun k => decklelaw16_FunctionBack.l0 k l true (i : Int)) true := by
  have stop : ∀ i : Nat, i ≤ l.length → l.length ≤ i → (l.take i).all lineB = true → Ev (fun k => decklelaw16_FunctionBack.l0 k l true (i : Int)) true := by
    intro i h1 h2 h3
    obtain rfl : i = l.length := by omega
    rw [List.take_of_length_le (Nat.le_refl _)] at h3
    exact hend h3
  induction n with
  | zero => intro i h1 h2 h3; exact stop i h1 (by omega) h3
  | succ n ih =>
    intro i h1 h2 h3
    by_cases hlt : i < l.length
    · have hsz := hs _ (List.getElem_mem hlt)
      cases hb : lineB l[i] with
      | true =>
        refine Ev.step (fun k => ?_) (ih (i + 1) (by omega) (by omega) ?_)
        · rw [decklelaw16_FunctionBack.l0, if_pos (by omega), if_pos (by omega), rdOf_at l i hlt, function_Line_f _ (by omega), hb, Option.bind_some, if_pos rfl, wrap_nat rfl (by omega)]
        · rw [List.take_succ_eq_append_getElem hlt, List.all_append, h3, List.all_cons, hb]
          rfl
      | false =>
        obtain ⟨K, hK⟩ := hR
        refine ⟨K + 1, fun k hk => ?_⟩
        obtain ⟨m, rfl⟩ : ∃ m, k = m + 1 := ⟨k - 1, by omega⟩
        have e1 : function_Right.f m l = some (rightF l) := hK m (by omega)
        show decklelaw16_FunctionBack.l0 (m + 1) _ _ _ = _
        rw [decklelaw16_FunctionBack.l0, if_pos (by omega), if_pos (by omega), rdOf_at l i hlt, function_Line_f _ (by omega), hb, Option.bind_some, if_neg (by simp), if_pos rfl, e1, Option.bind_some, rightF_lines hlt hb]
        rfl
    · exact stop i h1 (by omega) h3
theorem FunctionBack (l : List ByteArray) (s : ByteArray) (hl : l.length ≤ 4611686018427387904) (hb : ∀ x ∈ l, x.size ≤ maxLen) (hs : s.size ≤ 140737488351232) : ∃ k, decklelaw16_FunctionBack.f k l s = some true := by
  have yes : ∀ k, decklelaw16_FunctionBack.j0 (k + 1) l s true true = some true := fun k => by rw [decklelaw16_FunctionBack.j0, if_pos rfl]
  obtain ⟨r, ⟨K1, h1⟩, h2⟩ := fewF_ev l hl
  have e1 : decklelaw16_Few.f (K1 + 1) l = some r := h1 _ (by omega)
  cases r with
  | false => exact ⟨K1 + 1, by unfold decklelaw16_FunctionBack.f; rw [decklelaw16_small.f, Option.bind_some, e1, Option.bind_some, if_neg (by simp)]; exact yes K1⟩
  | true =>
    by_cases h3 : (s.size : Int) > 500
    · exact ⟨K1 + 1, by unfold decklelaw16_FunctionBack.f; rw [decklelaw16_small.f, Option.bind_some, e1, Option.bind_some, if_pos rfl, if_pos h3]; exact yes K1⟩
    · by_cases h4 : (l.length : Int) < 1
      · exact ⟨K1 + 1, by unfold decklelaw16_FunctionBack.f; rw [decklelaw16_small.f, Option.bind_some, e1, Option.bind_some, if_pos rfl, if_neg h3, decide_eq_true h4]; exact yes K1⟩
      · obtain ⟨hn, hsz⟩ := h2 rfl
        have hsz2 : ∀ x ∈ l, x.size ≤ 1099511627776 := fun x hx => by have := hsz x hx; omega
        have hjl : (Lib.join (bys l) [10]).length ≤ 50 * 201 := by
          have hj := join_length (bys l) 200 (fun x hx => by
            obtain ⟨y, hy, rfl⟩ := List.mem_map.1 hx
            have := hsz y hy
            have h5 := length_data y
            omega)
          have h6 : (bys l).length = l.length := by unfold bys; rw [List.length_map]
          rw [h6] at hj
          have h7 := Nat.mul_le_mul_right (200 + 1) hn
          omega
        have hend : l.all lineB = true → ∃ K, ∀ k, K ≤ k → decklelaw16_FunctionBack.l0 k l true (l.length : Int) = some true := by
          intro ha
          obtain ⟨K, hK⟩ := same16_ev l l rfl (by omega)
          refine ⟨K + 1, fun k hk => ?_⟩
          obtain ⟨m, rfl⟩ : ∃ m, k = m + 1 := ⟨k - 1, by omega⟩
          have e2 : deckleref16_Same.f m l l = some true := hK m (by omega)
          have hsp : (spl (Lib.join (bys l) [10])).map txt = l := by
            rw [spl_join (bys l) (by intro h; have h6 := congrArg List.length h; unfold bys at h6; rw [List.length_map] at h6; simp only [List.length_nil] at h6; omega) (fun x hx => by
              obtain ⟨y, hy, rfl⟩ := List.mem_map.1 hx
              exact lineB_no10 (List.all_eq_true.1 ha y hy))]
            exact (of_bys rfl).symm
          have hsz3 : (txt (Lib.join (bys l) [10])).size ≤ 50 * 201 := by rw [← length_data]; exact hjl
          rw [decklelaw16_FunctionBack.l0, if_neg (by omega), if_pos rfl, fjoin_f l (by omega) (by omega), Option.bind_some, fsplit_f _ (by omega), Option.bind_some, txt_data, hsp, e2]
          rfl
        obtain ⟨K2, k2⟩ := back_loop l (by omega) hsz2 (right_ev l (by omega) hsz2) hend _ 0 (Nat.zero_le _) (Nat.le_add_left _ _) (by simp)
        obtain ⟨M, hM⟩ : ∃ M, M = K1 + K2 := ⟨_, rfl⟩
        have e2 : decklelaw16_Few.f (M + 1) l = some true := h1 _ (by omega)
        have e3 : decklelaw16_FunctionBack.l0 M l true 0 = some true := k2 M (by omega)
        refine ⟨M + 1, ?_⟩
        have hsd := length_data s
        have hspl := spl_length s.data.toList
        unfold decklelaw16_FunctionBack.f
        rw [decklelaw16_small.f, Option.bind_some, e2, Option.bind_some, if_pos rfl, if_neg h3, decide_eq_false h4, decklelaw16_FunctionBack.j0, if_neg (by simp), fsplit_f s (by omega), Option.bind_some, fjoin_f _ (by rw [bys_txt, join_spl]; omega) (by rw [List.length_map]; omega), Option.bind_some, bys_txt, join_spl, txt_of, if_pos rfl]
        exact e3
end Go.Proofs.YtmddkjmcbddhiaaDoor.Pure
end
section
namespace Go.Proofs.YtmddkjmcbddhiaaDoor.functionBack
open Go.ChangeShapes Go.WideShapes Go.ChangeAt Go.RowKit Go.Proofs.YtmddkjmcbddhiaaDoorW.PrintWords
open Go.ChangeMaps (open_string shut_string)
set_option linter.unusedVariables false
set_option linter.unusedSimpArgs false
theorem own : ownKnob Tryd.prog.godebug = none := by kernel_rfl
theorem laid_met (os : Os) : laidMet Tryd.prog Rows.functionBackRow.laid ((Rk3.laidWorld os).forCall (fun _ _ => 0) ⟨#[], #[.slice none 0 0, .string ByteArray.empty], []⟩).memory :=
  (LaidIn.of_run (l := [("unicode/utf8.acceptRanges", Rows.laid_unicode_utf8_acceptRanges), ("unicode/utf8.first", Rows.laid_unicode_utf8_first)]) [1, 0] 8 (by kernel_rfl) (by kernel_rfl) (by kernel_rfl) (by kernel_rfl)).met
theorem witness_row (os : Os) {H : Type} (enc : TypeId × Value → H) :
    (OpenSpec.ofChange Rows.functionBackSpec).preRow enc Tryd.prog Tryd.f9 Rows.functionBackRow.domain false Rows.functionBackRow.laid ((Rk3.laidWorld os).forCall (fun _ _ => 0) ⟨#[], #[.slice none 0 0, .string ByteArray.empty], []⟩).memory #[.slice none 0 0, .string ByteArray.empty] := by
  have hw : (DataW.whole enc Tryd.prog ((Rk3.laidWorld os).forCall (fun _ _ => 0) ⟨#[], #[.slice none 0 0, .string ByteArray.empty], []⟩).memory Tryd.f9.params.toList (OpenSpec.ofChange Rows.functionBackSpec).vars false #[.slice none 0 0, .string ByteArray.empty].toList 8).map (fun x => (x.1, x.2.1)) = some ([.nil, .lit (.string [])], []) := by kernel_rfl
  obtain ⟨⟨x1, x2, x3⟩, hx, hx1⟩ := Option.map_eq_some_iff.1 hw
  simp only [Prod.mk.injEq] at hx1
  obtain ⟨rfl, rfl⟩ := hx1
  exact OpenSpec.preRow_of_cond 8 hx (by kernel_rfl) (fun k hk => by cases hk) (by kernel_rfl) (laid_met os)
set_option maxRecDepth 100000 in
set_option maxHeartbeats 2000000 in
theorem lifted (os : Os) (started : os.Started) (H : Type) (enc : TypeId × Value → H) (FF : Stop.Interp) :
    ReturnsInHanded {} Tryd.checked os 9 .any ((OpenSpec.ofChange Rows.functionBackSpec).preRow enc Tryd.prog Tryd.f9 Rows.functionBackRow.domain false Rows.functionBackRow.laid) (((OpenSpec.ofChange Rows.functionBackSpec).at FF).post enc Tryd.prog Tryd.f9 false true false false) := by
  refine returnsInHanded_of_row (C := Tryd.checked) (s := (OpenSpec.ofChange Rows.functionBackSpec)) own started (by kernel_rfl) Tryd.func9
    (witness_row_atRef (enc := enc) (C := Tryd.checked) false (Rk3.laidWorld os) #[.slice none 0 0, .string ByteArray.empty] rfl (by kernel_rfl) (by kernel_rfl) (by kernel_rfl) (witness_row os enc)) ?_
  intro W base args ds gs before hval0 hW _ _ hsz0 hL hsh _
  have hE : P.Env W := Rk3.env_of hL hsh
  have hsz : (DataW.weightsEach Tryd.prog (Tryd.f9.params.toList ++ (OpenSpec.ofChange Rows.functionBackSpec).bare.plain.varTypes Tryd.prog) (ds ++ gs)).all (· ≤ reachBytes) = true := hsz0
  have hval : ∀ (j : Nat) t v, Tryd.f9.params[j]? = some t → args[j]? = some v → Value.okWide Tryd.prog W .any base t v := hval0
  have hW' := hW
  obtain ⟨p, q, hA0, hV, rfl, hfz, hnd⟩ := hW
  have hA : DataW.TrodAll enc Tryd.prog W 0 (fun _ => true) true Tryd.f9.params.toList args.toList ds p := hA0
  rw [Tryd.params9] at hA hval hsz
  obtain ⟨v0, vs0, d0, ds0, p0, q0, hargs, rfl, rfl, h0, r0⟩ := trodAll_cons hA
  obtain ⟨v1, vs1, d1, ds1, p1, q1, rfl, rfl, rfl, h1, r1⟩ := trodAll_cons r0
  obtain ⟨rfl, rfl, rfl⟩ := trodAll_nil r1
  obtain rfl : args = #[v0, v1] := by cases args; simp_all
  obtain ⟨rfl, rfl⟩ := trodVars_none hV
  obtain ⟨A0, len0, cap0, rfl⟩ := okWide_slice Tryd.underlying33 (hval 0 33 v0 rfl rfl)
  have k0 := h0
  have lt0 : ∀ x ∈ p0, x.block < W.heap.size := by obtain ⟨m, hm⟩ := k0; exact DataW.trod_lt m _ _ _ hm
  have sw0 : ∀ el sp, d0 = .slice el sp → (el.length + sp.length) * Tryd.prog.bytesOf 9 ≤ reachBytes := fun el sp e => sized_slice hsz (j := 0) (t := 33) rfl (by rw [e]; rfl) Tryd.underlying33
  obtain ⟨x0, rfl, hr0, hc0, hb0, hl0⟩ := Rk.open_strs Tryd.underlying33 Tryd.underlying9 (by kernel_rfl) (B := 16) (by kernel_rfl) sw0 h0
  obtain ⟨a1, rfl, rfl, rfl, y1⟩ := open_string Tryd.underlying9 (hval 1 9 v1 rfl rfl) h1
  have w1 : a1.size ≤ 140737488351232 := by
    have z := sized_string hsz (j := 1) (t := 9) rfl rfl
    rw [Array.length_toList] at z
    exact z
  clear hA0 hval0 hsz0 hsz
  obtain ⟨k, hk⟩ : ∃ k, P.decklelaw16_FunctionBack.f k x0 a1 = some true := Pure.FunctionBack x0 a1 (by omega) hb0 w1
  refine (P.decklelaw16_FunctionBack.calls k A0 cap0 x0 a1 true W hr0 hc0 hE hk).mono fun e W' ⟨he, bel⟩ => ?_
  subst he
  exact ⟨_, rfl, _, _, _, [], _, [], hW', trodAll_mk1 (shut_bool Tryd.underlying4 _), (trodAll_cons_mk (Below.trod Rk3.laidOut (by kernel_rfl) (of_decide_eq_true (by kernel_rfl)) k0 bel lt0) (trodAll_cons_mk (shut_string Tryd.underlying9 y1) trodAll_mk0)), rfl, bel.frame _, fun h => by cases h⟩
theorem said : Rows.FunctionBackSaid :=
  OpenClaim.holds_of_cond 9 Tryd.f9 rfl rfl rfl rfl rfl rfl rfl ⟨rfl, rfl, rfl, rfl, rfl⟩ rfl rfl rfl rfl rfl (by kernel_rfl) Tryd.func9 (by kernel_rfl)
    (of_decide_eq_true (by kernel_rfl)) (by unfold Func.isWrapper; first | (rw [if_pos (by decide +kernel)]; kernel_rfl) | (rw [if_neg (by decide +kernel)]; exact ⟨rfl, rfl⟩))
    (fun os started H enc _ F0 => by rw [OpenClaim.pre_eq_preRow]; exact lifted os started H enc F0)
theorem plain (f : FuncId) (fn : Func) (hf : Tryd.pinned.checked.prog.funcNamed "deckle/decklelaw16.FunctionBack" = some f) (hfn : Tryd.pinned.checked.prog.funcs[f]? = some fn) :
    false = Tryd.pinned.checked.prog.looks [] ∧ ∀ (j : Nat) t, fn.params[j]? = some t → Tryd.pinned.checked.prog.wantsStandIn t = false := by
  obtain rfl : f = 9 := Option.some.inj ((show Tryd.prog.funcNamed "deckle/decklelaw16.FunctionBack" = some 9 by kernel_rfl).symm.trans hf) |>.symm
  obtain rfl : fn = Tryd.f9 := (Option.some.inj (Tryd.func9.symm.trans hfn)).symm
  refine ⟨by kernel_rfl, fun j t ht => ?_⟩
  rw [Tryd.params9] at ht
  have hm := Array.mem_of_getElem? ht
  simp only [List.mem_toArray, List.mem_cons, List.not_mem_nil, or_false] at hm
  rcases hm with rfl | rfl
  · exact (show Tryd.prog.wantsStandIn 33 = false by kernel_rfl)
  · exact (show Tryd.prog.wantsStandIn 9 = false by kernel_rfl)
/-- The tied card. -/
theorem card : Rows.FunctionBackCardSaid :=
  Claim7.holds_tied_plain_at .later [] _ _ _ _ said (fun _ h => by cases h) (by kernel_rfl) (fun _ h => by cases h) functionBack_row_tie rfl ⟨rfl, rfl⟩ (by kernel_rfl) rfl plain (by kernel_rfl)
#print axioms card
end Go.Proofs.YtmddkjmcbddhiaaDoor.functionBack
namespace Go.Proofs.YtmddkjmcbddhiaaDoor
/-- The card, under a short name, for the claim. -/
theorem functionBack_holds : Rows.FunctionBackCardSaid := functionBack.card
end Go.Proofs.YtmddkjmcbddhiaaDoor
end
