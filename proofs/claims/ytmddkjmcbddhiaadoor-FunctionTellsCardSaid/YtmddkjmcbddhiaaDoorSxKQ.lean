/-
  Plain: right lines as runes; texts cut at the line's end, and joined. No memory in sight.
-/
import Derived.Test.YtmddkjmcbddhiaaDoorGSmall16KQ
import Derived.Test.YtmddkjmcbddhiaaDoorGContains2KQ
import Derived.Test.YtmddkjmcbddhiaaDoorQdKQ
namespace Go.Proofs.YtmddkjmcbddhiaaDoor.P
open Go.RowKit Go.Proofs.YtmddkjmcbddhiaaDoorW.PrintWords Go.Proofs.YtmddkjmcbddhiaaDoor.Sp
set_option linter.unusedVariables false
set_option linter.unusedSimpArgs false

theorem dec_at {s : ByteArray} {pos : Nat} {x : Int} {t : List Int} (h : signB x = true) (hd : s.data.toList.drop pos = utf8 (x :: t)) : pos < s.size ∧ Utf8.decode s pos = (x.toNat, (Lib.encodeRune x).length) ∧ s.data.toList.drop (pos + (Lib.encodeRune x).length) = utf8 t := by
  have h1 := congrArg List.length hd
  rw [List.length_drop, length_dataR, utf8_cons, List.length_append] at h1
  have h2 := enc_pos x
  exact ⟨by omega, by rw [← Lib.decodeL_drop, hd, utf8_cons, dec_enc h], by rw [← List.drop_drop, hd, utf8_cons, List.drop_left]⟩
theorem end_at {s : ByteArray} {pos : Nat} (hd : s.data.toList.drop pos = utf8 []) : ¬ pos < s.size := by
  intro hp
  have h1 := congrArg List.length hd
  rw [List.length_drop, length_dataR] at h1
  simp only [utf8, List.flatMap_nil, List.length_nil] at h1
  omega
theorem oddFrom_utf8 (s : ByteArray) : ∀ (ls : List Int) (b pos : Nat), ls.all signB = true → s.data.toList.drop pos = utf8 ls → s.size ≤ pos + b → (oddFrom s b pos < 0 ↔ ls.all (fun n => !oddR n) = true)
  | [], b, pos, _, hd, _ => by
    rw [oddFrom_end s b pos (end_at hd)]
    simp
  | x :: t, b, pos, h, hd, hb => by
    rw [List.all_cons, Bool.and_eq_true] at h
    obtain ⟨h1, h2, h3⟩ := dec_at h.1 hd
    have h4 := enc_pos x
    obtain ⟨b, rfl⟩ : ∃ m, b = m + 1 := ⟨b - 1, by omega⟩
    have hx := ((signB_iff x).1 h.1).1
    have e : ((x.toNat : Nat) : Int) = x := by omega
    rw [oddFrom, if_pos h1, h2]
    dsimp only
    rw [e, List.all_cons]
    cases ho : oddR x with
    | true =>
      rw [if_pos rfl]
      constructor
      · intro h5; omega
      · intro h5; simp at h5
    | false =>
      rw [if_neg (by simp), oddFrom_utf8 s t b _ h.2 h3 (by omega)]
      simp
theorem runeCountFrom_utf8 (s : ByteArray) : ∀ (ls : List Int) (b pos : Nat), ls.all signB = true → s.data.toList.drop pos = utf8 ls → s.size ≤ pos + b → Lib.runeCountFrom s b pos = ls.length
  | [], b, pos, _, hd, _ => by
    have h := end_at hd
    cases b with
    | zero => rfl
    | succ b => rw [Lib.runeCountFrom, if_neg h]; rfl
  | x :: t, b, pos, h, hd, hb => by
    rw [List.all_cons, Bool.and_eq_true] at h
    obtain ⟨h1, h2, h3⟩ := dec_at h.1 hd
    have h4 := enc_pos x
    obtain ⟨b, rfl⟩ : ∃ m, b = m + 1 := ⟨b - 1, by omega⟩
    rw [Lib.runeCountFrom, if_pos h1, h2]
    dsimp only
    rw [runeCountFrom_utf8 s t b _ h.2 h3 (by omega), List.length_cons]
    omega
theorem lineB_utf8 {s : ByteArray} {ls : List Int} (h : ls.all signB = true) (hs : s.data.toList = utf8 ls) : lineB s = (decide (ls.length ≤ 1000) && ls.all (fun n => !oddR n)) := by
  unfold lineB
  have h1 : Lib.validD s.data.toList = true := (valid_iff _).2 ⟨ls, h, hs⟩
  have h2 : Lib.runeCount s = ls.length := runeCountFrom_utf8 s ls _ 0 h (by rw [List.drop_zero]; exact hs) (by omega)
  have h3 := oddFrom_utf8 s ls s.size 0 h (by rw [List.drop_zero]; exact hs) (by omega)
  have h4 : decide (oddIdx s < 0) = ls.all (fun n => !oddR n) := by
    cases ha : ls.all (fun n => !oddR n) with
    | true => exact decide_eq_true (h3.2 ha)
    | false => exact decide_eq_false (fun hh => by have := h3.1 hh; rw [ha] at this; cases this)
  have h5 : decide ((Lib.runeCount s : Int) ≤ 1000) = decide (ls.length ≤ 1000) := by
    rw [h2]
    by_cases hl : ls.length ≤ 1000
    · rw [decide_eq_true hl, decide_eq_true (by omega)]
    · rw [decide_eq_false hl, decide_eq_false (by omega)]
  rw [h1, h4, h5, Bool.true_and]
/-- A text cut at the line's end. -/
def spl : List UInt8 → List (List UInt8)
  | [] => [[]]
  | c :: t => if c = 10 then [] :: spl t else (match spl t with | [] => [[c]] | x :: xs => (c :: x) :: xs)
theorem spl_cut : ∀ (p t : List UInt8), (10 : UInt8) ∉ p → spl (p ++ 10 :: t) = p :: spl t
  | [], t, _ => by rw [List.nil_append, spl, if_pos rfl]
  | c :: p, t, h => by
    have hc : ¬ c = 10 := fun e => h (by rw [e]; exact List.mem_cons_self ..)
    rw [List.cons_append, spl, if_neg hc, spl_cut p t (fun hm => h (List.mem_cons_of_mem _ hm))]
theorem spl_one : ∀ (p : List UInt8), (10 : UInt8) ∉ p → spl p = [p]
  | [], _ => rfl
  | c :: p, h => by
    have hc : ¬ c = 10 := fun e => h (by rw [e]; exact List.mem_cons_self ..)
    rw [spl, if_neg hc, spl_one p (fun hm => h (List.mem_cons_of_mem _ hm))]
theorem join_cons (x y : List UInt8) (t : List (List UInt8)) : Lib.join (x :: y :: t) [10] = x ++ 10 :: Lib.join (y :: t) [10] := by
  unfold Lib.join
  simp [List.intercalate]
theorem join_one (x : List UInt8) : Lib.join [x] [10] = x := by
  unfold Lib.join
  simp [List.intercalate]
theorem spl_length : ∀ l, (spl l).length ≤ l.length + 1
  | [] => by simp [spl]
  | c :: t => by
    have ih := spl_length t
    rw [spl]
    split
    · simp only [List.length_cons]; omega
    · split
      · simp
      · rename_i x xs e
        rw [e] at ih
        simp only [List.length_cons] at ih ⊢
        omega
theorem join_length : ∀ (ls : List (List UInt8)) (n : Nat), (∀ x ∈ ls, x.length ≤ n) → (Lib.join ls [10]).length ≤ ls.length * (n + 1)
  | [], n, _ => by simp [Lib.join, List.intercalate]
  | [x], n, h => by have := h x (List.mem_cons_self ..); rw [join_one]; simp only [List.length_cons, List.length_nil]; omega
  | x :: y :: t, n, h => by
    have h1 := h x (List.mem_cons_self ..)
    have h2 := join_length (y :: t) n (fun z hz => h z (List.mem_cons_of_mem _ hz))
    rw [join_cons, List.length_append, List.length_cons, List.length_cons, Nat.succ_mul]
    omega
theorem spl_split : ∀ (n : Nat) (s : List UInt8), s.length ≤ n → Lib.splitK [10] 0 (Lib.count s [10]) s = spl s := by
  intro n
  induction n with
  | zero =>
    intro s hn
    have : s = [] := by cases s with | nil => rfl | cons => simp at hn
    subst this
    rfl
  | succ n ih =>
    intro s hn
    have hi := Lib.index_one s 10
    by_cases hm : Lib.index s [10] = -1
    · rw [Lib.count_miss hm, Lib.splitK]
      rw [hi] at hm
      refine (spl_one s (fun h => ?_)).symm
      obtain ⟨k, hk, he⟩ := List.getElem_of_mem h
      exact Lib.indexByte_none hm k (by rw [List.getElem?_eq_getElem hk, he])
    · have hge := Lib.index_ge s [10]
      obtain ⟨i, hi2⟩ : ∃ i : Nat, Lib.index s [10] = (i : Int) := ⟨(Lib.index s [10]).toNat, by omega⟩
      have hc := Lib.count_hit (by simp) hi2
      have hb := Lib.indexByte_some (hi.symm.trans hi2)
      have hlt : i < s.length := (List.getElem?_eq_some_iff.1 hb.1).1
      have h10 : s[i] = 10 := (List.getElem?_eq_some_iff.1 hb.1).2
      rw [hc, Nat.add_comm 1, Lib.splitK, if_neg (by rw [hi2]; simp), hi2]
      simp only [Int.toNat_natCast, Nat.add_zero, List.length_cons, List.length_nil, Nat.zero_add]
      rw [ih _ (by rw [List.length_drop]; omega)]
      have hs : s = s.take i ++ 10 :: s.drop (i + 1) := by
        rw [← h10, ← List.drop_eq_getElem_cons hlt, List.take_append_drop]
      have hno : (10 : UInt8) ∉ s.take i := by
        intro h
        obtain ⟨k, hk, he⟩ := List.getElem_of_mem h
        rw [List.length_take] at hk
        refine hb.2 k (by omega) ?_
        rw [List.getElem?_eq_getElem (by omega)]
        rw [List.getElem_take] at he
        rw [he]
      conv => rhs; rw [hs]
      rw [spl_cut _ _ hno]
/-- A text of bytes. -/
def txt (u : List UInt8) : ByteArray := ⟨u.toArray⟩
theorem of_bys {l : List ByteArray} {m : List (List UInt8)} (h : bys l = m) : l = m.map txt := by
  rw [← h]
  unfold bys
  rw [List.map_map]
  exact ((List.map_congr_left (fun x _ => rfl)).trans (List.map_id l)).symm
theorem fsplit_f (s : ByteArray) (hs : s.size < 4294967281) : function_Split.f s = some ((spl s.data.toList).map txt) := by
  unfold function_Split.f strings_Split.f
  rw [if_pos ⟨hs, by decide⟩, Option.bind_some]
  congr 1
  exact of_bys ((Lib.splitB_data ⟨#[10]⟩ 0 _ s).trans (spl_split _ _ (Nat.le_refl _)))
theorem fjoin_f (l : List ByteArray) (h : (Lib.join (bys l) [10]).length ≤ 140737488355328) (h2 : l.length ≤ 140737488355328) : function_Join.f l = some (txt (Lib.join (bys l) [10])) := by
  unfold function_Join.f strings_Join.f
  rw [if_pos ⟨h, h2⟩]
  rfl
end Go.Proofs.YtmddkjmcbddhiaaDoor.P
