/-
  Plain: right lines as runes; texts cut at the line's end, and joined. No memory in sight.
  Plain: the text of a right header is a right line, with no label, read as that header. No memory in sight.
-/
import Derived.Test.YtmddkjmcbddhiaaDoorGSmall16M
import Derived.Test.YtmddkjmcbddhiaaDoorGContains2M
import Derived.Test.YtmddkjmcbddhiaaDoorQdM
import Derived.Test.YtmddkjmcbddhiaaDoorFbM
import Derived.Test.YtmddkjmcbddhiaaDoorPcM
section
namespace Go.Proofs.YtmddkjmcbddhiaaDoor.P
open Go.RowKit Go.Proofs.YtmddkjmcbddhiaaDoorW.PrintWords Go.Proofs.YtmddkjmcbddhiaaDoor.Sp
set_option linter.unusedVariables false
set_option linter.unusedSimpArgs false

theorem dec_at {s : ByteArray} {pos : Nat} {x : Int} {t : List Int} (h : signB x = true) (hd : s.data.toList.drop pos = utf8 (x :: t)) : pos < s.size ∧ Utf8.decode s pos = (x.toNat, (Lib.encodeRune x).length) ∧ s.data.toList.drop (pos + (Lib.encodeRune x).length) = utf8 t := by
  have h1 := congrArg List.length hd
  rw [List.length_drop, length_dataR, utf8_cons, List.length_append] at h1
  have h2 := enc_pos x
  exact ⟨by omega, by rw [← Lib.decodeL_drop, hd, utf8_cons, dec_enc h], by rw [← List.drop_drop, hd, utf8_cons, List.drop_left]⟩
theorem end_at {s : ByteArray} {pos : Nat} (hd : s.data.toList.drop pos = utf8 []) : ¬ pos < s.size := by
  intro hp
  have h1 := congrArg List.length hd
  rw [List.length_drop, length_dataR] at h1
  simp only [utf8, List.flatMap_nil, List.length_nil] at h1
  omega
theorem oddFrom_utf8 (s : ByteArray) : ∀ (ls : List Int) (b pos : Nat), ls.all signB = true → s.data.toList.drop pos = utf8 ls → s.size ≤ pos + b → (oddFrom s b pos < 0 ↔ ls.all (fun n => !oddR n) = true)
  | [], b, pos, _, hd, _ => by
    rw [oddFrom_end s b pos (end_at hd)]
    simp
  | x :: t, b, pos, h, hd, hb => by
    rw [List.all_cons, Bool.and_eq_true] at h
    obtain ⟨h1, h2, h3⟩ := dec_at h.1 hd
    have h4 := enc_pos x
    obtain ⟨b, rfl⟩ : ∃ m, b = m + 1 := ⟨b - 1, by omega⟩
    have hx := ((signB_iff x).1 h.1).1
    have e : ((x.toNat : Nat) : Int) = x := by omega
    rw [oddFrom, if_pos h1, h2]
    dsimp only
    rw [e, List.all_cons]
    cases ho : oddR x with
    | true =>
      rw [if_pos rfl]
      constructor
      · intro h5; omega
      · intro h5; simp at h5
    | false =>
      rw [if_neg (by simp), oddFrom_utf8 s t b _ h.2 h3 (by omega)]
      simp
theorem runeCountFrom_utf8 (s : ByteArray) : ∀ (ls : List Int) (b pos : Nat), ls.all signB = true → s.data.toList.drop pos = utf8 ls → s.size ≤ pos + b → Lib.runeCountFrom s b pos = ls.length
  | [], b, pos, _, hd, _ => by
    have h := end_at hd
    cases b with
    | zero => rfl
    | succ b => rw [Lib.runeCountFrom, if_neg h]; rfl
  | x :: t, b, pos, h, hd, hb => by
    rw [List.all_cons, Bool.and_eq_true] at h
    obtain ⟨h1, h2, h3⟩ := dec_at h.1 hd
    have h4 := enc_pos x
    obtain ⟨b, rfl⟩ : ∃ m, b = m + 1 := ⟨b - 1, by omega⟩
    rw [Lib.runeCountFrom, if_pos h1, h2]
    dsimp only
    rw [runeCountFrom_utf8 s t b _ h.2 h3 (by omega), List.length_cons]
    omega
theorem lineB_utf8 {s : ByteArray} {ls : List Int} (h : ls.all signB = true) (hs : s.data.toList = utf8 ls) : lineB s = (decide (ls.length ≤ 1000) && ls.all (fun n => !oddR n)) := by
  unfold lineB
  have h1 : Lib.validD s.data.toList = true := (valid_iff _).2 ⟨ls, h, hs⟩
  have h2 : Lib.runeCount s = ls.length := runeCountFrom_utf8 s ls _ 0 h (by rw [List.drop_zero]; exact hs) (by omega)
  have h3 := oddFrom_utf8 s ls s.size 0 h (by rw [List.drop_zero]; exact hs) (by omega)
  have h4 : decide (oddIdx s < 0) = ls.all (fun n => !oddR n) := by
    cases ha : ls.all (fun n => !oddR n) with
    | true => exact decide_eq_true (h3.2 ha)
    | false => exact decide_eq_false (fun hh => by have := h3.1 hh; rw [ha] at this; cases this)
  have h5 : decide ((Lib.runeCount s : Int) ≤ 1000) = decide (ls.length ≤ 1000) := by
    rw [h2]
    by_cases hl : ls.length ≤ 1000
    · rw [decide_eq_true hl, decide_eq_true (by omega)]
    · rw [decide_eq_false hl, decide_eq_false (by omega)]
  rw [h1, h4, h5, Bool.true_and]
theorem lineB_was {s : ByteArray} (h : lineB s = true) : ∃ ls, ls.all signB = true ∧ s.data.toList = utf8 ls ∧ ls.length ≤ 1000 ∧ ls.all (fun n => !oddR n) = true := by
  have h0 := h
  unfold lineB at h0
  rw [Bool.and_eq_true] at h0
  obtain ⟨ls, h1, h2⟩ := (valid_iff _).1 h0.1
  rw [lineB_utf8 h1 h2, Bool.and_eq_true, decide_eq_true_eq] at h
  exact ⟨ls, h1, h2, h.1, h.2⟩
theorem encZ_range {n : Int} (h : signB n = true) (h2 : 32 ≤ n) : ∀ z ∈ Lib.encodeRuneZ n, 32 ≤ z ∧ z ≤ 255 := by
  obtain ⟨h3, h4, h5⟩ := (signB_iff n).1 h
  intro z hz
  unfold Lib.encodeRuneZ at hz
  repeat' split at hz
  all_goals simp only [List.mem_cons, List.not_mem_nil, or_false] at hz
  all_goals omega
theorem no10 : ∀ {ls : List Int}, ls.all signB = true → ls.all (fun n => !oddR n) = true → (10 : UInt8) ∉ utf8 ls
  | [], _, _ => by simp [utf8]
  | x :: t, h, ho => by
    rw [List.all_cons, Bool.and_eq_true] at h ho
    rw [utf8_cons]
    intro hm
    rcases List.mem_append.1 hm with h1 | h1
    · unfold Lib.encodeRune at h1
      obtain ⟨z, hz, he⟩ := List.mem_map.1 h1
      have hx : 32 ≤ x := by
        have h2 := ho.1
        unfold oddR at h2
        simp only [Bool.not_or, Bool.and_eq_true, Bool.not_eq_true', decide_eq_false_iff_not] at h2
        omega
      obtain ⟨z1, z2⟩ := encZ_range h.1 hx z hz
      have h3 := congrArg UInt8.toNat he
      rw [tb (k := z.toNat) (by omega) (by omega)] at h3
      have e : (10 : UInt8).toNat = 10 := rfl
      omega
    · exact no10 h.2 ho.2 h1
theorem lineB_no10 {s : ByteArray} (h : lineB s = true) : (10 : UInt8) ∉ s.data.toList := by
  obtain ⟨ls, h1, h2, _, h3⟩ := lineB_was h
  rw [h2]
  exact no10 h1 h3

/-- A text cut at the line's end. -/
def spl : List UInt8 → List (List UInt8)
  | [] => [[]]
  | c :: t => if c = 10 then [] :: spl t else (match spl t with | [] => [[c]] | x :: xs => (c :: x) :: xs)
theorem spl_ne : ∀ l, spl l ≠ []
  | [] => by simp [spl]
  | c :: t => by
    rw [spl]
    split
    · simp
    · split <;> simp
theorem spl_cut : ∀ (p t : List UInt8), (10 : UInt8) ∉ p → spl (p ++ 10 :: t) = p :: spl t
  | [], t, _ => by rw [List.nil_append, spl, if_pos rfl]
  | c :: p, t, h => by
    have hc : ¬ c = 10 := fun e => h (by rw [e]; exact List.mem_cons_self ..)
    rw [List.cons_append, spl, if_neg hc, spl_cut p t (fun hm => h (List.mem_cons_of_mem _ hm))]
theorem spl_one : ∀ (p : List UInt8), (10 : UInt8) ∉ p → spl p = [p]
  | [], _ => rfl
  | c :: p, h => by
    have hc : ¬ c = 10 := fun e => h (by rw [e]; exact List.mem_cons_self ..)
    rw [spl, if_neg hc, spl_one p (fun hm => h (List.mem_cons_of_mem _ hm))]
theorem join_cons (x y : List UInt8) (t : List (List UInt8)) : Lib.join (x :: y :: t) [10] = x ++ 10 :: Lib.join (y :: t) [10] := by
  unfold Lib.join
  simp [List.intercalate]
theorem join_one (x : List UInt8) : Lib.join [x] [10] = x := by
  unfold Lib.join
  simp [List.intercalate]
theorem join_spl : ∀ l, Lib.join (spl l) [10] = l
  | [] => join_one []
  | c :: t => by
    have ih := join_spl t
    have hn := spl_ne t
    rw [spl]
    cases hs : spl t with
    | nil => exact absurd hs hn
    | cons x xs =>
      rw [hs] at ih
      split
      · rename_i e
        rw [join_cons, ih, e, List.nil_append]
      · cases xs with
        | nil => rw [join_one] at ih ⊢; rw [ih]
        | cons y ys => rw [join_cons] at ih ⊢; rw [List.cons_append, ih]
theorem spl_join : ∀ (ls : List (List UInt8)), ls ≠ [] → (∀ x ∈ ls, (10 : UInt8) ∉ x) → spl (Lib.join ls [10]) = ls
  | [], h, _ => absurd rfl h
  | [x], _, h => by rw [join_one]; exact spl_one x (h x (List.mem_cons_self ..))
  | x :: y :: t, _, h => by rw [join_cons, spl_cut _ _ (h x (List.mem_cons_self ..)), spl_join (y :: t) (by simp) (fun z hz => h z (List.mem_cons_of_mem _ hz))]
theorem spl_length : ∀ l, (spl l).length ≤ l.length + 1
  | [] => by simp [spl]
  | c :: t => by
    have ih := spl_length t
    rw [spl]
    split
    · simp only [List.length_cons]; omega
    · split
      · simp
      · rename_i x xs e
        rw [e] at ih
        simp only [List.length_cons] at ih ⊢
        omega
theorem join_length : ∀ (ls : List (List UInt8)) (n : Nat), (∀ x ∈ ls, x.length ≤ n) → (Lib.join ls [10]).length ≤ ls.length * (n + 1)
  | [], n, _ => by simp [Lib.join, List.intercalate]
  | [x], n, h => by have := h x (List.mem_cons_self ..); rw [join_one]; simp only [List.length_cons, List.length_nil]; omega
  | x :: y :: t, n, h => by
    have h1 := h x (List.mem_cons_self ..)
    have h2 := join_length (y :: t) n (fun z hz => h z (List.mem_cons_of_mem _ hz))
    rw [join_cons, List.length_append, List.length_cons, List.length_cons, Nat.succ_mul]
    omega
theorem spl_split : ∀ (n : Nat) (s : List UInt8), s.length ≤ n → Lib.splitK [10] 0 (Lib.count s [10]) s = spl s := by
  intro n
  induction n with
  | zero =>
    intro s hn
    have : s = [] := by cases s with | nil => rfl | cons => simp at hn
    subst this
    rfl
  | succ n ih =>
    intro s hn
    have hi := Lib.index_one s 10
    by_cases hm : Lib.index s [10] = -1
    · rw [Lib.count_miss hm, Lib.splitK]
      rw [hi] at hm
      refine (spl_one s (fun h => ?_)).symm
      obtain ⟨k, hk, he⟩ := List.getElem_of_mem h
      exact Lib.indexByte_none hm k (by rw [List.getElem?_eq_getElem hk, he])
    · have hge := Lib.index_ge s [10]
      obtain ⟨i, hi2⟩ : ∃ i : Nat, Lib.index s [10] = (i : Int) := ⟨(Lib.index s [10]).toNat, by omega⟩
      have hc := Lib.count_hit (by simp) hi2
      have hb := Lib.indexByte_some (hi.symm.trans hi2)
      have hlt : i < s.length := (List.getElem?_eq_some_iff.1 hb.1).1
      have h10 : s[i] = 10 := (List.getElem?_eq_some_iff.1 hb.1).2
      rw [hc, Nat.add_comm 1, Lib.splitK, if_neg (by rw [hi2]; simp), hi2]
      simp only [Int.toNat_natCast, Nat.add_zero, List.length_cons, List.length_nil, Nat.zero_add]
      rw [ih _ (by rw [List.length_drop]; omega)]
      have hs : s = s.take i ++ 10 :: s.drop (i + 1) := by
        rw [← h10, ← List.drop_eq_getElem_cons hlt, List.take_append_drop]
      have hno : (10 : UInt8) ∉ s.take i := by
        intro h
        obtain ⟨k, hk, he⟩ := List.getElem_of_mem h
        rw [List.length_take] at hk
        refine hb.2 k (by omega) ?_
        rw [List.getElem?_eq_getElem (by omega)]
        rw [List.getElem_take] at he
        rw [he]
      conv => rhs; rw [hs]
      rw [spl_cut _ _ hno]
theorem toBytes_data (u : List UInt8) : (⟨u.toArray⟩ : ByteArray).data.toList = u := rfl
/-- A text of bytes. -/
def txt (u : List UInt8) : ByteArray := ⟨u.toArray⟩
theorem txt_data (u : List UInt8) : (txt u).data.toList = u := rfl
theorem txt_of (s : ByteArray) : txt s.data.toList = s := rfl
theorem bys_txt (l : List (List UInt8)) : bys (l.map txt) = l := by
  unfold bys
  rw [List.map_map]
  exact (List.map_congr_left (fun x _ => rfl)).trans (List.map_id l)
theorem of_bys {l : List ByteArray} {m : List (List UInt8)} (h : bys l = m) : l = m.map txt := by
  rw [← h]
  unfold bys
  rw [List.map_map]
  exact ((List.map_congr_left (fun x _ => rfl)).trans (List.map_id l)).symm
theorem fsplit_f (s : ByteArray) (hs : s.size < 4294967281) : function_Split.f s = some ((spl s.data.toList).map txt) := by
  unfold function_Split.f strings_Split.f
  rw [if_pos ⟨hs, by decide⟩, Option.bind_some]
  congr 1
  exact of_bys ((Lib.splitB_data ⟨#[10]⟩ 0 _ s).trans (spl_split _ _ (Nat.le_refl _)))
theorem fjoin_f (l : List ByteArray) (h : (Lib.join (bys l) [10]).length ≤ 140737488355328) (h2 : l.length ≤ 140737488355328) : function_Join.f l = some (txt (Lib.join (bys l) [10])) := by
  unfold function_Join.f strings_Join.f
  rw [if_pos ⟨h, h2⟩]
  rfl
end Go.Proofs.YtmddkjmcbddhiaaDoor.P
end
section
namespace Go.Proofs.YtmddkjmcbddhiaaDoor.P
open Go.RowKit Go.Proofs.YtmddkjmcbddhiaaDoorW.PrintWords Go.Proofs.YtmddkjmcbddhiaaDoor.Sp
set_option linter.unusedVariables false
set_option linter.unusedSimpArgs false

/-- Bytes of signs of which none is odd. -/
def lineU (l : List UInt8) : Prop := ∃ ls, ls.all signB = true ∧ ls.all (fun n => !oddR n) = true ∧ l = utf8 ls
theorem lineU_nil : lineU [] := ⟨[], rfl, rfl, rfl⟩
theorem lineU_append {a b : List UInt8} (ha : lineU a) (hb : lineU b) : lineU (a ++ b) := by
  obtain ⟨x, h1, h2, rfl⟩ := ha
  obtain ⟨y, h3, h4, rfl⟩ := hb
  exact ⟨x ++ y, by rw [List.all_append, h1, h3]; rfl, by rw [List.all_append, h2, h4]; rfl, (utf8_append x y).symm⟩
theorem lineU_one {c : UInt8} (h : 32 ≤ c.toNat) (h2 : c.toNat < 127) : lineU [c] := by
  refine ⟨[(c.toNat : Int)], ?_, ?_, ?_⟩
  · rw [List.all_cons, List.all_nil, Bool.and_true]
    exact (signB_iff _).2 (by omega)
  · rw [List.all_cons, List.all_nil, Bool.and_true]
    unfold oddR
    rw [decide_eq_false (by omega), decide_eq_false (by omega)]
    rfl
  · rw [utf8_cons]
    unfold utf8 Lib.encodeRune
    rw [Lib.encodeRuneZ_one (by omega) (by omega)]
    simp
theorem lineU_cons {c : UInt8} {t : List UInt8} (h : 32 ≤ c.toNat) (h2 : c.toNat < 127) (ht : lineU t) : lineU (c :: t) := lineU_append (lineU_one h h2) ht
theorem lineU_arrow : lineU [226, 134, 144] := ⟨[8592], by decide, by decide, by decide⟩
theorem goesR_ok {c : Int} (h : goesR c = true) : signB c = true ∧ oddR c = false ∧ c ≠ 65533 := by
  unfold goesR beginsR at h
  simp only [Bool.or_eq_true, Bool.and_eq_true, decide_eq_true_eq, beq_iff_eq] at h
  refine ⟨(signB_iff _).2 (by omega), ?_, by omega⟩
  unfold oddR
  rw [decide_eq_false (by omega)]
  by_cases h2 : 127 ≤ c
  · rw [decide_eq_true h2, decide_eq_false (by omega)]; rfl
  · rw [decide_eq_false h2]; rfl
theorem name_lineU : ∀ l : List UInt8, gl l = l.length → lineU l := by
  intro l
  induction l using signs_ind with
  | h0 l h =>
    intro hg
    rw [gl_zero h] at hg
    have : l = [] := List.length_eq_zero_iff.1 hg.symm
    rw [this]
    exact lineU_nil
  | h1 l h ih =>
    intro hg
    have hw := gW_le l
    rw [gl_step h] at hg
    have hu := ih (by rw [List.length_drop]; omega)
    have hne : l ≠ [] := by
      intro e
      rw [e] at h
      exact h gW_nil
    obtain ⟨g1, g2, _⟩ := goes_dec hne
    have g2 := g2 h
    rw [decide_eq_true h] at g1
    have hd : dec l = Lib.decodeL l := (Lib.decodeL_N l).symm
    rw [hd] at g1 g2
    obtain ⟨q1, q2, q3⟩ := goesR_ok g1
    have he := Lib.encode_decode l hne (fun hh => q3 (by rw [hh.1]; rfl))
    rw [g2] at he
    rw [← List.take_append_drop (gW l) l, ← he]
    refine lineU_append ⟨[((Lib.decodeL l).1 : Int)], ?_, ?_, ?_⟩ ?_
    · rw [List.all_cons, List.all_nil, Bool.and_true, q1]
    · rw [List.all_cons, List.all_nil, Bool.and_true, q2]; rfl
    · rw [utf8_cons]; unfold utf8; simp
    · exact hu
theorem may_lineU {l : List UInt8} (h : mayB l = true) : lineU l := by
  unfold mayB at h
  rw [Bool.or_eq_true] at h
  rcases h with h | h
  · cases l with
    | nil => exact lineU_nil
    | cons => simp at h
  · exact name_lineU l ((isName_iff l).1 h).2.1
theorem flat_lineU : ∀ ls : List (List UInt8), ls.all mayB = true → lineU (ls.flatMap fun s => 59 :: s)
  | [], _ => lineU_nil
  | x :: t, h => by
    rw [List.all_cons, Bool.and_eq_true] at h
    rw [List.flatMap_cons]
    exact lineU_append (lineU_cons (by decide) (by decide) (may_lineU h.1)) (flat_lineU t h.2)
theorem put_lineU {s t : List UInt8} (hs : lineU s) (ht : lineU t) : lineU (putS s t) := by
  unfold putS
  split
  · exact lineU_nil
  · exact lineU_append hs ht
theorem hdrText_lineU {r lf nm rt f g : List UInt8} {ls : List (List UInt8)} (h : hdrOk r lf nm rt f g ls = true) : lineU (hdrText r lf nm rt f g ls) := by
  unfold hdrOk at h
  simp only [Bool.and_eq_true, List.all_append, List.all_cons, List.all_nil] at h
  obtain ⟨⟨⟨⟨⟨_, ⟨h1, h2, h3, h4, h5, h6, _⟩, h7⟩, _⟩, _⟩, _⟩, _⟩ := h
  unfold hdrText
  refine lineU_append (lineU_append (lineU_append (lineU_append (put_lineU (may_lineU h1) lineU_arrow) (put_lineU (may_lineU h2) (lineU_one (by decide) (by decide)))) ?_) ?_) (flat_lineU ls h7)
  · split
    · exact may_lineU h3
    · have e1 : lineU (if g = [] then [] else 32 :: g) := by
        split
        · exact lineU_nil
        · exact lineU_cons (by decide) (by decide) (may_lineU h6)
      have e2 : lineU (32 :: nm ++ (if g = [] then [] else 32 :: g) ++ [41]) := lineU_append (lineU_append (lineU_cons (by decide) (by decide) (may_lineU h3)) e1) (lineU_one (by decide) (by decide))
      have e3 : lineU ((40 :: f) ++ (32 :: nm ++ (if g = [] then [] else 32 :: g) ++ [41])) := lineU_append (lineU_cons (by decide) (by decide) (may_lineU h5)) e2
      simpa using e3
  · split
    · exact lineU_nil
    · exact lineU_cons (by decide) (by decide) (may_lineU h4)
theorem lineU_lineB {s : ByteArray} (h : lineU s.data.toList) (hs : s.size ≤ 1000) : lineB s = true := by
  obtain ⟨ls, h1, h2, h3⟩ := h
  have hl : ∀ ls : List Int, ls.length ≤ (utf8 ls).length := by
    intro ls
    induction ls with
    | nil => exact Nat.zero_le _
    | cons x t ih => rw [utf8_cons, List.length_append, List.length_cons]; have := enc_pos x; omega
  have hz := length_data s
  have := hl ls
  rw [lineB_utf8 h1 h3, h2, Bool.and_true, decide_eq_true_eq]
  rw [h3] at hz
  omega
theorem rightF_head {R : Raw} {s : ByteArray} (h : R.ok = true) (hs : s.data.toList = R.text) (hz : s.size ≤ 1000) : rightF [s] = true ∧ nameF [s] = R.c := by
  have h1 := reads_text h hs
  have h2 := st0_text h hs
  have hl : lineB s = true := lineU_lineB (by rw [hs]; exact hdrText_lineU h) hz
  have hu : unl (st0 s).names = true := by
    rw [h2]
    unfold Raw.ok hdrOk at h
    simp only [Bool.and_eq_true] at h
    exact h.2
  have hr : rightF [s] = true := by
    unfold rightF
    have e1 : labs [s] = [] := rfl
    have e2 : headOf [s] = s := rfl
    rw [e1, e2, h1]
    simp only [List.all_cons, List.all_nil, hl, bys, List.map_nil, List.append_nil, hu, Bool.and_true, Bool.true_and, List.length_cons, List.length_nil]
    exact decide_eq_true ⟨by omega, by omega⟩
  refine ⟨hr, ?_⟩
  unfold nameF
  rw [if_pos hr]
  show (st0 s).c = R.c
  rw [h2]
theorem rightF_nil : rightF [(⟨#[]⟩ : ByteArray)] = false := by
  cases hr : rightF [(⟨#[]⟩ : ByteArray)] with
  | false => rfl
  | true =>
    have h := (rightF_pos hr).2.2.2.1
    exact absurd rfl (reads_iff.1 h).2.1
end Go.Proofs.YtmddkjmcbddhiaaDoor.P
end
