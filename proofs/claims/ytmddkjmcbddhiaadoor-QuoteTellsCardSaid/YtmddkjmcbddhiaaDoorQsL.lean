/-
  Plain: what quote.Read comes to over signs: it reads just what was written, and what follows begins with no quote. No memory in sight.
  Plain: the small case of the statements on quotes. No memory in sight.
-/
import Derived.Test.YtmddkjmcbddhiaaDoorQdL
import Derived.Test.YtmddkjmcbddhiaaDoorP6
import Derived.Test.YtmddkjmcbddhiaaDoorP7L
section
namespace Go.Proofs.YtmddkjmcbddhiaaDoor.P
open Go.RowKit Go.Proofs.YtmddkjmcbddhiaaDoorW.PrintWords Go.Proofs.YtmddkjmcbddhiaaDoor.Q
set_option linter.unusedVariables false
set_option linter.unusedSimpArgs false

theorem esc_free : ∀ l : List UInt8, (∀ c ∈ l, c ≠ 39) → esc l = l
  | [], _ => rfl
  | c :: t, h => by
    rw [esc, if_neg (h c (List.mem_cons_self ..)), esc_free t (fun x hx => h x (List.mem_cons_of_mem _ hx))]
theorem unq_free : ∀ (p t : List UInt8), (∀ c ∈ p, c ≠ 39) → unq (p ++ t) = p ++ unq t
  | [], t, _ => rfl
  | c :: p, t, h => by
    rw [List.cons_append, unq_skip (fun hh => h c (List.mem_cons_self ..) (List.cons_prefix_cons.1 hh).1.symm), unq_free p t (fun x hx => h x (List.mem_cons_of_mem _ hx))]
    rfl
theorem enc_39 : Lib.encodeRune 39 = [39] := by decide
theorem enc_free {n : Int} (h : signB n = true) (hn : n ≠ 39) : ∀ c ∈ Lib.encodeRune n, c ≠ 39 := by
  obtain ⟨h0, h1, h2⟩ := (signB_iff n).1 h
  intro c hc e
  unfold Lib.encodeRune at hc
  obtain ⟨z, hz, rfl⟩ := List.mem_map.1 hc
  have hb := Lib.encodeRuneZ_byte n z hz
  have e2 : z.toNat.toUInt8.toNat = z.toNat := tb (z := z) (k := z.toNat) (by omega) (by omega)
  rw [e] at e2
  have e3 : (39 : UInt8).toNat = 39 := rfl
  rw [e3] at e2
  by_cases c1 : n ≤ 127
  · rw [Lib.encodeRuneZ_one h0 c1] at hz
    simp at hz
    omega
  · unfold Lib.encodeRuneZ at hz
    rw [if_neg (by omega)] at hz
    repeat' split at hz
    all_goals (simp only [List.mem_cons, List.not_mem_nil, or_false] at hz; omega)
theorem esc_enc {n : Int} (h : signB n = true) : esc (Lib.encodeRune n) = qEnc n := by
  unfold qEnc
  split
  · rename_i e; subst e; rw [enc_39]; rfl
  · rename_i e; exact esc_free _ (enc_free h e)
/-- Every quote among signs doubled. -/
def dbl (ls : List Int) : List Int := ls.flatMap fun n => if n = 39 then [39, 39] else [n]
theorem dbl_all : ∀ ls : List Int, ls.all signB = true → (dbl ls).all signB = true
  | [], _ => rfl
  | n :: t, h => by
    rw [List.all_cons, Bool.and_eq_true] at h
    have ih := dbl_all t h.2
    unfold dbl at ih ⊢
    rw [List.flatMap_cons, List.all_append, ih]
    split
    · rfl
    · simp [h.1]
theorem esc_utf8 : ∀ ls : List Int, ls.all signB = true → esc (utf8 ls) = utf8 (dbl ls) ∧ esc (utf8 ls) = ls.flatMap qEnc
  | [], _ => ⟨rfl, rfl⟩
  | n :: t, h => by
    rw [List.all_cons, Bool.and_eq_true] at h
    obtain ⟨h1, h2⟩ := esc_utf8 t h.2
    rw [utf8_cons, esc_append, esc_enc h.1]
    refine ⟨?_, by rw [h2, List.flatMap_cons]⟩
    rw [h1]
    unfold dbl
    rw [List.flatMap_cons, utf8_append]
    congr 1
    unfold qEnc
    split
    · decide
    · simp [utf8]
theorem qText_esc {ls : List Int} (h : ls.all signB = true) : qText ls = 39 :: (esc (utf8 ls) ++ [39]) := by
  rw [(esc_utf8 ls h).2]
  rfl
/-- Two quotes made one, among signs. -/
def unqI : List Int → List Int
  | [] => []
  | [c] => [c]
  | c :: d :: t => if c = 39 ∧ d = 39 then 39 :: unqI t else c :: unqI (d :: t)
theorem enc_head {n : Int} (h : signB n = true) (hn : n ≠ 39) (t u : List UInt8) : Lib.encodeRune n ++ t ≠ 39 :: u := by
  intro e
  have h1 := enc_free h hn
  cases hl : Lib.encodeRune n with
  | nil => have := enc_pos n; rw [hl] at this; simp at this
  | cons c p =>
    rw [hl] at e h1
    exact h1 c (List.mem_cons_self ..) (List.cons.inj e).1
theorem unq_utf8 : ∀ (k : Nat) (ms : List Int), ms.length ≤ k → ms.all signB = true → unq (utf8 ms) = utf8 (unqI ms) ∧ (unqI ms).all signB = true
  | _, [], _, _ => ⟨rfl, rfl⟩
  | _, [x], _, h => by
    have hx : signB x = true := by simpa using h
    refine ⟨?_, h⟩
    by_cases e : x = 39
    · subst e; decide
    · have h1 := unq_free (Lib.encodeRune x) [] (enc_free hx e)
      rw [utf8_cons]
      exact h1
  | 0, x :: y :: t, hk, _ => by simp at hk
  | k + 1, x :: y :: t, hk, h => by
    simp only [List.length_cons] at hk
    have h' := h
    simp only [List.all_cons, Bool.and_eq_true] at h
    obtain ⟨hx, hy, ht⟩ := h
    rw [unqI]
    by_cases e : x = 39
    · subst e
      by_cases e2 : y = 39
      · subst e2
        obtain ⟨i1, i2⟩ := unq_utf8 k t (by omega) ht
        rw [if_pos ⟨rfl, rfl⟩, utf8_cons, utf8_cons, enc_39]
        refine ⟨?_, by rw [List.all_cons, i2]; rfl⟩
        rw [utf8_cons, enc_39]
        simp only [List.cons_append, List.nil_append]
        rw [unq_two, i1]
      · obtain ⟨i1, i2⟩ := unq_utf8 k (y :: t) (by simp only [List.length_cons]; omega) (by rw [List.all_cons, hy, ht]; rfl)
        rw [if_neg (fun hh => e2 hh.2), utf8_cons, enc_39]
        refine ⟨?_, by rw [List.all_cons, i2]; rfl⟩
        rw [utf8_cons 39 (unqI (y :: t)), enc_39, ← i1]
        simp only [List.cons_append, List.nil_append]
        refine unq_skip (fun hh => ?_)
        obtain ⟨u, hu⟩ := (List.cons_prefix_cons.1 hh).2
        rw [utf8_cons] at hu
        exact enc_head hy e2 _ _ hu.symm
    · obtain ⟨i1, i2⟩ := unq_utf8 k (y :: t) (by simp only [List.length_cons]; omega) (by rw [List.all_cons, hy, ht]; rfl)
      rw [if_neg (fun hh => e hh.1), utf8_cons, unq_free _ _ (enc_free hx e), i1]
      exact ⟨(utf8_cons _ _).symm, by rw [List.all_cons, hx, i2]; rfl⟩
theorem esc_valid {a : List UInt8} (h : Lib.validD (esc a) = true) : ∃ ls, ls.all signB = true ∧ a = utf8 ls := by
  obtain ⟨ms, h1, h2⟩ := (valid_iff _).1 h
  obtain ⟨i1, i2⟩ := unq_utf8 _ ms (Nat.le_refl _) h1
  exact ⟨unqI ms, i2, by rw [← i1, ← h2, unq_esc]⟩

theorem data_get (s : ByteArray) (k : Nat) (h : k < s.size) : s.data.toList.drop k = s[k] :: s.data.toList.drop (k + 1) := by
  rw [List.drop_eq_getElem_cons (by rw [length_dataR]; exact h)]
  rfl
theorem u8_39 {c : UInt8} : c.toNat = 39 ↔ c = 39 := by
  constructor
  · intro h
    exact UInt8.toNat_inj.1 h
  · rintro rfl; rfl
theorem endsAt_L (s : ByteArray) : ∀ (b k : Nat), s.size ≤ k + b → endsAt s b k = (match endsL (s.data.toList.drop k) with | some e => ((k + e : Nat) : Int) | none => -1)
  | 0, k, hb => by
    rw [List.drop_eq_nil_of_le (by rw [length_dataR]; omega)]
    rfl
  | b + 1, k, hb => by
    by_cases hk : k < s.size
    · rw [endsAt, dif_pos hk, data_get s k hk]
      by_cases h1 : s[k] = 39
      · rw [if_neg (fun hh => hh (u8_39.2 h1)), h1]
        by_cases h2 : k + 1 < s.size
        · rw [dif_pos h2, data_get s (k + 1) h2]
          by_cases h3 : s[k + 1] = 39
          · rw [if_neg (fun hh => hh (u8_39.2 h3)), h3, endsL_two, endsAt_L s b (k + 2) (by omega)]
            cases endsL (s.data.toList.drop (k + 2)) with
            | none => rfl
            | some e => simp only [Option.map_some]; congr 1; omega
          · rw [if_pos (by rw [Ne, u8_39]; exact h3), endsL_end (fun u hu => h3 (List.cons.inj hu).1)]
            rfl
        · rw [dif_neg h2, List.drop_eq_nil_of_le (by rw [length_dataR]; omega)]
          rfl
      · rw [if_pos (by rw [Ne, u8_39]; exact h1), endsL_skip _ h1, endsAt_L s b (k + 1) (by omega)]
        cases endsL (s.data.toList.drop (k + 1)) with
        | none => rfl
        | some e => simp only [Option.map_some]; congr 1; omega
    · rw [endsAt_end s (b + 1) k hk, List.drop_eq_nil_of_le (by rw [length_dataR]; omega)]
      rfl
theorem endsI_L (s : ByteArray) : endsI s = (match endsL s.data.toList with | some e => (e : Int) | none => -1) := by
  unfold endsI
  rw [endsAt_L s s.size 0 (by omega), List.drop_zero]
  cases endsL s.data.toList with
  | none => rfl
  | some e => simp only [Nat.zero_add]
theorem ext_from (s : ByteArray) (n : Nat) : (s.extract n s.size).data.toList = s.data.toList.drop n := by
  rw [← ByteArray.toList_eq]
  simp [ByteArray.toList_eq, List.take_of_length_le]
theorem ext_to (s : ByteArray) (n : Nat) : (s.extract 0 n).data.toList = s.data.toList.take n := by rw [← ByteArray.toList_eq, ext_takeR]
theorem ba_eq {a b : ByteArray} (h : a.data.toList = b.data.toList) : a = b := by
  cases a; cases b
  simp only [ByteArray.mk.injEq]
  exact Array.toList_inj.1 h
/-- What was written is read. -/
theorem read_yes {s : ByteArray} {ls : List Int} {r : List UInt8} (h : ls.all signB = true) (hs : s.data.toList = qText ls ++ r) (hr : ∀ u, r ≠ 39 :: u) :
    qOk s = true ∧ runesOf (qOne s) = ls ∧ qRest s = ⟨r.toArray⟩ := by
  rw [qText_esc h] at hs
  have hs1 : (s.extract 1 s.size).data.toList = esc (utf8 ls) ++ 39 :: r := by rw [ext_from, hs]; simp
  have he : endsI (s.extract 1 s.size) = ((esc (utf8 ls)).length : Int) := by rw [endsI_L, hs1, endsL_esc hr]
  have hin : (qIn s).data.toList = esc (utf8 ls) := by
    unfold qIn
    rw [he, Int.toNat_natCast, ext_to, hs1, List.take_left]
  refine ⟨?_, ?_, ?_⟩
  · unfold qOk
    rw [hin, he, decide_eq_true (show [39] <+: s.data.toList from ⟨esc (utf8 ls) ++ [39] ++ r, by rw [hs]; simp⟩), decide_eq_true (by omega), (valid_iff _).2 ⟨dbl ls, dbl_all ls h, (esc_utf8 ls h).1⟩]
    rfl
  · refine runesOf_utf8 h ?_
    unfold qOne
    rw [hin, replaceAll_unq, unq_esc]
  · unfold qRest
    rw [he, Int.toNat_natCast]
    apply ba_eq
    rw [ext_from, hs1, ← List.drop_drop, List.drop_left]
    rfl
/-- What is read was written. -/
theorem read_was {s : ByteArray} (h : qOk s = true) : ∃ ls r, ls.all signB = true ∧ s.data.toList = qText ls ++ r ∧ ∀ u, r ≠ 39 :: u := by
  unfold qOk at h
  simp only [Bool.and_eq_true, decide_eq_true_eq] at h
  obtain ⟨h1, h2, h3⟩ := h
  obtain ⟨t, ht⟩ := h1
  have hs1 : (s.extract 1 s.size).data.toList = t := by rw [ext_from, ← ht]; rfl
  rw [endsI_L, hs1] at h2
  cases he : endsL t with
  | none => rw [he] at h2; simp at h2
  | some e =>
    obtain ⟨a, r, h4, h5, h6⟩ := endsL_some _ t e (Nat.le_refl _) he
    have hin : (qIn s).data.toList = esc a := by
      unfold qIn
      rw [endsI_L, hs1, he]
      simp only [Int.toNat_natCast]
      rw [ext_to, hs1, h4, ← h5, List.take_left]
    rw [hin] at h3
    obtain ⟨ls, i1, i2⟩ := esc_valid h3
    refine ⟨ls, r, i1, ?_, h6⟩
    rw [← ht, h4, qText_esc i1, i2]
    simp
theorem quote_Read_yes {s : ByteArray} {ls : List Int} {r : List UInt8} (hz : s.size < 4294967281) (h : ls.all signB = true) (hs : s.data.toList = qText ls ++ r) (hr : ∀ u, r ≠ 39 :: u) :
    quote_Read.f s = some (ls, ⟨r.toArray⟩, true) := by
  obtain ⟨h1, h2, h3⟩ := read_yes h hs hr
  unfold quote_Read.f
  rw [if_pos hz, if_pos h1, h2, h3]
theorem quote_Read_no {s : ByteArray} (hz : s.size < 4294967281) (h : qOk s = false) : quote_Read.f s = some ([], ⟨#[]⟩, false) := by
  unfold quote_Read.f
  rw [if_pos hz, if_neg (by simp [h])]
theorem quote_Text_yes {l : List Int} (hl : l.length ≤ 1099511627776) (h : l.all signB = true) : quote_Text.f l = some (⟨(qText l).toArray⟩, true) := by
  unfold quote_Text.f qRes
  rw [if_pos hl, if_pos h]
theorem quote_Text_no {l : List Int} (hl : l.length ≤ 1099511627776) (h : l.all signB = false) : quote_Text.f l = some (⟨#[]⟩, false) := by
  unfold quote_Text.f qRes
  rw [if_pos hl, if_neg (by simp [h])]
theorem sameI_loop (x y : List Int) (he : x.length = y.length) (hl : x.length ≤ 4611686018427387904) (n : Nat) : ∀ i : Nat, x.length ≤ i + n →
    Ev (fun k => deckleref01_Same.l0 k x y (i : Int)) (decide (x.drop i = y.drop i)) := by
  have stop : ∀ i : Nat, x.length ≤ i → Ev (fun k => deckleref01_Same.l0 k x y (i : Int)) (decide (x.drop i = y.drop i)) := by
    intro i hi
    refine Ev.step (f := fun _ => some _) (fun k => ?_) (Ev.now _)
    rw [deckleref01_Same.l0, if_neg (by omega), List.drop_eq_nil_of_le hi, List.drop_eq_nil_of_le (by omega)]
    rfl
  induction n with
  | zero => intro i hi; exact stop i (by omega)
  | succ n ih =>
    intro i hi
    by_cases h1 : i < x.length
    · have h2 : i < y.length := by omega
      have dx : x.drop i = x[i] :: x.drop (i + 1) := List.drop_eq_getElem_cons h1
      have dy : y.drop i = y[i] :: y.drop (i + 1) := List.drop_eq_getElem_cons h2
      have w1 : wrap64 ((i : Int) + 1) = ((i + 1 : Nat) : Int) := by unfold wrap64; omega
      by_cases h3 : x[i] = y[i]
      · have e : decide (x.drop i = y.drop i) = decide (x.drop (i + 1) = y.drop (i + 1)) := by
          rw [dx, dy, h3]
          exact decide_eq_decide.2 ⟨fun h => (List.cons.inj h).2, fun h => by rw [h]⟩
        rw [e]
        refine Ev.step (fun k => ?_) (ih (i + 1) (by omega))
        rw [deckleref01_Same.l0, if_pos (by omega), if_pos (by omega), if_pos (by omega), rd_get x i h1, rd_get y i h2, if_pos h3, w1]
      · refine Ev.step (f := fun _ => some _) (fun k => ?_) (Ev.now _)
        rw [deckleref01_Same.l0, if_pos (by omega), if_pos (by omega), if_pos (by omega), rd_get x i h1, rd_get y i h2, if_neg h3, decide_eq_false]
        intro h
        rw [dx, dy] at h
        exact h3 (List.cons.inj h).1
    · exact stop i (by omega)
theorem sameI_self (x : List Int) (hl : x.length ≤ 4611686018427387904) : Ev (fun k => deckleref01_Same.f k x x) true := by
  have h := sameI_loop x x rfl hl _ 0 (Nat.le_add_left _ _)
  rw [decide_eq_true rfl] at h
  refine Ev.congr (fun k => ?_) h
  unfold deckleref01_Same.f
  rw [if_pos rfl]
  rfl
end Go.Proofs.YtmddkjmcbddhiaaDoor.P
end
section
namespace Go.Proofs.YtmddkjmcbddhiaaDoor.P
open Go.RowKit Go.Proofs.YtmddkjmcbddhiaaDoorW.PrintWords Go.Proofs.YtmddkjmcbddhiaaDoor.Q
set_option linter.unusedVariables false
set_option linter.unusedSimpArgs false

theorem small13_ev : Ev (fun k => decklelaw13_small.f k) true := by
  obtain ⟨K, hK⟩ := sameI_self [97, 39] (by decide)
  have t1 := quote_Text_yes (l := [97, 39, 8592]) (by decide) (by decide)
  have t2 := quote_Text_no (l := [55296]) (by decide) (by decide)
  have t3 := quote_Text_yes (l := []) (by decide) (by decide)
  have r1 := quote_Read_yes (s := ⟨#[39, 97, 39, 39, 39, 120]⟩) (ls := [97, 39]) (r := [120]) (by decide) (by decide) (by decide) (by intro u h; cases h)
  have r2 := quote_Read_yes (s := ⟨#[39, 39]⟩) (ls := []) (r := []) (by decide) (by decide) (by decide) (by intro u h; cases h)
  have r3 := quote_Read_no (s := ⟨#[39, 97]⟩) (by decide) (by kernel_rfl)
  have r4 := quote_Read_no (s := ⟨#[39, 97, 39, 39]⟩) (by decide) (by kernel_rfl)
  have r5 := quote_Read_no (s := ⟨#[39, 255, 39]⟩) (by decide) (by kernel_rfl)
  refine ⟨K, fun k hk => ?_⟩
  have e1 : deckleref01_Same.f k [97, 39] [97, 39] = some true := hK k hk
  have q1 : qText [97, 39, 8592] = [39, 97, 39, 39, 226, 134, 144, 39] := by decide
  have q3 : qText [] = [39, 39] := by decide
  show decklelaw13_small.f k = _
  unfold decklelaw13_small.f
  simp only [t1, t2, t3, r1, r2, r3, r4, r5, Option.bind_some, ByteArray.toList_eq, q1, q3, e1]
  rfl
theorem bt_head {s : ByteArray} {c : UInt8} {t : List UInt8} (h : s.data.toList = c :: t) : bt s 0 = (c.toNat : Int) := by
  have hs : 0 < s.size := by rw [← length_dataR, h]; simp
  have h2 := data_get s 0 hs
  rw [List.drop_zero, h] at h2
  unfold bt
  rw [dif_pos (by exact hs)]
  have := (List.cons.inj h2).1
  rw [this]
  rfl
theorem app_data (a b : ByteArray) : (a ++ b).data.toList = a.data.toList ++ b.data.toList := by simp
theorem qText_len (ls : List Int) : (qText ls).length = 2 + (ls.flatMap qEnc).length := by
  unfold qText
  simp only [List.length_append, List.length_cons, List.length_nil]
  omega
theorem wrap1 {i m : Nat} (h : m = i + 1) (hm : m ≤ 4611686018427387904) : wrap64 ((i : Int) + 1) = (m : Int) := by unfold wrap64; omega
end Go.Proofs.YtmddkjmcbddhiaaDoor.P
end
