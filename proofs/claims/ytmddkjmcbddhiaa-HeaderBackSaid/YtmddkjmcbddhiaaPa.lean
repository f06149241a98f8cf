/-
  Plain: what header.Parse tells: nothing, or a right header whose text is what was read. No memory in sight.
  Plain: header.Parse guesses a right header of its text as it was. No memory in sight.
-/
import Derived.Test.YtmddkjmcbddhiaaGParse
import Derived.Test.YtmddkjmcbddhiaaGCut
section
namespace Go.Proofs.Ytmddkjmcbddhiaa.P
open Go.RowKit Go.Proofs.YtmddkjmcbddhiaaW.PrintWords Go.Proofs.Ytmddkjmcbddhiaa.Sp
set_option linter.unusedVariables false
set_option linter.unusedSimpArgs false

/-- Every part of what has been guessed is no longer than n. -/
structure RSz (n : Nat) (R : Raw) : Prop where
  a : R.a.size ≤ n
  b : R.b.size ≤ n
  c : R.c.size ≤ n
  d : R.d.size ≤ n
  e : R.e.size ≤ n
  f : R.f.size ≤ n
  ls : lsum R.ls ≤ n
theorem wordA_size (s : ByteArray) : (wordA s).size ≤ s.size := by
  unfold wordA
  rw [ByteArray.size_extract]
  omega
theorem wordAB_size (s : ByteArray) : (wordA s).size + (wordB s).size = s.size := by
  have h := nameLen_le s.data.toList
  rw [length_data] at h
  unfold wordA wordB
  rw [ByteArray.size_extract, ByteArray.size_extract]
  omega
theorem lsum_snoc (l : List ByteArray) (x : ByteArray) : lsum (l ++ [x]) = lsum l + (x.size + 1) := by
  simp [lsum]
theorem locLoop_size : ∀ (k : Nat) (s : ByteArray) (l : List ByteArray) (n : Nat), lsum l + s.size ≤ n → lsum (locLoop k s l).2 ≤ n
  | 0, s, l, n, h => by unfold locLoop; exact Nat.le_trans (Nat.le_add_right _ _) h
  | k + 1, s, l, n, h => by
    unfold locLoop
    split
    · rename_i hk
      refine locLoop_size k _ _ n ?_
      have h1 := skipB_less hk (by decide)
      have h2 := wordAB_size (skipB s semiS)
      rw [lsum_snoc]
      omega
    · exact Nat.le_trans (Nat.le_add_right _ _) h
theorem st4_size {n : Nat} {s a b c d e f : ByteArray} (hs : s.size ≤ n) (ha : a.size ≤ n) (hb : b.size ≤ n) (hc : c.size ≤ n) (hd : d.size ≤ n) (he : e.size ≤ n) (hf : f.size ≤ n) : RSz n (st4 s a b c d e f) :=
  ⟨ha, hb, hc, hd, he, hf, locLoop_size _ _ _ _ (by simpa [lsum] using hs)⟩
theorem wb_size {n : Nat} {s p : ByteArray} (hs : s.size ≤ n) : (wordB (skipB s p)).size ≤ n := Nat.le_trans (wordB_size _) (Nat.le_trans (skipB_size _ _) hs)
theorem wa_size {n : Nat} {s p : ByteArray} (hs : s.size ≤ n) : (wordA (skipB s p)).size ≤ n := Nat.le_trans (wordA_size _) (Nat.le_trans (skipB_size _ _) hs)
theorem st3_size {n : Nat} {s a b c d e f : ByteArray} (hs : s.size ≤ n) (ha : a.size ≤ n) (hb : b.size ≤ n) (hc : c.size ≤ n) (hd : d.size ≤ n) (he : e.size ≤ n) (hf : f.size ≤ n) : RSz n (st3 s a b c d e f) := by
  unfold st3
  split
  · exact st4_size (wb_size hs) ha hc hd (wa_size hs) he hf
  · exact st4_size hs ha hb hc hd he hf
theorem st2_size {n : Nat} {s a b c d e f : ByteArray} (hs : s.size ≤ n) (ha : a.size ≤ n) (hb : b.size ≤ n) (hc : c.size ≤ n) (hd : d.size ≤ n) (he : e.size ≤ n) (hf : f.size ≤ n) : RSz n (st2 s a b c d e f) := by
  unfold st2
  split
  · exact st3_size (wb_size hs) ha hb hc (wa_size hs) he hf
  · exact st3_size hs ha hb hc hd he hf
theorem op1_size (s : ByteArray) : (op1 s).size ≤ s.size := Nat.le_trans (skipB_size _ _) (wordB_size _)
theorem opN_size (s : ByteArray) : (opN s).size ≤ s.size := Nat.le_trans (wordA_size _) (op1_size s)
theorem opG_size (s : ByteArray) : (opG s nilS).size ≤ s.size := by
  unfold opG
  split
  · exact Nat.le_trans (wordA_size _) (Nat.le_trans (skipB_size _ _) (Nat.le_trans (wordB_size _) (op1_size s)))
  · exact Nat.zero_le _
theorem nil_size {n : Nat} : nilS.size ≤ n := Nat.zero_le _
theorem st1_size {n : Nat} {first s a : ByteArray} (hs : s.size ≤ n) (hf : first.size ≤ n) (ha : a.size ≤ n) : RSz n (st1 first s a) := by
  have h1 : ∀ p, (skipB s p).size ≤ n := fun p => Nat.le_trans (skipB_size _ _) hs
  unfold st1
  split
  · exact st2_size (Nat.le_trans (opR_size _) (h1 _)) ha nil_size (Nat.le_trans (opN_size _) (h1 _)) nil_size (Nat.le_trans (wordA_size _) (h1 _)) (Nat.le_trans (opG_size _) (h1 _))
  · split
    · exact st2_size (Nat.le_trans (opR_size _) (h1 _)) ha hf (Nat.le_trans (opN_size _) (h1 _)) nil_size (Nat.le_trans (wordA_size _) (h1 _)) (Nat.le_trans (opG_size _) (h1 _))
    · exact st2_size hs ha nil_size hf nil_size nil_size nil_size
theorem st0_size (s : ByteArray) : RSz s.size (st0 s) := by
  have h1 := wordB_size s
  unfold st0
  split
  · exact st1_size (wb_size h1) (wa_size h1) (wordA_size s)
  · exact st1_size h1 (wordA_size s) nil_size
theorem RSz.sized {n : Nat} {R : Raw} (h : RSz n R) (hn : n ≤ 1099511627776) : HSized R.a R.b R.c R.d R.e R.f R.ls := by
  obtain ⟨h1, h2, h3, h4, h5, h6, h7⟩ := h
  have := lsum_length R.ls
  exact ⟨by omega, by omega⟩
theorem header_Text_f {a b c d e f : ByteArray} {l : List ByteArray} (h : HSized a b c d e f l) : header_Text.f a b c d e f l = some (if hdrOk a.data.toList b.data.toList c.data.toList d.data.toList e.data.toList f.data.toList (bys l) = true then ⟨(hdrText a.data.toList b.data.toList c.data.toList d.data.toList e.data.toList f.data.toList (bys l)).toArray⟩ else ⟨#[]⟩) := by
  unfold header_Text.f
  rw [if_pos ⟨h.sum, h.len⟩]
  split <;> rfl
/-- Whether a header is right, and its text. -/
def Raw.ok (R : Raw) : Bool := hdrOk R.a.data.toList R.b.data.toList R.c.data.toList R.d.data.toList R.e.data.toList R.f.data.toList (bys R.ls)
def Raw.text (R : Raw) : List UInt8 := hdrText R.a.data.toList R.b.data.toList R.c.data.toList R.d.data.toList R.e.data.toList R.f.data.toList (bys R.ls)
theorem Raw.text_f {R : Raw} (h : HSized R.a R.b R.c R.d R.e R.f R.ls) : header_Text.f R.a R.b R.c R.d R.e R.f R.ls = some (if R.ok = true then ⟨R.text.toArray⟩ else ⟨#[]⟩) := header_Text_f h
/-- Does a text that is read say a header? -/
def reads (s : ByteArray) : Bool := decide ((st0 s).rest.data.toList = []) && (!decide (s.data.toList = []) && ((st0 s).ok && decide ((st0 s).text = s.data.toList)))
theorem header_Parse_f (s : ByteArray) (hs : s.size ≤ 1099511627776) : header_Parse.f s = some (if reads s = true then ((st0 s).a, (st0 s).b, (st0 s).c, (st0 s).d, (st0 s).e, (st0 s).f, (st0 s).ls, true) else (nilS, nilS, nilS, nilS, nilS, nilS, [], false)) := by
  have hz := (st0_size s).sized hs
  unfold header_Parse.f reads
  rw [if_pos hs, Raw.text_f hz]
  by_cases h1 : (st0 s).rest.data.toList = []
  · by_cases h2 : s.data.toList = []
    · rw [if_neg (fun hh => hh.2 h2)]
      simp [h2]
    · rw [if_pos ⟨h1, h2⟩]
      cases hk : (st0 s).ok with
      | true =>
        by_cases h3 : (st0 s).text = s.data.toList
        · simp [h1, h2, h3]
        · simp [h1, h2, h3]
      | false =>
        have h4 : ¬ ([] : List UInt8) = s.data.toList := fun e => h2 e.symm
        simp [h4]
  · rw [if_neg (fun hh => h1 hh.1)]
    simp [h1]
theorem reads_iff {s : ByteArray} : reads s = true ↔ (st0 s).rest.data.toList = [] ∧ ¬ s.data.toList = [] ∧ (st0 s).ok = true ∧ (st0 s).text = s.data.toList := by
  unfold reads
  simp
theorem hdrOk_name {r lf nm rt f g : List UInt8} {ls : List (List UInt8)} (h : hdrOk r lf nm rt f g ls = true) : isName nm = true := by
  unfold hdrOk at h
  simp only [Bool.and_eq_true, List.all_append, List.all_cons, mayB, Bool.or_eq_true] at h
  obtain ⟨⟨⟨⟨⟨h1, h2⟩, _⟩, _⟩, _⟩, _⟩ := h
  have h3 := h2.1.2.2.1
  rcases h3 with h3 | h3
  · cases nm with
    | nil => simp at h1
    | cons => simp at h3
  · exact h3
end Go.Proofs.Ytmddkjmcbddhiaa.P
end
section
namespace Go.Proofs.Ytmddkjmcbddhiaa.P
open Go.RowKit Go.Proofs.YtmddkjmcbddhiaaW.PrintWords Go.Proofs.Ytmddkjmcbddhiaa.Sp
set_option linter.unusedVariables false
set_option linter.unusedSimpArgs false

/-- A sign that stands between names. -/
def sepB (c : UInt8) : Prop := c = 32 ∨ c = 40 ∨ c = 41 ∨ c = 59
theorem gW_sep {c : UInt8} (t : List UInt8) (h : sepB c) : gW (c :: t) = 0 ∧ bgW (c :: t) = 0 := by
  rcases h with rfl | rfl | rfl | rfl <;> (constructor <;> simp [gW, gN, bgW, bgN, letN, at8])
theorem gW_gets (t : List UInt8) : gW (226 :: 134 :: 144 :: t) = 0 ∧ bgW (226 :: 134 :: 144 :: t) = 0 := by
  constructor <;> simp [gW, gN, bgW, bgN, letN, at8]
theorem name_sep {x : List UInt8} {c : UInt8} (h : isName x = true) (hc : sepB c) (t : List UInt8) (u : List UInt8) : ¬ x ++ t = c :: u := by
  intro e
  have h1 := ((isName_iff x).1 h).1
  match x, h1, e with
  | [], h1, _ => exact h1 bgW_nil
  | a :: y, h1, e =>
    simp only [List.cons_append, List.cons.injEq] at e
    rw [e.1] at h1
    exact h1 (gW_sep y hc).2
theorem word_name {s x : ByteArray} {t : List UInt8} (hs : s.data.toList = x.data.toList ++ t) (hx : isName x.data.toList = true) (ht : gW t = 0) : wordA s = x ∧ (wordB s).data.toList = t := by
  have hn := nameLen_name hx ht
  unfold wordA wordB
  rw [hs, hn]
  refine ⟨ba_ext ?_, ?_⟩
  · rw [ext_take_data, hs]; simp
  · rw [extract_data, hs]; simp
theorem word_none {s : ByteArray} (h : bgW s.data.toList = 0) : wordA s = nilS ∧ (wordB s).data.toList = s.data.toList := by
  have hn := nameLen_zero h
  unfold wordA wordB
  rw [hn]
  refine ⟨ba_ext ?_, ?_⟩
  · rw [ext_take_data]; simp
  · rw [extract_data]; simp
theorem skip_yes {s p : ByteArray} {t : List UInt8} (hs : s.data.toList = p.data.toList ++ t) : skipA s p = true ∧ (skipB s p).data.toList = t := by
  have h1 : skipA s p = true := decide_eq_true ⟨t, hs.symm⟩
  refine ⟨h1, ?_⟩
  unfold skipB
  rw [if_pos h1, extract_data, hs, ← length_data p]
  simp
theorem skip_no {s p : ByteArray} (h : ¬ p.data.toList <+: s.data.toList) : skipA s p = false := decide_eq_false h
theorem pre1 {c d : UInt8} {p t : List UInt8} (h : c ≠ d) : ¬ c :: p <+: d :: t := fun hh => h (List.cons_prefix_cons.1 hh).1
/-- The locals' text. -/
def locs (ls : List ByteArray) : List UInt8 := (bys ls).flatMap (fun s => 59 :: s)
theorem locs_cons (x : ByteArray) (ls : List ByteArray) : locs (x :: ls) = 59 :: (x.data.toList ++ locs ls) := by simp [locs, bys]
theorem gW_locs (ls : List ByteArray) : gW (locs ls) = 0 ∧ bgW (locs ls) = 0 := by
  cases ls with
  | nil => exact ⟨gW_nil, bgW_nil⟩
  | cons x t => rw [locs_cons]; exact gW_sep _ (.inr (.inr (.inr rfl)))
theorem locs_no (ls : List ByteArray) {c : UInt8} {p : List UInt8} (hc : c ≠ 59) : ¬ c :: p <+: locs ls := by
  cases ls with
  | nil => intro h; simp [locs, bys] at h
  | cons x t => rw [locs_cons]; exact pre1 hc
theorem locLoop_all : ∀ (ls : List ByteArray) (k : Nat) (s : ByteArray) (acc : List ByteArray), (∀ x ∈ ls, isName x.data.toList = true) → s.data.toList = locs ls → s.size < k → locLoop k s acc = (nilS, acc ++ ls)
  | _, 0, s, acc, _, _, hk => by omega
  | [], k + 1, s, acc, _, hs, hk => by
    have h1 : s = nilS := ba_ext hs
    have h2 : skipA nilS semiS = false := by decide
    rw [h1, locLoop, h2]
    simp
  | x :: t, k + 1, s, acc, hn, hs, hk => by
    rw [locs_cons] at hs
    obtain ⟨h1, h2⟩ := skip_yes (s := s) (p := semiS) (t := x.data.toList ++ locs t) hs
    obtain ⟨h3, h4⟩ := word_name h2 (hn x (List.mem_cons_self ..)) (gW_locs t).1
    have h5 := skipB_less h1 (by decide)
    have h6 := wordB_size (skipB s semiS)
    rw [locLoop, if_pos h1, h3, locLoop_all t k _ _ (fun y hy => hn y (List.mem_cons_of_mem _ hy)) h4 (by omega)]
    simp

/-- What a right header's names are. -/
structure HOk (R : Raw) : Prop where
  a : R.a.data.toList = [] ∨ isName R.a.data.toList = true
  b : R.b.data.toList = [] ∨ isName R.b.data.toList = true
  c : isName R.c.data.toList = true
  d : R.d.data.toList = [] ∨ isName R.d.data.toList = true
  e : R.e.data.toList = [] ∨ isName R.e.data.toList = true
  f : R.f.data.toList = [] ∨ isName R.f.data.toList = true
  ls : ∀ x ∈ R.ls, isName x.data.toList = true
  rt : R.d.data.toList = [] → R.b.data.toList = [] ∧ R.e.data.toList = []
  g : R.e.data.toList = [] → R.f.data.toList = []
theorem mayB_iff {l : List UInt8} : mayB l = true ↔ l = [] ∨ isName l = true := by
  unfold mayB
  rw [Bool.or_eq_true, List.isEmpty_iff]
theorem Raw.hok {R : Raw} (h : R.ok = true) : HOk R := by
  have hc := hdrOk_name (show hdrOk R.a.data.toList R.b.data.toList R.c.data.toList R.d.data.toList R.e.data.toList R.f.data.toList (bys R.ls) = true from h)
  unfold Raw.ok hdrOk at h
  simp only [Bool.and_eq_true, List.all_append, List.all_cons, mayB_iff] at h
  obtain ⟨⟨⟨⟨⟨h1, h2⟩, h3⟩, h4⟩, h5⟩, _⟩ := h
  obtain ⟨⟨ha, hb, _, hd, he, hf, _⟩, hls⟩ := h2
  refine ⟨ha, hb, hc, hd, he, hf, fun x hx => ?_, fun hz => ?_, fun hz => ?_⟩
  · have hx2 : x.data.toList ∈ bys R.ls := List.mem_map_of_mem hx
    rcases mayB_iff.1 (List.all_eq_true.1 hls _ hx2) with h6 | h6
    · have h7 := List.all_eq_true.1 h3 _ hx2
      rw [h6] at h7
      simp at h7
    · exact h6
  · rw [hz] at h4
    simpa using h4
  · rw [hz] at h5
    simpa using h5

theorem st4_all {s : ByteArray} {ls : List ByteArray} (a b c d e f : ByteArray) (hn : ∀ x ∈ ls, isName x.data.toList = true) (hs : s.data.toList = locs ls) : st4 s a b c d e f = ⟨nilS, a, b, c, d, e, f, ls⟩ := by
  unfold st4
  rw [locLoop_all ls (s.size + 1) s [] hn hs (Nat.lt_succ_self _)]
  simp
theorem st3_locs {s : ByteArray} {ls : List ByteArray} (a b c d e f : ByteArray) (hn : ∀ x ∈ ls, isName x.data.toList = true) (hs : s.data.toList = locs ls) : st3 s a b c d e f = ⟨nilS, a, b, c, d, e, f, ls⟩ := by
  unfold st3
  rw [if_neg, st4_all a b c d e f hn hs]
  intro h
  have := of_decide_eq_true h.2
  rw [hs] at this
  exact locs_no ls (by decide) this
/-- What stands behind the name, or the brackets. -/
def rtl (rt : ByteArray) (ls : List ByteArray) : List UInt8 := (if rt.data.toList = [] then [] else 32 :: rt.data.toList) ++ locs ls
theorem gW_rtl (rt : ByteArray) (ls : List ByteArray) : gW (rtl rt ls) = 0 ∧ bgW (rtl rt ls) = 0 := by
  unfold rtl
  split
  · exact gW_locs ls
  · exact gW_sep _ (.inl rfl)
theorem rtl_no {rt : ByteArray} {ls : List ByteArray} {c : UInt8} {p : List UInt8} (h1 : c ≠ 32) (h2 : c ≠ 59) : ¬ c :: p <+: rtl rt ls := by
  unfold rtl
  split
  · exact locs_no ls h2
  · exact pre1 h1
/-- Behind a name alone, or the brackets: what is right, and the locals. -/
theorem st2_tail {s rt : ByteArray} {ls : List ByteArray} (a b c e f : ByteArray) (hrt : rt.data.toList = [] ∨ isName rt.data.toList = true) (hn : ∀ x ∈ ls, isName x.data.toList = true)
    (hs : s.data.toList = rtl rt ls) : st2 s a b c nilS e f = ⟨nilS, a, b, c, rt, e, f, ls⟩ := by
  unfold st2
  unfold rtl at hs
  rcases hrt with h | h
  · rw [if_pos h, List.nil_append] at hs
    have h1 : skipA s gapS = false := skip_no (by rw [hs]; exact locs_no ls (by decide))
    have h2 : rt = nilS := ba_ext h
    rw [h1, if_neg (by simp), st3_locs a b c nilS e f hn hs, h2]
  · rw [if_neg (isName_ne h)] at hs
    obtain ⟨h1, h2⟩ := skip_yes (s := s) (p := gapS) (t := rt.data.toList ++ locs ls) (by rw [hs]; rfl)
    obtain ⟨h3, h4⟩ := word_name h2 h (gW_locs ls).1
    rw [if_pos h1, h3, st3_locs a b c rt e f hn h4]
/-- Of a name with one at its left. -/
theorem st2_left {s nm rt : ByteArray} {ls : List ByteArray} (a c : ByteArray) (hnm : isName nm.data.toList = true) (hrt : isName rt.data.toList = true) (hn : ∀ x ∈ ls, isName x.data.toList = true)
    (hs : s.data.toList = 32 :: (nm.data.toList ++ rtl rt ls)) : st2 s a nilS c nilS nilS nilS = ⟨nilS, a, c, nm, rt, nilS, nilS, ls⟩ := by
  obtain ⟨h1, h2⟩ := skip_yes (s := s) (p := gapS) (t := nm.data.toList ++ rtl rt ls) (by rw [hs]; rfl)
  obtain ⟨h3, h4⟩ := word_name h2 hnm (gW_rtl rt ls).1
  have h5 : rtl rt ls = 32 :: (rt.data.toList ++ locs ls) := by unfold rtl; rw [if_neg (isName_ne hrt)]; rfl
  rw [h5] at h4
  obtain ⟨h6, h7⟩ := skip_yes (s := wordB (skipB s gapS)) (p := gapS) (t := rt.data.toList ++ locs ls) (by rw [h4]; rfl)
  obtain ⟨h8, h9⟩ := word_name h7 hrt (gW_locs ls).1
  unfold st2
  rw [if_pos h1, h3]
  unfold st3
  rw [if_pos ⟨rfl, h6⟩, h8, st4_all a c nm rt nilS nilS hn h9]
/-- What stands in brackets. -/
theorem op_all {s f nm g : ByteArray} {t : List UInt8} (hf : isName f.data.toList = true) (hnm : isName nm.data.toList = true) (hg : g.data.toList = [] ∨ isName g.data.toList = true)
    (hs : s.data.toList = f.data.toList ++ 32 :: (nm.data.toList ++ ((if g.data.toList = [] then [] else 32 :: g.data.toList) ++ 41 :: t))) :
    opF s = f ∧ opN s = nm ∧ opG s nilS = g ∧ (opR s).data.toList = t := by
  obtain ⟨h1, h2⟩ := word_name hs hf (gW_sep _ (.inl rfl)).1
  obtain ⟨h3, h4⟩ := skip_yes (s := wordB s) (p := gapS) (by rw [h2]; rfl)
  have hst : gW ((if g.data.toList = [] then [] else 32 :: g.data.toList) ++ 41 :: t) = 0 := by
    split
    · exact (gW_sep _ (.inr (.inr (.inl rfl)))).1
    · exact (gW_sep _ (.inl rfl)).1
  obtain ⟨h5, h6⟩ := word_name h4 hnm hst
  have e2 : (op2 s).data.toList = (if g.data.toList = [] then [] else 32 :: g.data.toList) ++ 41 :: t := by unfold op2 op1; exact h6
  refine ⟨by unfold opF; exact h1, by unfold opN op1; exact h5, ?_, ?_⟩
  · rcases hg with hg | hg
    · rw [if_pos hg, List.nil_append] at e2
      have h7 : skipA (op2 s) gapS = false := skip_no (by rw [e2]; exact pre1 (by decide))
      unfold opG
      rw [h7, if_neg (by simp)]
      exact (ba_ext hg).symm
    · rw [if_neg (isName_ne hg)] at e2
      obtain ⟨h7, h8⟩ := skip_yes (s := op2 s) (p := gapS) (t := g.data.toList ++ 41 :: t) (by rw [e2]; rfl)
      obtain ⟨h9, _⟩ := word_name h8 hg (gW_sep _ (.inr (.inr (.inl rfl)))).1
      unfold opG
      rw [if_pos h7, h9]
  · have e3 : (op3 s).data.toList = 41 :: t := by
      rcases hg with hg | hg
      · rw [if_pos hg, List.nil_append] at e2
        have h7 : skipA (op2 s) gapS = false := skip_no (by rw [e2]; exact pre1 (by decide))
        unfold op3
        rw [h7, if_neg (by simp), e2]
      · rw [if_neg (isName_ne hg)] at e2
        obtain ⟨h7, h8⟩ := skip_yes (s := op2 s) (p := gapS) (t := g.data.toList ++ 41 :: t) (by rw [e2]; rfl)
        obtain ⟨_, h9⟩ := word_name h8 hg (gW_sep _ (.inr (.inr (.inl rfl)))).1
        unfold op3
        rw [if_pos h7, h9]
    unfold opR
    exact (skip_yes (s := op3 s) (p := ⟨#[41]⟩) (t := t) (by rw [e3]; rfl)).2
/-- The name, or the brackets. -/
def mid (nm f g : List UInt8) : List UInt8 := if f = [] then nm else 40 :: (f ++ 32 :: (nm ++ ((if g = [] then [] else 32 :: g) ++ [41])))
theorem text_eq (R : Raw) : R.text = putS R.a.data.toList [226, 134, 144] ++ (putS R.b.data.toList [32] ++ (mid R.c.data.toList R.e.data.toList R.f.data.toList ++ rtl R.d R.ls)) := by
  unfold Raw.text hdrText mid rtl locs
  by_cases h : R.e.data.toList = []
  · simp [h]
  · simp [h]
theorem pre_no {c d : UInt8} {p l : List UInt8} (h : ∀ t, l ≠ c :: t) : ¬ c :: p <+: l := fun ⟨t, e⟩ => h (p ++ t) e.symm
theorem name_no {x : List UInt8} (h : isName x = true) {c : UInt8} (hc : sepB c) (u p : List UInt8) : ¬ c :: p <+: x ++ u := fun ⟨t, e⟩ => name_sep h hc u (p ++ t) e.symm
theorem st1_all {R : Raw} (h : HOk R) (s a : ByteArray) (hs : s.data.toList = putS R.b.data.toList [32] ++ (mid R.c.data.toList R.e.data.toList R.f.data.toList ++ rtl R.d R.ls)) :
    st1 (wordA s) (wordB s) a = ⟨nilS, a, R.b, R.c, R.d, R.e, R.f, R.ls⟩ ∧ ¬ getsS.data.toList <+: (wordB s).data.toList := by
  by_cases he : R.e.data.toList = []
  · have he2 : R.e = nilS := ba_ext he
    have hf2 : R.f = nilS := ba_ext (h.g he)
    have hm : mid R.c.data.toList R.e.data.toList R.f.data.toList = R.c.data.toList := by unfold mid; rw [if_pos he]
    rw [hm] at hs
    rcases h.b with hb | hb
    · have hb2 : R.b = nilS := ba_ext hb
      rw [hb, putS, if_pos rfl, List.nil_append] at hs
      obtain ⟨h1, h2⟩ := word_name hs h.c (gW_rtl R.d R.ls).1
      refine ⟨?_, by rw [h2]; exact rtl_no (by decide) (by decide)⟩
      have h3 : skipA (wordB s) gapOpenS = false := by
        refine skip_no ?_
        rw [h2]
        unfold rtl
        rcases h.d with hd | hd
        · rw [if_pos hd, List.nil_append]; exact locs_no _ (by decide)
        · rw [if_neg (isName_ne hd)]
          intro hh
          exact name_no hd (.inr (.inl rfl)) (locs R.ls) [] (List.cons_prefix_cons.1 hh).2
      unfold st1
      rw [h1, if_neg (fun hh => isName_ne h.c hh.1), h3, if_neg (by simp), st2_tail a nilS R.c nilS nilS h.d h.ls h2, hb2, he2, hf2]
    · have hd : isName R.d.data.toList = true := by
        rcases h.d with hd | hd
        · exact absurd (h.rt hd).1 (isName_ne hb)
        · exact hd
      have hs2 : s.data.toList = R.b.data.toList ++ 32 :: (R.c.data.toList ++ rtl R.d R.ls) := by
        rw [hs]; unfold putS; rw [if_neg (isName_ne hb)]; simp
      obtain ⟨h1, h2⟩ := word_name hs2 hb (gW_sep _ (.inl rfl)).1
      refine ⟨?_, by rw [h2]; exact pre1 (by decide)⟩
      have h3 : skipA (wordB s) gapOpenS = false := by
        refine skip_no ?_
        rw [h2]
        intro hh
        exact name_no h.c (.inr (.inl rfl)) (rtl R.d R.ls) [] (List.cons_prefix_cons.1 hh).2
      unfold st1
      rw [h1, if_neg (fun hh => isName_ne hb hh.1), h3, if_neg (by simp), st2_left a R.b h.c hd h.ls h2, he2, hf2]
  · have hen : isName R.e.data.toList = true := by
      rcases h.e with h1 | h1
      · exact absurd h1 he
      · exact h1
    have hm : mid R.c.data.toList R.e.data.toList R.f.data.toList ++ rtl R.d R.ls = 40 :: (R.e.data.toList ++ 32 :: (R.c.data.toList ++ ((if R.f.data.toList = [] then [] else 32 :: R.f.data.toList) ++ 41 :: rtl R.d R.ls))) := by
      unfold mid
      rw [if_neg he]
      simp
    rw [hm] at hs
    rcases h.b with hb | hb
    · have hb2 : R.b = nilS := ba_ext hb
      rw [hb, putS, if_pos rfl, List.nil_append] at hs
      obtain ⟨h1, h2⟩ := word_none (s := s) (by rw [hs]; exact (gW_sep _ (.inr (.inl rfl))).2)
      rw [hs] at h2
      refine ⟨?_, by rw [h2]; exact pre1 (by decide)⟩
      obtain ⟨h3, h4⟩ := skip_yes (s := wordB s) (p := openS) (t := R.e.data.toList ++ 32 :: (R.c.data.toList ++ ((if R.f.data.toList = [] then [] else 32 :: R.f.data.toList) ++ 41 :: rtl R.d R.ls))) (by rw [h2]; rfl)
      obtain ⟨h5, h6, h7, h8⟩ := op_all hen h.c h.f h4
      unfold st1
      rw [h1, if_pos ⟨rfl, h3⟩, h5, h6, h7, st2_tail a nilS R.c R.e R.f h.d h.ls h8, hb2]
    · have hs2 : s.data.toList = R.b.data.toList ++ 32 :: 40 :: (R.e.data.toList ++ 32 :: (R.c.data.toList ++ ((if R.f.data.toList = [] then [] else 32 :: R.f.data.toList) ++ 41 :: rtl R.d R.ls))) := by
        rw [hs]; unfold putS; rw [if_neg (isName_ne hb)]; simp
      obtain ⟨h1, h2⟩ := word_name hs2 hb (gW_sep _ (.inl rfl)).1
      refine ⟨?_, by rw [h2]; exact pre1 (by decide)⟩
      obtain ⟨h3, h4⟩ := skip_yes (s := wordB s) (p := gapOpenS) (t := R.e.data.toList ++ 32 :: (R.c.data.toList ++ ((if R.f.data.toList = [] then [] else 32 :: R.f.data.toList) ++ 41 :: rtl R.d R.ls))) (by rw [h2]; rfl)
      obtain ⟨h5, h6, h7, h8⟩ := op_all hen h.c h.f h4
      unfold st1
      rw [h1, if_neg (fun hh => isName_ne hb hh.1), if_pos h3, h5, h6, h7, st2_tail a R.b R.c R.e R.f h.d h.ls h8]

/-- A right header is guessed of its text as it was, and nothing is left. -/
theorem st0_text {R : Raw} (h : R.ok = true) {s : ByteArray} (hs : s.data.toList = R.text) : st0 s = ⟨nilS, R.a, R.b, R.c, R.d, R.e, R.f, R.ls⟩ := by
  have hk := Raw.hok h
  rw [text_eq] at hs
  rcases hk.a with ha | ha
  · have ha2 : R.a = nilS := ba_ext ha
    rw [ha, putS, if_pos rfl, List.nil_append] at hs
    obtain ⟨h1, h2⟩ := st1_all hk s nilS hs
    unfold st0
    rw [skip_no h2, if_neg (by simp), h1, ha2]
  · have hs2 : s.data.toList = R.a.data.toList ++ (226 :: 134 :: 144 :: (putS R.b.data.toList [32] ++ (mid R.c.data.toList R.e.data.toList R.f.data.toList ++ rtl R.d R.ls))) := by
      rw [hs, putS, if_neg (isName_ne ha)]; simp
    obtain ⟨h1, h2⟩ := word_name hs2 ha (gW_gets _).1
    obtain ⟨h3, h4⟩ := skip_yes (s := wordB s) (p := getsS) (t := putS R.b.data.toList [32] ++ (mid R.c.data.toList R.e.data.toList R.f.data.toList ++ rtl R.d R.ls)) (by rw [h2]; rfl)
    obtain ⟨h5, _⟩ := st1_all hk (skipB (wordB s) getsS) R.a h4
    unfold st0
    rw [if_pos h3, h1, h5]
theorem mid_ne {nm f g : List UInt8} (h : nm ≠ []) : mid nm f g ≠ [] := by
  unfold mid
  split
  · exact h
  · simp
theorem text_ne {R : Raw} (h : R.ok = true) : R.text ≠ [] := by
  have hk := Raw.hok h
  rw [text_eq]
  have := mid_ne (f := R.e.data.toList) (g := R.f.data.toList) (isName_ne hk.c)
  simp [this]
/-- What is right is read. -/
theorem reads_text {R : Raw} (h : R.ok = true) {s : ByteArray} (hs : s.data.toList = R.text) : reads s = true := by
  rw [reads_iff, st0_text h hs]
  exact ⟨rfl, by rw [hs]; exact text_ne h, h, hs.symm⟩
end Go.Proofs.Ytmddkjmcbddhiaa.P
end
