/-
  Plain: what header.Parse tells: nothing, or a right header whose text is what was read. No memory in sight.
-/
import Derived.Test.YtmddkjmcbddhiaaDoorGParseJ
namespace Go.Proofs.YtmddkjmcbddhiaaDoor.P
open Go.RowKit Go.Proofs.YtmddkjmcbddhiaaDoorW.PrintWords Go.Proofs.YtmddkjmcbddhiaaDoor.Sp
set_option linter.unusedVariables false
set_option linter.unusedSimpArgs false

/-- Every part of what has been guessed is no longer than n. -/
structure RSz (n : Nat) (R : Raw) : Prop where
  a : R.a.size ≤ n
  b : R.b.size ≤ n
  c : R.c.size ≤ n
  d : R.d.size ≤ n
  e : R.e.size ≤ n
  f : R.f.size ≤ n
  ls : lsum R.ls ≤ n
theorem wordA_size (s : ByteArray) : (wordA s).size ≤ s.size := by
  unfold wordA
  rw [ByteArray.size_extract]
  omega
theorem wordAB_size (s : ByteArray) : (wordA s).size + (wordB s).size = s.size := by
  have h := nameLen_le s.data.toList
  rw [length_data] at h
  unfold wordA wordB
  rw [ByteArray.size_extract, ByteArray.size_extract]
  omega
theorem lsum_snoc (l : List ByteArray) (x : ByteArray) : lsum (l ++ [x]) = lsum l + (x.size + 1) := by
  simp [lsum]
theorem locLoop_size : ∀ (k : Nat) (s : ByteArray) (l : List ByteArray) (n : Nat), lsum l + s.size ≤ n → lsum (locLoop k s l).2 ≤ n
  | 0, s, l, n, h => by unfold locLoop; exact Nat.le_trans (Nat.le_add_right _ _) h
  | k + 1, s, l, n, h => by
    unfold locLoop
    split
    · rename_i hk
      refine locLoop_size k _ _ n ?_
      have h1 := skipB_less hk (by decide)
      have h2 := wordAB_size (skipB s semiS)
      rw [lsum_snoc]
      omega
    · exact Nat.le_trans (Nat.le_add_right _ _) h
theorem st4_size {n : Nat} {s a b c d e f : ByteArray} (hs : s.size ≤ n) (ha : a.size ≤ n) (hb : b.size ≤ n) (hc : c.size ≤ n) (hd : d.size ≤ n) (he : e.size ≤ n) (hf : f.size ≤ n) : RSz n (st4 s a b c d e f) :=
  ⟨ha, hb, hc, hd, he, hf, locLoop_size _ _ _ _ (by simpa [lsum] using hs)⟩
theorem wb_size {n : Nat} {s p : ByteArray} (hs : s.size ≤ n) : (wordB (skipB s p)).size ≤ n := Nat.le_trans (wordB_size _) (Nat.le_trans (skipB_size _ _) hs)
theorem wa_size {n : Nat} {s p : ByteArray} (hs : s.size ≤ n) : (wordA (skipB s p)).size ≤ n := Nat.le_trans (wordA_size _) (Nat.le_trans (skipB_size _ _) hs)
theorem st3_size {n : Nat} {s a b c d e f : ByteArray} (hs : s.size ≤ n) (ha : a.size ≤ n) (hb : b.size ≤ n) (hc : c.size ≤ n) (hd : d.size ≤ n) (he : e.size ≤ n) (hf : f.size ≤ n) : RSz n (st3 s a b c d e f) := by
  unfold st3
  split
  · exact st4_size (wb_size hs) ha hc hd (wa_size hs) he hf
  · exact st4_size hs ha hb hc hd he hf
theorem st2_size {n : Nat} {s a b c d e f : ByteArray} (hs : s.size ≤ n) (ha : a.size ≤ n) (hb : b.size ≤ n) (hc : c.size ≤ n) (hd : d.size ≤ n) (he : e.size ≤ n) (hf : f.size ≤ n) : RSz n (st2 s a b c d e f) := by
  unfold st2
  split
  · exact st3_size (wb_size hs) ha hb hc (wa_size hs) he hf
  · exact st3_size hs ha hb hc hd he hf
theorem op1_size (s : ByteArray) : (op1 s).size ≤ s.size := Nat.le_trans (skipB_size _ _) (wordB_size _)
theorem opN_size (s : ByteArray) : (opN s).size ≤ s.size := Nat.le_trans (wordA_size _) (op1_size s)
theorem opG_size (s : ByteArray) : (opG s nilS).size ≤ s.size := by
  unfold opG
  split
  · exact Nat.le_trans (wordA_size _) (Nat.le_trans (skipB_size _ _) (Nat.le_trans (wordB_size _) (op1_size s)))
  · exact Nat.zero_le _
theorem nil_size {n : Nat} : nilS.size ≤ n := Nat.zero_le _
theorem st1_size {n : Nat} {first s a : ByteArray} (hs : s.size ≤ n) (hf : first.size ≤ n) (ha : a.size ≤ n) : RSz n (st1 first s a) := by
  have h1 : ∀ p, (skipB s p).size ≤ n := fun p => Nat.le_trans (skipB_size _ _) hs
  unfold st1
  split
  · exact st2_size (Nat.le_trans (opR_size _) (h1 _)) ha nil_size (Nat.le_trans (opN_size _) (h1 _)) nil_size (Nat.le_trans (wordA_size _) (h1 _)) (Nat.le_trans (opG_size _) (h1 _))
  · split
    · exact st2_size (Nat.le_trans (opR_size _) (h1 _)) ha hf (Nat.le_trans (opN_size _) (h1 _)) nil_size (Nat.le_trans (wordA_size _) (h1 _)) (Nat.le_trans (opG_size _) (h1 _))
    · exact st2_size hs ha nil_size hf nil_size nil_size nil_size
theorem st0_size (s : ByteArray) : RSz s.size (st0 s) := by
  have h1 := wordB_size s
  unfold st0
  split
  · exact st1_size (wb_size h1) (wa_size h1) (wordA_size s)
  · exact st1_size h1 (wordA_size s) nil_size
theorem RSz.sized {n : Nat} {R : Raw} (h : RSz n R) (hn : n ≤ 1099511627776) : HSized R.a R.b R.c R.d R.e R.f R.ls := by
  obtain ⟨h1, h2, h3, h4, h5, h6, h7⟩ := h
  have := lsum_length R.ls
  exact ⟨by omega, by omega⟩
theorem header_Text_f {a b c d e f : ByteArray} {l : List ByteArray} (h : HSized a b c d e f l) : header_Text.f a b c d e f l = some (if hdrOk a.data.toList b.data.toList c.data.toList d.data.toList e.data.toList f.data.toList (bys l) = true then ⟨(hdrText a.data.toList b.data.toList c.data.toList d.data.toList e.data.toList f.data.toList (bys l)).toArray⟩ else ⟨#[]⟩) := by
  unfold header_Text.f
  rw [if_pos ⟨h.sum, h.len⟩]
  split <;> rfl
/-- Whether a header is right, and its text. -/
def Raw.ok (R : Raw) : Bool := hdrOk R.a.data.toList R.b.data.toList R.c.data.toList R.d.data.toList R.e.data.toList R.f.data.toList (bys R.ls)
def Raw.text (R : Raw) : List UInt8 := hdrText R.a.data.toList R.b.data.toList R.c.data.toList R.d.data.toList R.e.data.toList R.f.data.toList (bys R.ls)
theorem Raw.text_f {R : Raw} (h : HSized R.a R.b R.c R.d R.e R.f R.ls) : header_Text.f R.a R.b R.c R.d R.e R.f R.ls = some (if R.ok = true then ⟨R.text.toArray⟩ else ⟨#[]⟩) := header_Text_f h
/-- Does a text that is read say a header? -/
def reads (s : ByteArray) : Bool := decide ((st0 s).rest.data.toList = []) && (!decide (s.data.toList = []) && ((st0 s).ok && decide ((st0 s).text = s.data.toList)))
theorem header_Parse_f (s : ByteArray) (hs : s.size ≤ 1099511627776) : header_Parse.f s = some (if reads s = true then ((st0 s).a, (st0 s).b, (st0 s).c, (st0 s).d, (st0 s).e, (st0 s).f, (st0 s).ls, true) else (nilS, nilS, nilS, nilS, nilS, nilS, [], false)) := by
  have hz := (st0_size s).sized hs
  unfold header_Parse.f reads
  rw [if_pos hs, Raw.text_f hz]
  by_cases h1 : (st0 s).rest.data.toList = []
  · by_cases h2 : s.data.toList = []
    · rw [if_neg (fun hh => hh.2 h2)]
      simp [h2]
    · rw [if_pos ⟨h1, h2⟩]
      cases hk : (st0 s).ok with
      | true =>
        by_cases h3 : (st0 s).text = s.data.toList
        · simp [h1, h2, h3]
        · simp [h1, h2, h3]
      | false =>
        have h4 : ¬ ([] : List UInt8) = s.data.toList := fun e => h2 e.symm
        simp [h4]
  · rw [if_neg (fun hh => h1 hh.1)]
    simp [h1]
theorem reads_iff {s : ByteArray} : reads s = true ↔ (st0 s).rest.data.toList = [] ∧ ¬ s.data.toList = [] ∧ (st0 s).ok = true ∧ (st0 s).text = s.data.toList := by
  unfold reads
  simp
theorem hdrOk_name {r lf nm rt f g : List UInt8} {ls : List (List UInt8)} (h : hdrOk r lf nm rt f g ls = true) : isName nm = true := by
  unfold hdrOk at h
  simp only [Bool.and_eq_true, List.all_append, List.all_cons, mayB, Bool.or_eq_true] at h
  obtain ⟨⟨⟨⟨⟨h1, h2⟩, _⟩, _⟩, _⟩, _⟩ := h
  have h3 := h2.1.2.2.1
  rcases h3 with h3 | h3
  · cases nm with
    | nil => simp at h1
    | cons => simp at h3
  · exact h3
end Go.Proofs.YtmddkjmcbddhiaaDoor.P
