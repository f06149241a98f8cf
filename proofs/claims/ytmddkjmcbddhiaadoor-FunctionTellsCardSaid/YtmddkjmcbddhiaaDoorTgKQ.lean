/-
  Plain: what Few and the reference's Same come to. No memory in sight.
  Plain: a header with one local more, or with a result; how long a header's text is. No memory in sight.
  Plain: what the reference 15's Right and Text come to. No memory in sight.
-/
import Derived.Test.YtmddkjmcbddhiaaDoorP45KQ
import Derived.Test.YtmddkjmcbddhiaaDoorPcKQ
import Derived.Test.YtmddkjmcbddhiaaDoorP37KQ
import Derived.Test.YtmddkjmcbddhiaaDoorP36KQ
section
namespace Go.Proofs.YtmddkjmcbddhiaaDoor.P
open Go.RowKit Go.Proofs.YtmddkjmcbddhiaaDoorW.PrintWords Go.Proofs.YtmddkjmcbddhiaaDoor.Sp
set_option linter.unusedVariables false
set_option linter.unusedSimpArgs false

/-- Few and short. -/
structure FewH (a b c d e f : ByteArray) (l : List ByteArray) : Prop where
  a : a.size ≤ 100
  b : b.size ≤ 100
  c : c.size ≤ 100
  d : d.size ≤ 100
  e : e.size ≤ 100
  f : f.size ≤ 100
  n : l.length ≤ 30
  l : ∀ x ∈ l, x.size ≤ 100
theorem FewH.lsum_le {a b c d e f : ByteArray} {l : List ByteArray} (h : FewH a b c d e f l) : lsum l ≤ 3100 := by
  have h1 : ∀ l : List ByteArray, (∀ x ∈ l, x.size ≤ 100) → lsum l ≤ l.length * 101 := by
    intro l
    induction l with
    | nil => intro _; exact Nat.le_refl _
    | cons x t ih =>
      intro hx
      have := ih (fun y hy => hx y (List.mem_cons_of_mem _ hy))
      have h2 := hx x (List.mem_cons_self ..)
      simp only [lsum, List.map_cons, List.sum_cons, List.length_cons] at this ⊢
      omega
  have := h1 l h.l
  have := h.n
  omega
theorem FewH.sized {a b c d e f : ByteArray} {l : List ByteArray} (h : FewH a b c d e f l) : HSized a b c d e f l := by
  have := h.lsum_le
  obtain ⟨h1, h2, h3, h4, h5, h6, h7, _⟩ := h
  exact ⟨by omega, by omega⟩

end Go.Proofs.YtmddkjmcbddhiaaDoor.P
end
section
namespace Go.Proofs.YtmddkjmcbddhiaaDoor.P
open Go.RowKit Go.Proofs.YtmddkjmcbddhiaaDoorW.PrintWords Go.Proofs.YtmddkjmcbddhiaaDoor.Sp
set_option linter.unusedVariables false
set_option linter.unusedSimpArgs false

end Go.Proofs.YtmddkjmcbddhiaaDoor.P
end
section
namespace Go.Proofs.YtmddkjmcbddhiaaDoor.P
open Go.RowKit Go.Proofs.YtmddkjmcbddhiaaDoorW.PrintWords Go.Proofs.YtmddkjmcbddhiaaDoor.Sp
set_option linter.unusedVariables false
set_option linter.unusedSimpArgs false

def goodAt (i : Nat) (x : List UInt8) : Bool := isName x || (x == [] && !(decide (i = 2)) && !(decide (5 < i)))
def goodL : Nat → List (List UInt8) → Bool
  | _, [] => true
  | i, x :: t => goodAt i x && goodL (i + 1) t
def hdrTail (lf rt f g : List UInt8) (ys : List (List UInt8)) : Bool := !(rt == [] && !(lf ++ f == [])) && !(f == [] && !(g == [])) && unl ys
theorem ref_HRight_end (a b c d e f : ByteArray) (l y : List ByteArray) (hy : y.length ≤ 4611686018427387904) (i : Nat) (hi : y.length ≤ i) :
    Ev (fun k => deckleref15_Right.l0 k y (i : Int) a b c d e f l) (hdrTail b.data.toList d.data.toList e.data.toList f.data.toList (bys y)) := by
  obtain ⟨K, hK⟩ := ref_Unlike y hy
  refine ⟨K + 1, fun k hk => ?_⟩
  obtain ⟨m, rfl⟩ : ∃ m, k = m + 1 := ⟨k - 1, by omega⟩
  have hu : deckleref08_Unlike.f m y = some (unl (bys y)) := hK m (by omega)
  show deckleref15_Right.l0 (m + 1) _ _ _ _ _ _ _ _ _ = _
  rw [deckleref15_Right.l0, if_neg (by omega), hu]
  simp only [ByteArray.toList_eq, Option.bind_some]
  unfold hdrTail
  by_cases hd : d.data.toList = []
  · by_cases hb : b.data.toList = []
    · by_cases he : e.data.toList = []
      · by_cases hf : f.data.toList = []
        · simp [hd, hb, he, hf]
        · have : (f.data.toList == []) = false := by simpa using hf
          simp [hd, hb, he, hf, this]
      · have he2 : (e.data.toList == []) = false := by simpa using he
        simp [hd, hb, he, he2]
    · have hb2 : (b.data.toList == []) = false := by simpa using hb
      simp [hd, hb, hb2]
  · have hd2 : (d.data.toList == []) = false := by simpa using hd
    by_cases he : e.data.toList = []
    · by_cases hf : f.data.toList = []
      · simp [hd, hd2, he, hf]
      · have : (f.data.toList == []) = false := by simpa using hf
        simp [hd, hd2, he, hf, this]
    · have he2 : (e.data.toList == []) = false := by simpa using he
      simp [hd, hd2, he, he2]
theorem ref_HRight_l0 (a b c d e f : ByteArray) (l y : List ByteArray) (hy : y.length ≤ 4611686018427387904) (hs : ∀ x ∈ y, x.size ≤ 4611686018427387904) (n : Nat) : ∀ i : Nat, y.length ≤ i + n →
    Ev (fun k => deckleref15_Right.l0 k y (i : Int) a b c d e f l) (goodL i (bys (y.drop i)) && hdrTail b.data.toList d.data.toList e.data.toList f.data.toList (bys y)) := by
  have stop : ∀ i : Nat, y.length ≤ i → Ev (fun k => deckleref15_Right.l0 k y (i : Int) a b c d e f l) (goodL i (bys (y.drop i)) && hdrTail b.data.toList d.data.toList e.data.toList f.data.toList (bys y)) := by
    intro i hi
    rw [List.drop_eq_nil_of_le hi]
    exact ref_HRight_end a b c d e f l y hy i hi
  induction n with
  | zero => intro i hi; exact stop i (by omega)
  | succ n ih =>
    intro i hi
    by_cases hlt : i < y.length
    · have hd := drop_cons y i hlt
      have hg : goodL i (bys (y.drop i)) = (goodAt i y[i].data.toList && goodL (i + 1) (bys (y.drop (i + 1)))) := by rw [hd]; rfl
      rw [hg]
      obtain ⟨K1, h1⟩ := ref_Right y[i] (hs _ (List.getElem_mem hlt))
      obtain ⟨K2, h2⟩ := ih (i + 1) (by omega)
      refine ⟨K1 + K2 + 1, fun k hk => ?_⟩
      obtain ⟨m, rfl⟩ : ∃ m, k = m + 1 := ⟨k - 1, by omega⟩
      have e1 : deckleref08_Right.f m y[i] = some (isName y[i].data.toList) := h1 m (by omega)
      have e2 : deckleref15_Right.l0 m y ((i + 1 : Nat) : Int) a b c d e f l = some _ := h2 m (by omega)
      show deckleref15_Right.l0 (m + 1) _ _ _ _ _ _ _ _ _ = _
      rw [deckleref15_Right.l0, if_pos (by omega), if_pos (by omega), rdOf_at y i hlt, e1, wrap_nat rfl (by omega), e2]
      simp only [Option.bind_some, ByteArray.toList_eq]
      unfold goodAt
      cases hn : isName y[i].data.toList with
      | true => simp
      | false =>
        by_cases hz : y[i].data.toList = []
        · by_cases h3 : i = 2
          · subst h3; simp [hz]
          · by_cases h4 : 5 < i
            · have h5 : ¬ (i : Int) = 2 := by omega
              have h6 : (i : Int) > 5 := by omega
              simp [hz, h3, h4, h5, h6]
            · have h5 : ¬ (i : Int) = 2 := by omega
              have h6 : ¬ (i : Int) > 5 := by omega
              simp only [hz, Bool.false_eq_true, if_false, if_true, if_neg h5, if_neg h6, decide_eq_false h3, decide_eq_false h4]
              simp
        · have h7 : (y[i].data.toList == []) = false := by simpa using hz
          simp [hz, h7]
    · exact stop i (by omega)
theorem goodL_locs : ∀ (ls : List (List UInt8)) (i : Nat), 5 < i → goodL i ls = (ls.all mayB && ls.all fun x => !(x == []))
  | [], _, _ => rfl
  | x :: t, i, hi => by
    have h1 : goodAt i x = (mayB x && !(x == [])) := by
      unfold goodAt mayB
      rw [decide_eq_true hi]
      cases x with
      | nil =>
        have h0 : isName [] = false := by
          cases h : isName [] with
          | false => rfl
          | true => exact absurd rfl (isName_ne h)
        rw [h0]
        simp
      | cons p q => cases isName (p :: q) <;> simp
    rw [goodL, goodL_locs t (i + 1) (by omega), h1]
    simp only [List.all_cons]
    cases mayB x <;> cases (x == ([] : List UInt8)) <;> cases t.all mayB <;> simp
theorem goodL_all (r lf nm rt f g : List UInt8) (ls : List (List UInt8)) : goodL 0 ([r, lf, nm, rt, f, g] ++ ls) = (!(nm == []) && (([r, lf, nm, rt, f, g] ++ ls).all mayB) && ls.all (fun x => !(x == []))) := by
  have h1 : ∀ (i : Nat) (x : List UInt8), ¬ i = 2 → ¬ 5 < i → goodAt i x = mayB x := by
    intro i x h2 h5
    unfold goodAt mayB
    rw [decide_eq_false h2, decide_eq_false h5]
    cases x with
    | nil => simp
    | cons p q => simp
  have h2 : goodAt 2 nm = (mayB nm && !(nm == [])) := by
    unfold goodAt mayB
    cases nm with
    | nil => rfl
    | cons p q => simp
  simp only [List.cons_append, List.nil_append, goodL, List.all_cons]
  rw [goodL_locs ls 6 (by omega), h1 0 r (by omega) (by omega), h1 1 lf (by omega) (by omega), h2, h1 3 rt (by omega) (by omega), h1 4 f (by omega) (by omega), h1 5 g (by omega) (by omega)]
  cases mayB r <;> cases mayB lf <;> cases mayB nm <;> cases mayB rt <;> cases mayB f <;> cases mayB g <;> cases (nm == ([] : List UInt8)) <;> simp
theorem ref_HRight (a b c d e f : ByteArray) (l : List ByteArray) (h : HSized a b c d e f l) :
    Ev (fun k => deckleref15_Right.f k a b c d e f l) (hdrOk a.data.toList b.data.toList c.data.toList d.data.toList e.data.toList f.data.toList (bys l)) := by
  have hlen := h.len
  have h6 : ([a, b, c, d, e, f] : List ByteArray).length + l.length < 8796093022208 := by simp; omega
  have hyl : ([a, b, c, d, e, f] ++ l).length = l.length + 6 := by simp
  have h1 := ref_HRight_l0 a b c d e f l ([a, b, c, d, e, f] ++ l) (by omega) (fun x hx => by have := h.mem hx; omega) _ 0 (Nat.le_add_left _ _)
  have hb : bys ([a, b, c, d, e, f] ++ l) = [a.data.toList, b.data.toList, c.data.toList, d.data.toList, e.data.toList, f.data.toList] ++ bys l := rfl
  rw [List.drop_zero, hb, goodL_all] at h1
  have h3 : (!(c.data.toList == []) && (([a.data.toList, b.data.toList, c.data.toList, d.data.toList, e.data.toList, f.data.toList] ++ bys l).all mayB) && (bys l).all (fun x => !(x == [])) && hdrTail b.data.toList d.data.toList e.data.toList f.data.toList ([a.data.toList, b.data.toList, c.data.toList, d.data.toList, e.data.toList, f.data.toList] ++ bys l)) = hdrOk a.data.toList b.data.toList c.data.toList d.data.toList e.data.toList f.data.toList (bys l) := by
    unfold hdrOk hdrTail
    simp only [Bool.and_assoc]
  rw [h3] at h1
  refine Ev.congr (fun k => ?_) h1
  unfold deckleref15_Right.f deckleref15_all.f
  simp only [Option.bind_some, if_pos h6]
  rfl
theorem sz32 : (⟨#[32]⟩ : ByteArray).size = 1 := rfl
theorem sz40 : (⟨#[40]⟩ : ByteArray).size = 1 := rfl
theorem sz41 : (⟨#[41]⟩ : ByteArray).size = 1 := rfl
theorem sz59 : (⟨#[59]⟩ : ByteArray).size = 1 := rfl
theorem sz226 : (⟨#[226, 134, 144]⟩ : ByteArray).size = 3 := rfl
theorem ref_HText_l0 (a b c d e f : ByteArray) (l : List ByteArray) (hl : l.length ≤ 4611686018427387904) (n : Nat) : ∀ (i : Nat) (x : ByteArray), l.length ≤ i + n → x.size + lsum (l.drop i) ≤ 4611686018427387904 →
    ∃ r : ByteArray, Ev (fun k => deckleref15_Text.l0 k x (i : Int) a b c d e f l) r ∧ r.data.toList = x.data.toList ++ (bys (l.drop i)).flatMap (fun s => 59 :: s) := by
  have stop : ∀ (i : Nat) (x : ByteArray), l.length ≤ i → ∃ r : ByteArray, Ev (fun k => deckleref15_Text.l0 k x (i : Int) a b c d e f l) r ∧ r.data.toList = x.data.toList ++ (bys (l.drop i)).flatMap (fun s => 59 :: s) := by
    intro i x hi
    refine ⟨x, Ev.step (f := fun _ => some x) (fun k => ?_) (Ev.now _), ?_⟩
    · rw [deckleref15_Text.l0, if_neg (by omega)]
    · rw [List.drop_eq_nil_of_le hi]; simp [bys]
  induction n with
  | zero => intro i x hi _; exact stop i x (by omega)
  | succ n ih =>
    intro i x hi hx
    by_cases hlt : i < l.length
    · have hd := drop_cons l i hlt
      have hs : lsum (l.drop i) = (l[i].size + 1) + lsum (l.drop (i + 1)) := by rw [hd]; simp only [lsum, List.map_cons, List.sum_cons]
      obtain ⟨r, h1, h2⟩ := ih (i + 1) ((x ++ ⟨#[59]⟩) ++ l[i]) (by omega) (by simp only [ByteArray.size_append, sz59]; omega)
      refine ⟨r, Ev.step (fun k => ?_) h1, ?_⟩
      · rw [deckleref15_Text.l0, if_pos (by omega), if_pos (by omega), if_pos (by omega), rdOf_at l i hlt, if_pos (by simp only [ByteArray.size_append, sz59]; omega), wrap_nat rfl (by omega)]
      · rw [h2, hd, append_data, append_data]
        simp only [List.append_assoc]
        rfl
    · exact stop i x (by omega)
theorem ref_HText (a b c d e f : ByteArray) (l : List ByteArray) (h : HSized a b c d e f l) :
    ∃ r : ByteArray, Ev (fun k => deckleref15_Text.f k a b c d e f l) r ∧ r.data.toList = (if hdrOk a.data.toList b.data.toList c.data.toList d.data.toList e.data.toList f.data.toList (bys l) = true then hdrText a.data.toList b.data.toList c.data.toList d.data.toList e.data.toList f.data.toList (bys l) else []) := by
  have hsum := h.sum
  have hlen := h.len
  have h3 : ∀ x : ByteArray, x.size + lsum l ≤ 4611686018427387904 → ∃ r : ByteArray, Ev (fun k => deckleref15_Text.j3 k x a b c d e f l) r ∧ r.data.toList = x.data.toList ++ (bys l).flatMap (fun s => 59 :: s) := by
    intro x hx
    obtain ⟨r, q1, q2⟩ := ref_HText_l0 a b c d e f l (by omega) l.length 0 x (by omega) (by rw [List.drop_zero]; exact hx)
    rw [List.drop_zero] at q2
    exact ⟨r, Ev.step (fun k => by rw [deckleref15_Text.j3]; rfl) q1, q2⟩
  have h2 : ∀ x : ByteArray, x.size + d.size + 1 + lsum l ≤ 4611686018427387904 → ∃ r : ByteArray, Ev (fun k => deckleref15_Text.j2 k x a b c d e f l) r ∧ r.data.toList = x.data.toList ++ ((if d.data.toList = [] then [] else 32 :: d.data.toList) ++ (bys l).flatMap (fun s => 59 :: s)) := by
    intro x hx
    by_cases hd : d.data.toList = []
    · obtain ⟨r, q1, q2⟩ := h3 x (by omega)
      exact ⟨r, Ev.step (fun k => by rw [deckleref15_Text.j2, ByteArray.toList_eq, if_pos hd]) q1, by rw [q2, if_pos hd, List.nil_append]⟩
    · obtain ⟨r, q1, q2⟩ := h3 ((x ++ ⟨#[32]⟩) ++ d) (by simp only [ByteArray.size_append, sz32]; omega)
      refine ⟨r, Ev.step (fun k => by rw [deckleref15_Text.j2, ByteArray.toList_eq, if_neg hd, if_pos (by omega), if_pos (by simp only [ByteArray.size_append, sz32]; omega)]) q1, ?_⟩
      rw [q2, if_neg hd]
      simp
  have h1 : ∀ x : ByteArray, x.size + c.size + e.size + f.size + d.size + 5 + lsum l ≤ 4611686018427387904 → ∃ r : ByteArray, Ev (fun k => deckleref15_Text.j1 k x a b c d e f l) r ∧ r.data.toList = x.data.toList ++ ((if e.data.toList = [] then c.data.toList else 40 :: e.data.toList ++ 32 :: c.data.toList ++ (if f.data.toList = [] then [] else 32 :: f.data.toList) ++ [41]) ++ ((if d.data.toList = [] then [] else 32 :: d.data.toList) ++ (bys l).flatMap (fun s => 59 :: s))) := by
    intro x hx
    by_cases he : e.data.toList = []
    · obtain ⟨r, q1, q2⟩ := h2 (x ++ c) (by simp only [ByteArray.size_append]; omega)
      refine ⟨r, Ev.step (fun k => by rw [deckleref15_Text.j1, ByteArray.toList_eq, if_pos he, if_pos (by omega)]) q1, ?_⟩
      rw [q2, if_pos he]
      simp
    · by_cases hf : f.data.toList = []
      · obtain ⟨r, q1, q2⟩ := h2 (((((x ++ ⟨#[40]⟩) ++ e) ++ ⟨#[32]⟩) ++ c) ++ ⟨#[41]⟩) (by simp only [ByteArray.size_append, sz32, sz40, sz41]; omega)
        refine ⟨r, Ev.step (fun k => ?_) q1, ?_⟩
        · rw [deckleref15_Text.j1, ByteArray.toList_eq, ByteArray.toList_eq, if_neg he, if_pos hf]
          repeat (rw [if_pos (by (try simp only [ByteArray.size_append, sz32, sz40, sz41]); omega)])
        · rw [q2, if_neg he, if_pos hf]
          simp
      · obtain ⟨r, q1, q2⟩ := h2 (((((((x ++ ⟨#[40]⟩) ++ e) ++ ⟨#[32]⟩) ++ c) ++ ⟨#[32]⟩) ++ f) ++ ⟨#[41]⟩) (by simp only [ByteArray.size_append, sz32, sz40, sz41]; omega)
        refine ⟨r, Ev.step (fun k => ?_) q1, ?_⟩
        · rw [deckleref15_Text.j1, ByteArray.toList_eq, ByteArray.toList_eq, if_neg he, if_neg hf]
          repeat (rw [if_pos (by (try simp only [ByteArray.size_append, sz32, sz40, sz41]); omega)])
        · rw [q2, if_neg he, if_neg hf]
          simp
  have h0 : ∀ x : ByteArray, x.size + b.size + c.size + e.size + f.size + d.size + 6 + lsum l ≤ 4611686018427387904 → ∃ r : ByteArray, Ev (fun k => deckleref15_Text.j0 k x a b c d e f l) r ∧ r.data.toList = x.data.toList ++ (putS b.data.toList [32] ++ ((if e.data.toList = [] then c.data.toList else 40 :: e.data.toList ++ 32 :: c.data.toList ++ (if f.data.toList = [] then [] else 32 :: f.data.toList) ++ [41]) ++ ((if d.data.toList = [] then [] else 32 :: d.data.toList) ++ (bys l).flatMap (fun s => 59 :: s)))) := by
    intro x hx
    unfold putS
    by_cases hb : b.data.toList = []
    · obtain ⟨r, q1, q2⟩ := h1 x (by omega)
      exact ⟨r, Ev.step (fun k => by rw [deckleref15_Text.j0, ByteArray.toList_eq, if_pos hb]) q1, by rw [q2, if_pos hb, List.nil_append]⟩
    · obtain ⟨r, q1, q2⟩ := h1 ((x ++ b) ++ ⟨#[32]⟩) (by simp only [ByteArray.size_append, sz32]; omega)
      refine ⟨r, Ev.step (fun k => by rw [deckleref15_Text.j0, ByteArray.toList_eq, if_neg hb, if_pos (by omega), if_pos (by simp only [ByteArray.size_append, sz32]; omega)]) q1, ?_⟩
      rw [q2, if_neg hb]
      simp
  obtain ⟨K, hK⟩ := ref_HRight a b c d e f l h
  cases hok : hdrOk a.data.toList b.data.toList c.data.toList d.data.toList e.data.toList f.data.toList (bys l) with
  | false =>
    rw [hok] at hK
    refine ⟨⟨#[]⟩, ⟨K, fun k hk => ?_⟩, by simp⟩
    have e1 : deckleref15_Right.f k a b c d e f l = some false := hK k hk
    show deckleref15_Text.f k _ _ _ _ _ _ _ = _
    unfold deckleref15_Text.f
    rw [e1]
    rfl
  | true =>
    rw [hok] at hK
    unfold hdrText putS
    rw [if_pos rfl]
    by_cases ha : a.data.toList = []
    · obtain ⟨r, ⟨K2, q1⟩, q2⟩ := h0 ⟨#[]⟩ (by have : (⟨#[]⟩ : ByteArray).size = 0 := rfl; omega)
      refine ⟨r, ⟨K + K2, fun k hk => ?_⟩, ?_⟩
      · have e1 : deckleref15_Right.f k a b c d e f l = some true := hK k (by omega)
        have e2 : deckleref15_Text.j0 k ⟨#[]⟩ a b c d e f l = some r := q1 k (by omega)
        show deckleref15_Text.f k _ _ _ _ _ _ _ = _
        unfold deckleref15_Text.f
        rw [e1, ByteArray.toList_eq]
        simp only [Option.bind_some, if_true, if_pos ha, e2]
      · rw [q2, if_pos ha]
        unfold putS
        simp
    · obtain ⟨r, ⟨K2, q1⟩, q2⟩ := h0 (a ++ ⟨#[226, 134, 144]⟩) (by simp only [ByteArray.size_append, sz226]; omega)
      refine ⟨r, ⟨K + K2, fun k hk => ?_⟩, ?_⟩
      · have e1 : deckleref15_Right.f k a b c d e f l = some true := hK k (by omega)
        have e2 : deckleref15_Text.j0 k (a ++ ⟨#[226, 134, 144]⟩) a b c d e f l = some r := q1 k (by omega)
        show deckleref15_Text.f k _ _ _ _ _ _ _ = _
        unfold deckleref15_Text.f
        rw [e1, ByteArray.toList_eq]
        simp only [Option.bind_some, if_true, if_neg ha]
        rw [if_pos (by omega)]
        exact e2
      · rw [q2, if_neg ha]
        unfold putS
        simp
end Go.Proofs.YtmddkjmcbddhiaaDoor.P
end
