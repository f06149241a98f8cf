/-
  Plain: which headers are right, and their texts; what the program's header.Right comes to. No memory in sight.
-/
import Derived.Test.YtmddkjmcbddhiaaDoorP24M
import Derived.Test.YtmddkjmcbddhiaaDoorRw8M
namespace Go.Proofs.YtmddkjmcbddhiaaDoor.P
open Go.RowKit Go.Proofs.YtmddkjmcbddhiaaDoorW.PrintWords Go.Proofs.YtmddkjmcbddhiaaDoor.Sp
set_option linter.unusedVariables false
set_option linter.unusedSimpArgs false

/-- Is a header right? -/
def hdrOk (r lf nm rt f g : List UInt8) (ls : List (List UInt8)) : Bool :=
  !(nm == []) && (([r, lf, nm, rt, f, g] ++ ls).all mayB) && ls.all (fun x => !(x == [])) && !(rt == [] && !(lf ++ f == [])) && !(f == [] && !(g == [])) && unl ([r, lf, nm, rt, f, g] ++ ls)
def putS (s t : List UInt8) : List UInt8 := if s = [] then [] else s ++ t
/-- A header's text. -/
def hdrText (r lf nm rt f g : List UInt8) (ls : List (List UInt8)) : List UInt8 :=
  putS r [226, 134, 144] ++ putS lf [32] ++ (if f = [] then nm else 40 :: f ++ 32 :: nm ++ (if g = [] then [] else 32 :: g) ++ [41]) ++ (if rt = [] then [] else 32 :: rt) ++ ls.flatMap (fun s => 59 :: s)
/-- The bytes of all the locals, and one more each. -/
def lsum (l : List ByteArray) : Nat := (l.map fun s => s.size + 1).sum
theorem lsum_mem {l : List ByteArray} {s : ByteArray} (h : s ∈ l) : s.size + 1 ≤ lsum l := by
  induction l with
  | nil => cases h
  | cons a t ih =>
    simp only [lsum, List.map_cons, List.sum_cons] at ih ⊢
    rcases List.mem_cons.1 h with rfl | h
    · omega
    · have := ih h
      omega
theorem lsum_length (l : List ByteArray) : l.length ≤ lsum l := by
  induction l with
  | nil => exact Nat.le_refl _
  | cons a t ih => simp only [lsum, List.map_cons, List.sum_cons, List.length_cons] at ih ⊢; omega

theorem index_ev (l : List ByteArray) (x : ByteArray) (hl : l.length ≤ 4611686018427387904) (d : Nat) : ∀ i : Nat, l.length ≤ i + d →
    ∃ j, Ev (fun k => slices_Index_string_string.l0 k l x (l.length : Int) (i : Int)) j ∧ (decide (j ≥ 0) = decide (x.data.toList ∈ bys (l.drop i))) := by
  have hend : ∀ i : Nat, ¬ i < l.length → ∃ j, Ev (fun k => slices_Index_string_string.l0 k l x (l.length : Int) (i : Int)) j ∧ (decide (j ≥ 0) = decide (x.data.toList ∈ bys (l.drop i))) := by
    intro i hi
    refine ⟨-1, Ev.step (f := fun _ => some _) (fun k => ?_) (Ev.now _), ?_⟩
    · rw [slices_Index_string_string.l0, if_neg (by omega)]
    · rw [List.drop_eq_nil_of_le (by omega)]; rfl
  induction d with
  | zero => intro i hi; exact hend i (by omega)
  | succ d ih =>
    intro i hi
    by_cases hlt : i < l.length
    · have hd := drop_cons l i hlt
      by_cases he : x.data.toList = l[i].data.toList
      · refine ⟨i, Ev.step (f := fun _ => some _) (fun k => ?_) (Ev.now _), ?_⟩
        · rw [slices_Index_string_string.l0, if_pos (by omega), if_pos (by omega), if_pos (by omega), rdOf_at l i hlt, ByteArray.toList_eq, ByteArray.toList_eq, if_pos he]
        · rw [decide_eq_true (by omega), hd]
          symm
          exact decide_eq_true (List.mem_cons.2 (.inl he))
      · obtain ⟨j, h1, h2⟩ := ih (i + 1) (by omega)
        refine ⟨j, Ev.step (fun k => ?_) h1, ?_⟩
        · rw [slices_Index_string_string.l0, if_pos (by omega), if_pos (by omega), if_pos (by omega), rdOf_at l i hlt, ByteArray.toList_eq, ByteArray.toList_eq, if_neg he, wrap_nat rfl (by omega)]
        · rw [h2, hd]
          refine decide_eq_decide.2 ⟨fun h => List.mem_cons.2 (.inr h), fun h => ?_⟩
          rcases List.mem_cons.1 h with h | h
          · exact absurd h he
          · exact h
    · exact hend i hlt
theorem contains_ev (l : List ByteArray) (x : ByteArray) (hl : l.length ≤ 4611686018427387904) : Ev (fun k => slices_Contains_string_string.f k l x) (decide (x.data.toList ∈ bys l)) := by
  obtain ⟨j, h1, h2⟩ := index_ev l x hl l.length 0 (by omega)
  obtain ⟨K, hK⟩ := h1
  refine ⟨K, fun k hk => ?_⟩
  show slices_Contains_string_string.f k l x = _
  unfold slices_Contains_string_string.f slices_Index_string_string.f
  have h3 := hK k hk
  simp only at h3
  rw [show ((0 : Int) = ((0 : Nat) : Int)) from rfl, h3]
  simp only [Option.bind_some]
  rw [List.drop_zero] at h2
  rw [← h2]
  rfl

/-- What the sizes of a header's texts are bound by. -/
structure HSized (a b c d e f : ByteArray) (l : List ByteArray) : Prop where
  sum : a.size + b.size + c.size + d.size + e.size + f.size + lsum l + 20 ≤ 140737488355328
  len : l.length + 6 < 8796093022208

theorem HSized.mem {a b c d e f : ByteArray} {l : List ByteArray} (h : HSized a b c d e f l) {s : ByteArray} (hs : s ∈ [a, b, c, d, e, f] ++ l) : s.size ≤ 140737488355328 := by
  have h1 := h.sum
  rcases List.mem_append.1 hs with h2 | h2
  · simp only [List.mem_cons, List.not_mem_nil, or_false] at h2
    rcases h2 with rfl | rfl | rfl | rfl | rfl | rfl <;> omega
  · have := lsum_mem h2
    omega

theorem hdr_any (l : List ByteArray) : ((bys l).any fun x => !mayB x) = !((bys l).all mayB) := by
  induction bys l with
  | nil => rfl
  | cons a t ih => simp only [List.any_cons, List.all_cons, ih, Bool.not_and]

theorem header_Right_ev (a b c d e f : ByteArray) (l : List ByteArray) (h : HSized a b c d e f l) :
    Ev (fun k => header_Right.f k a b c d e f l) (hdrOk a.data.toList b.data.toList c.data.toList d.data.toList e.data.toList f.data.toList (bys l)) := by
  have hlen := h.len
  have hsum := h.sum
  obtain ⟨y, hy⟩ : ∃ y, y = [a, b, c, d, e, f] ++ l := ⟨_, rfl⟩
  have hyb : bys y = [a.data.toList, b.data.toList, c.data.toList, d.data.toList, e.data.toList, f.data.toList] ++ bys l := by rw [hy]; rfl
  have hyl : y.length = l.length + 6 := by rw [hy]; simp
  have hunl : name_Unlike.f y = some (unl (bys y)) := by
    unfold name_Unlike.f
    have ha : y.all (fun s => decide (s.size ≤ maxLen)) = true := by
      rw [List.all_eq_true]
      intro x hx
      rw [hy] at hx
      have := h.mem hx
      exact decide_eq_true (by unfold maxLen; omega)
    rw [if_pos ⟨by omega, ha⟩]
  have hcon : slices_ContainsFunc_string_string.f y (Value.func (.func 68) #[] #[]) = some (!((bys y).all mayB)) := by
    unfold slices_ContainsFunc_string_string.f
    have ha : y.all (fun s => decide (s.size ≤ 4611686018427387904)) = true := by
      rw [List.all_eq_true]
      intro x hx
      rw [hy] at hx
      have := h.mem hx
      exact decide_eq_true (by omega)
    simp only
    rw [if_pos ⟨by omega, ha⟩]
    first | rw [if_pos trivial, hdr_any] | rw [if_pos rfl, hdr_any] | (simp only [if_true]; rw [hdr_any])
  -- the second test, and what follows
  have hj1 : ∀ b1 : Bool, Ev (fun k => header_Right.j1 k y b1 a b c d e f l) (!b1 && (!(e.data.toList == [] && !(f.data.toList == [])) && unl (bys y))) := by
    intro b1
    refine Ev.step (f := fun _ => some _) (fun k => ?_) (Ev.now _)
    rw [header_Right.j1]
    cases b1 with
    | true => rw [if_pos rfl]; rfl
    | false =>
      rw [if_neg (by simp), hunl, ByteArray.toList_eq, ByteArray.toList_eq]
      simp only [Option.bind_some]
      by_cases he : e.data.toList = []
      · rw [if_pos he]
        by_cases hf : f.data.toList = []
        · rw [if_pos hf, he, hf]; simp
        · rw [if_neg hf, he]
          have : (f.data.toList == []) = false := by simpa using hf
          simp [this]
      · have : (e.data.toList == []) = false := by simpa using he
        rw [if_neg he]
        simp [this]
  have hj0 : ∀ b0 : Bool, Ev (fun k => header_Right.j0 k y b0 a b c d e f l) (!b0 && (!(d.data.toList == [] && !(b.data.toList ++ e.data.toList == [])) && (!(e.data.toList == [] && !(f.data.toList == [])) && unl (bys y)))) := by
    intro b0
    cases b0 with
    | true =>
      refine Ev.step (f := fun _ => some _) (fun k => ?_) (Ev.now _)
      rw [header_Right.j0, if_pos rfl]
      rfl
    | false =>
      by_cases hd : d.data.toList = []
      · have h1 := hj1 ((b ++ e).toList != [])
        refine Ev.step (fun k => ?_) (by
          have e1 : (!((b ++ e).toList != [])) = !(d.data.toList == [] && !(b.data.toList ++ e.data.toList == [])) := by
            rw [ByteArray.toList_eq, append_data, hd]
            simp [bne]
          rw [e1] at h1
          simpa using h1)
        rw [header_Right.j0, if_neg (by simp), ByteArray.toList_eq, if_pos hd, if_pos (by omega)]
      · have h1 := hj1 false
        have e1 : (d.data.toList == []) = false := by simpa using hd
        refine Ev.step (fun k => ?_) (by
          rw [e1]
          simpa using h1)
        rw [header_Right.j0, if_neg (by simp), ByteArray.toList_eq, if_neg hd]
  have hmem : decide ((⟨#[]⟩ : ByteArray).data.toList ∈ bys l) = !((bys l).all fun x => !(x == [])) := by
    rw [show (⟨#[]⟩ : ByteArray).data.toList = ([] : List UInt8) from rfl]
    generalize bys l = m
    induction m with
    | nil => rfl
    | cons x t ih =>
      simp only [List.mem_cons, List.all_cons, Bool.not_and, Bool.not_not, ← ih, Bool.decide_or]
      congr 1
      cases x <;> simp
  have hok : hdrOk a.data.toList b.data.toList c.data.toList d.data.toList e.data.toList f.data.toList (bys l) =
      (!(c.data.toList == []) && ((bys y).all mayB && ((bys l).all (fun x => !(x == [])) && (!(d.data.toList == [] && !(b.data.toList ++ e.data.toList == [])) && (!(e.data.toList == [] && !(f.data.toList == [])) && unl (bys y)))))) := by
    unfold hdrOk
    rw [hyb]
    simp only [Bool.and_assoc]
  rw [hok]
  have hf : ∀ k, header_Right.f k a b c d e f l = if c.toList = [] then header_Right.j0 k y true a b c d e f l else ((slices_ContainsFunc_string_string.f y (Value.func (.func 68) #[] #[])).bind fun t => if t = true then header_Right.j0 k y true a b c d e f l else (slices_Contains_string_string.f k l (⟨#[]⟩ : ByteArray)).bind fun t2 => header_Right.j0 k y t2 a b c d e f l) := by
    intro k
    unfold header_Right.f
    simp only [Option.bind_some, List.length_cons, List.length_nil]
    rw [if_pos (by omega), ← hy]
  by_cases hc : c.data.toList = []
  · refine Ev.congr (fun k => (hf k).trans (if_pos (by rw [ByteArray.toList_eq]; exact hc))) ?_
    have h1 := hj0 true
    rw [hc]
    simpa using h1
  · have hc' : (c.data.toList == []) = false := by simpa using hc
    refine Ev.congr (fun k => (hf k).trans (if_neg (by rw [ByteArray.toList_eq]; exact hc))) ?_
    rw [hcon, hc']
    simp only [Option.bind_some, Bool.not_false, Bool.true_and]
    cases hm : (bys y).all mayB with
    | false =>
      have h1 := hj0 true
      simpa using h1
    | true =>
      obtain ⟨K1, h1⟩ := contains_ev l (⟨#[]⟩ : ByteArray) (by omega)
      rw [hmem] at h1
      obtain ⟨K2, h2⟩ := hj0 (!((bys l).all fun x => !(x == [])))
      refine ⟨K1 + K2, fun k hk => ?_⟩
      have e1 := h1 k (by omega)
      have e2 := h2 k (by omega)
      simp only at e1 e2
      simp only [Bool.not_true, Bool.false_eq_true, if_false, e1, Option.bind_some, e2, Bool.not_not, Bool.true_and]
end Go.Proofs.YtmddkjmcbddhiaaDoor.P
