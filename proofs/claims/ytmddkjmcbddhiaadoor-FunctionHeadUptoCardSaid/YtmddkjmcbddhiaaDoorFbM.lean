/-
  Plain: lines of functions: their labels, which are right, their names. No memory in sight.
  Plain: two rows of texts, and which texts are unlike when rows are joined. No memory in sight.
-/
import Derived.Test.YtmddkjmcbddhiaaDoorP27M
import Derived.Test.YtmddkjmcbddhiaaDoorGTakeM
import Derived.Test.YtmddkjmcbddhiaaDoorP30M
import Derived.Test.YtmddkjmcbddhiaaDoorPcM
import Derived.Test.YtmddkjmcbddhiaaDoorRw8M
import Derived.Test.YtmddkjmcbddhiaaDoorP20M
section
namespace Go.Proofs.YtmddkjmcbddhiaaDoor.P
open Go.RowKit Go.Proofs.YtmddkjmcbddhiaaDoorW.PrintWords Go.Proofs.YtmddkjmcbddhiaaDoor.Sp
set_option linter.unusedVariables false
set_option linter.unusedSimpArgs false

theorem hasPrefix_f (s p : ByteArray) : strings_HasPrefix.f s p = some (decide (p.data.toList <+: s.data.toList)) := by
  unfold strings_HasPrefix.f stringslite_HasPrefix.f
  have h1 := length_data s
  have h2 := length_data p
  by_cases hl : (s.size : Int) ≥ (p.size : Int)
  · rw [if_pos hl, if_pos (by omega), if_pos (by omega)]
    simp only [Int.toNat_natCast, ext_take, Option.bind_some]
    by_cases hp : p.data.toList <+: s.data.toList
    · have he : s.data.toList.take p.size = p.data.toList := by rw [← h2]; exact (List.prefix_iff_eq_take.1 hp).symm
      rw [he, ByteArray.toList_eq, beq_self_eq_true, decide_eq_true hp]
    · have he : ¬ s.data.toList.take p.size = p.data.toList := by
        intro he
        exact hp (List.prefix_iff_eq_take.2 (by rw [h2]; exact he.symm))
      rw [ByteArray.toList_eq, decide_eq_false hp, beq_eq_false_iff_ne.2 he]
  · rw [if_neg hl]
    simp only [Option.bind_some]
    have hp : ¬ p.data.toList <+: s.data.toList := by
      intro hp
      have := hp.length_le
      omega
    rw [decide_eq_false hp]
/-- The label of a line. -/
def labelOf (s : ByteArray) : Option ByteArray := if (wordA s).data.toList ≠ [] ∧ [58] <+: (wordB s).data.toList then some (wordA s) else none
/-- The labels of lines. -/
def labs (l : List ByteArray) : List ByteArray := l.tail.filterMap labelOf
theorem wrap_nat2 {n m : Nat} (h : m = n + 1) (hm : m ≤ 9223372036854775807) : wrap64 ((n : Int) + 1) = (m : Int) := wrap_nat h hm
theorem labels_loop (l : List ByteArray) (hl : l.length ≤ 1099511627776) (n : Nat) : ∀ (i : Nat) (acc : List ByteArray), 1 ≤ i → l.length ≤ i + n → acc.length ≤ i →
    Ev (fun k => function_Labels.l0 k acc l (l.length : Int) (i : Int)) (acc ++ (l.drop i).filterMap labelOf) := by
  have stop : ∀ (i : Nat) (acc : List ByteArray), l.length ≤ i → Ev (fun k => function_Labels.l0 k acc l (l.length : Int) (i : Int)) (acc ++ (l.drop i).filterMap labelOf) := by
    intro i acc hi
    rw [List.drop_eq_nil_of_le hi, List.filterMap_nil, List.append_nil]
    exact Ev.step (f := fun _ => some acc) (fun k => by rw [function_Labels.l0, if_neg (by omega)]) (Ev.now _)
  induction n with
  | zero => intro i acc _ hi _; exact stop i acc (by omega)
  | succ n ih =>
    intro i acc h1 hi ha
    by_cases hlt : i < l.length
    · have hd := drop_cons l i hlt
      have hf : (l.drop i).filterMap labelOf = (match labelOf l[i] with | some x => [x] | none => []) ++ (l.drop (i + 1)).filterMap labelOf := by
        rw [hd, List.filterMap_cons]
        cases labelOf l[i] <;> rfl
      rw [hf]
      have hst : ∀ k, function_Labels.l0 (k + 1) acc l (l.length : Int) (i : Int) = (if (wordA l[i]).toList = ([] : List UInt8) then (function_Labels.l0 k acc l (l.length : Int) (wrap64 ((i : Int) + 1))) else ((strings_HasPrefix.f (wordB l[i]) (⟨#[58]⟩ : ByteArray)).bind fun t257 => (if t257 = true then (if acc.length < 8796093022208 then (function_Labels.l0 k (acc ++ [wordA l[i]]) l (l.length : Int) (wrap64 ((i : Int) + 1))) else (none)) else (function_Labels.l0 k acc l (l.length : Int) (wrap64 ((i : Int) + 1)))))) := fun k => by
        rw [function_Labels.l0, if_pos (by omega), if_pos (by omega), if_pos (by omega), rdOf_at l i hlt, name_Take_f]
        simp only [Option.bind_some]
        rw [if_pos (by omega)]
        rfl
      by_cases hz : (wordA l[i]).data.toList = []
      · have he : labelOf l[i] = none := by unfold labelOf; rw [if_neg (fun h => h.1 hz)]
        rw [he]
        refine Ev.step (fun k => ?_) (ih (i + 1) acc (by omega) (by omega) (by omega))
        rw [hst, ByteArray.toList_eq, if_pos hz, wrap_nat rfl (by omega)]
      · by_cases hp : [58] <+: (wordB l[i]).data.toList
        · have he : labelOf l[i] = some (wordA l[i]) := by unfold labelOf; rw [if_pos ⟨hz, hp⟩]
          rw [he, ← List.append_assoc]
          refine Ev.step (fun k => ?_) (ih (i + 1) (acc ++ [wordA l[i]]) (by omega) (by omega) (by rw [List.length_append]; simp; omega))
          rw [hst, ByteArray.toList_eq, if_neg hz, hasPrefix_f, decide_eq_true hp, wrap_nat rfl (by omega)]
          simp only [Option.bind_some, if_true]
          rw [if_pos (by omega)]
        · have he : labelOf l[i] = none := by unfold labelOf; rw [if_neg (fun h => hp h.2)]
          rw [he]
          refine Ev.step (fun k => ?_) (ih (i + 1) acc (by omega) (by omega) (by omega))
          rw [hst, ByteArray.toList_eq, if_neg hz, hasPrefix_f, decide_eq_false hp, wrap_nat rfl (by omega)]
          simp only [Option.bind_some, Bool.false_eq_true, if_false]
    · exact stop i acc (by omega)
theorem labels_ev (l : List ByteArray) (hl : l.length ≤ 1099511627776) : Ev (fun k => function_Labels.f k l) (labs l) := by
  cases l with
  | nil => exact Ev.step (g := fun k => function_Labels.f k []) (f := fun _ => some []) (fun k => by unfold function_Labels.f; rw [function_Labels.l0, if_neg (by simp)]) (Ev.now _)
  | cons x t =>
    have h := labels_loop (x :: t) hl t.length 1 [] (Nat.le_refl _) (by rw [List.length_cons]; omega) (Nat.zero_le _)
    have e : labs (x :: t) = ([] : List ByteArray) ++ ((x :: t).drop 1).filterMap labelOf := rfl
    rw [e]
    refine Ev.step (fun k => ?_) h
    unfold function_Labels.f
    have w1 : wrap64 (0 + 1) = ((1 : Nat) : Int) := by unfold wrap64; omega
    have hpos : (0 : Int) < ((x :: t).length : Int) := by rw [List.length_cons]; omega
    rw [function_Labels.l0, if_pos hpos, if_pos (by omega), if_pos hpos, name_Take_f]
    simp only [Option.bind_some]
    rw [if_neg (by omega), w1]
theorem labs_length (l : List ByteArray) : (labs l).length ≤ l.length := by
  unfold labs
  have h1 := List.length_filterMap_le labelOf l.tail
  have h2 := List.length_tail (l := l)
  omega
theorem labs_size {l : List ByteArray} {n : Nat} (h : ∀ x ∈ l, x.size ≤ n) : ∀ x ∈ labs l, x.size ≤ n := by
  intro x hx
  unfold labs at hx
  obtain ⟨y, hy, he⟩ := List.mem_filterMap.1 hx
  unfold labelOf at he
  split at he
  · obtain rfl := Option.some.inj he
    exact Nat.le_trans (wordA_size y) (h y (List.mem_of_mem_tail hy))
  · cases he
/-- The names of a header's. -/
def Raw.names (R : Raw) : List (List UInt8) := [R.a.data.toList, R.b.data.toList, R.c.data.toList, R.d.data.toList, R.e.data.toList, R.f.data.toList] ++ bys R.ls
/-- Are lines a function's? -/
def headOf (l : List ByteArray) : ByteArray := l.headD nilS
def rightF (l : List ByteArray) : Bool :=
  decide (1 ≤ l.length ∧ l.length ≤ 1000) && (l.all lineB && (reads (headOf l) && ((bys (labs l)).all isName && unl ((st0 (headOf l)).names ++ bys (labs l)))))
theorem right_loop (R : Raw) (lab : List ByteArray) (hl : lab.length ≤ 1000) (hrl : R.ls.length ≤ 1099511627776) (hz : HSized R.a R.b R.c R.d R.e R.f R.ls) (hs : ∀ x ∈ lab, x.size ≤ 1099511627776) (n : Nat) : ∀ i : Nat, lab.length ≤ i + n →
    Ev (fun k => function_Right.l0 k lab lab (lab.length : Int) (i : Int) R.a R.b R.c R.d R.e R.f R.ls) ((bys (lab.drop i)).all isName && unl (R.names ++ bys lab)) := by
  have hlen := hz.len
  have hstop : ∀ i : Nat, lab.length ≤ i → Ev (fun k => function_Right.l0 k lab lab (lab.length : Int) (i : Int) R.a R.b R.c R.d R.e R.f R.ls) ((bys (lab.drop i)).all isName && unl (R.names ++ bys lab)) := by
    intro i hi
    rw [List.drop_eq_nil_of_le hi]
    refine Ev.step (f := fun _ => some (unl (R.names ++ bys lab))) (fun k => ?_) (Ev.now _)
    have hun : name_Unlike.f (([R.a, R.b, R.c, R.d, R.e, R.f] ++ R.ls) ++ lab) = some (unl (R.names ++ bys lab)) := by
      unfold name_Unlike.f
      have ha : (([R.a, R.b, R.c, R.d, R.e, R.f] ++ R.ls) ++ lab).all (fun s => decide (s.size ≤ maxLen)) = true := by
        rw [List.all_eq_true]
        intro x hx
        rcases List.mem_append.1 hx with h1 | h1
        · have := hz.mem h1
          exact decide_eq_true (by unfold maxLen; omega)
        · have := hs x h1
          exact decide_eq_true (by unfold maxLen; omega)
      rw [if_pos ⟨by simp only [List.length_append, List.length_cons, List.length_nil]; omega, ha⟩]
      congr 2
      unfold Raw.names bys
      simp
    rw [function_Right.l0, if_neg (by omega)]
    simp only [Option.bind_some, List.length_cons, List.length_nil]
    rw [if_pos (by omega), if_pos (by simp only [List.length_append, List.length_cons, List.length_nil]; omega), hun]
    rfl
  induction n with
  | zero => intro i hi; exact hstop i (by omega)
  | succ n ih =>
    intro i hi
    by_cases hlt : i < lab.length
    · have hd := drop_cons lab i hlt
      have hsz := hs _ (List.getElem_mem hlt)
      have hb : (bys (lab.drop i)).all isName = (isName lab[i].data.toList && (bys (lab.drop (i + 1))).all isName) := by rw [hd]; rfl
      rw [hb]
      cases hn : isName lab[i].data.toList with
      | true =>
        refine Ev.step (fun k => ?_) (ih (i + 1) (by omega))
        rw [function_Right.l0, if_pos (by omega), if_pos (by omega), if_pos (by omega), rdOf_at lab i hlt, name_Right_f _ (by omega), hn, wrap_nat rfl (by omega)]
        rfl
      | false =>
        refine Ev.step (f := fun _ => some false) (fun k => ?_) (Ev.now _)
        rw [function_Right.l0, if_pos (by omega), if_pos (by omega), if_pos (by omega), rdOf_at lab i hlt, name_Right_f _ (by omega), hn]
        rfl
    · exact hstop i (by omega)
theorem headOf_at (l : List ByteArray) (h : 0 < l.length) : rdOf ByteArray.empty l 0 = headOf l := by
  have h1 := rdOf_at l 0 h
  have e : ((0 : Nat) : Int) = 0 := rfl
  rw [e] at h1
  rw [h1]
  cases l with
  | nil => simp at h
  | cons x t => rfl
theorem right_ev (l : List ByteArray) (hl : l.length ≤ 1099511627776) (hs : ∀ x ∈ l, x.size ≤ 1099511627776) : Ev (fun k => function_Right.f k l) (rightF l) := by
  have hno : Ev (fun k => function_Right.j0 k l true) false := Ev.step (f := fun _ => some false) (fun k => by rw [function_Right.j0, if_pos rfl]) (Ev.now _)
  unfold rightF
  by_cases h1 : 1 ≤ l.length
  · by_cases h2 : l.length ≤ 1000
    · rw [decide_eq_true ⟨h1, h2⟩, Bool.true_and]
      have hcon : slices_ContainsFunc_string_string.f l (Value.func (.func 57) #[] #[]) = some (!(l.all lineB)) := by
        have ha : l.all (fun s => decide (s.size ≤ 4611686018427387904)) = true := by
          rw [List.all_eq_true]
          intro x hx
          have := hs x hx
          exact decide_eq_true (by omega)
        unfold slices_ContainsFunc_string_string.f
        simp only
        rw [if_pos ⟨by omega, ha⟩]
        have hne : ¬ (57 : Nat) = 68 := by decide
        rw [if_neg hne]
        rw [List.not_all_eq_any_not]
        simp only [if_true]
      have hf : ∀ k, function_Right.f k l = function_Right.j0 k l (!(l.all lineB)) := fun k => by
        unfold function_Right.f
        rw [if_neg (by omega), if_neg (by omega), hcon]
        rfl
      refine Ev.congr hf ?_
      cases l.all lineB with
      | false => exact hno
      | true =>
        have hh : (headOf l).size ≤ 1099511627776 := by
          cases l with
          | nil => simp at h1
          | cons x t => exact hs x (List.mem_cons_self ..)
        have hp := header_Parse_f (headOf l) hh
        cases hr : reads (headOf l) with
        | false =>
          refine Ev.step (f := fun _ => some false) (fun k => ?_) (Ev.now _)
          rw [function_Right.j0, if_neg (by simp), if_pos (by omega), headOf_at l (by omega), hp, hr]
          rfl
        | true =>
          have hz := (st0_size (headOf l)).sized hh
          obtain ⟨K1, hK1⟩ := labels_ev l hl
          have hll := labs_length l
          obtain ⟨K2, hK2⟩ := right_loop (st0 (headOf l)) (labs l) (by omega) (Nat.le_trans (lsum_length _) (Nat.le_trans (st0_size (headOf l)).ls hh)) hz (labs_size hs) _ 0 (Nat.le_add_left _ _)
          refine ⟨K1 + K2 + 1, fun k hk => ?_⟩
          obtain ⟨m, rfl⟩ : ∃ m, k = m + 1 := ⟨k - 1, by omega⟩
          have e1 : function_Labels.f m l = some (labs l) := hK1 m (by omega)
          have e2 := hK2 m (by omega)
          simp only [List.drop_zero] at e2
          show function_Right.j0 (m + 1) _ _ = _
          rw [function_Right.j0, if_neg (by simp), if_pos (by omega), headOf_at l (by omega), hp, hr]
          simp only [Option.bind_some, if_true, e1]
          exact e2
    · rw [decide_eq_false (fun h => h2 h.2), Bool.false_and]
      refine Ev.congr (fun k => ?_) hno
      unfold function_Right.f
      rw [if_neg (by omega), if_pos (by omega)]
  · rw [decide_eq_false (fun h => h1 h.1), Bool.false_and]
    refine Ev.congr (fun k => ?_) hno
    unfold function_Right.f
    rw [if_pos (by omega)]
/-- A function's name. -/
def nameF (l : List ByteArray) : ByteArray := if rightF l = true then (st0 (headOf l)).c else ⟨#[]⟩
theorem rightF_pos {l : List ByteArray} (h : rightF l = true) : 1 ≤ l.length ∧ l.length ≤ 1000 ∧ l.all lineB = true ∧ reads (headOf l) = true ∧ (bys (labs l)).all isName = true ∧ unl ((st0 (headOf l)).names ++ bys (labs l)) = true := by
  unfold rightF at h
  simp only [Bool.and_eq_true, decide_eq_true_eq] at h
  obtain ⟨⟨h1, h2⟩, h3, h4, h5, h6⟩ := h
  exact ⟨h1, h2, h3, h4, h5, h6⟩
theorem name_ev (l : List ByteArray) (hl : l.length ≤ 1099511627776) (hs : ∀ x ∈ l, x.size ≤ 1099511627776) : Ev (fun k => function_Name.f k l) (nameF l) := by
  obtain ⟨K, hK⟩ := right_ev l hl hs
  refine ⟨K, fun k hk => ?_⟩
  have e1 : function_Right.f k l = some (rightF l) := hK k hk
  show function_Name.f k l = _
  unfold function_Name.f nameF
  rw [e1]
  cases hr : rightF l with
  | false => rfl
  | true =>
    obtain ⟨h1, _, _, h4, _⟩ := rightF_pos hr
    have hh : (headOf l).size ≤ 1099511627776 := by
      cases l with
      | nil => simp at h1
      | cons x t => exact hs x (List.mem_cons_self ..)
    simp only [Option.bind_some, if_true]
    rw [if_pos (by omega), headOf_at l (by omega), header_Parse_f _ hh, h4]
    simp only [if_true, Option.bind_some]
theorem fewF_loop (l : List ByteArray) (hl : l.length ≤ 4611686018427387904) (n : Nat) : ∀ (i : Nat) (c : Int), l.length ≤ i + n →
    ∃ r, Ev (fun k => decklelaw16_Few.l0 k l c (i : Int)) r ∧ (r = true → l.length ≤ 50 ∧ ∀ j x, i ≤ j → j < 100 → l[j]? = some x → x.size ≤ 200) := by
  have stop : ∀ (i : Nat) (c : Int), ¬ i < l.length ∨ ¬ i < 100 → ∃ r, Ev (fun k => decklelaw16_Few.l0 k l c (i : Int)) r ∧ (r = true → l.length ≤ 50 ∧ ∀ j x, i ≤ j → j < 100 → l[j]? = some x → x.size ≤ 200) := by
    intro i c hi
    have hj : ∃ r, (∀ k, decklelaw16_Few.j1 (k + 1) l c (i : Int) false = some r) ∧ (r = true → l.length ≤ 50) := by
      simp only [decklelaw16_Few.j1, Bool.false_eq_true, if_false]
      split
      · exact ⟨_, fun _ => rfl, fun _ => by omega⟩
      · exact ⟨false, fun _ => rfl, fun h => by cases h⟩
    obtain ⟨r, h1, h2⟩ := hj
    refine ⟨r, ⟨2, fun k hk => ?_⟩, fun hr => ⟨h2 hr, fun j x hj h100 hx => ?_⟩⟩
    · obtain ⟨m, rfl⟩ : ∃ m, k = m + 2 := ⟨k - 2, by omega⟩
      show decklelaw16_Few.l0 (m + 1 + 1) _ _ _ = _
      rw [decklelaw16_Few.l0]
      split
      · rw [decide_eq_false (by omega)]; exact h1 m
      · exact h1 m
    · obtain ⟨hlt, _⟩ := List.getElem?_eq_some_iff.1 hx
      rcases hi with hi | hi <;> omega
  induction n with
  | zero => intro i c hi; exact stop i c (.inl (by omega))
  | succ n ih =>
    intro i c hi
    by_cases h1 : i < l.length
    · by_cases h2 : i < 100
      · by_cases h3 : l[i].size ≤ 200
        · obtain ⟨r, hr, hq⟩ := ih (i + 1) (wrap64 (c + (l[i].size : Int))) (by omega)
          refine ⟨r, Ev.step (fun k => ?_) (Ev.step (g := fun k => decklelaw16_Few.j1 k l c (i : Int) true) (fun k => ?_) hr), fun h => ⟨(hq h).1, fun j x hj h100 hx => ?_⟩⟩
          · rw [decklelaw16_Few.l0, if_pos (by omega), decide_eq_true (by omega)]
          · rw [decklelaw16_Few.j1, if_pos rfl, if_pos (by omega), if_pos (by omega), rdOf_at l i h1, if_neg (by omega), wrap_nat rfl (by omega)]
          · by_cases e : j = i
            · subst e
              rw [List.getElem?_eq_getElem h1] at hx
              exact Option.some.inj hx ▸ h3
            · exact (hq h).2 j x (by omega) h100 hx
        · refine ⟨false, Ev.step (fun k => ?_) (Ev.step (f := fun _ => some false) (g := fun k => decklelaw16_Few.j1 k l c (i : Int) true) (fun k => ?_) (Ev.now _)), fun h => by cases h⟩
          · rw [decklelaw16_Few.l0, if_pos (by omega), decide_eq_true (by omega)]
          · rw [decklelaw16_Few.j1, if_pos rfl, if_pos (by omega), if_pos (by omega), rdOf_at l i h1, if_pos (by omega)]
      · exact stop i c (.inr h2)
    · exact stop i c (.inl h1)
theorem fewF_ev (l : List ByteArray) (hl : l.length ≤ 4611686018427387904) : ∃ r, Ev (fun k => decklelaw16_Few.f k l) r ∧ (r = true → l.length ≤ 50 ∧ ∀ x ∈ l, x.size ≤ 200) := by
  obtain ⟨r, h1, h2⟩ := fewF_loop l hl l.length 0 0 (by omega)
  refine ⟨r, h1, fun h => ⟨(h2 h).1, fun x hx => ?_⟩⟩
  obtain ⟨j, hj, rfl⟩ := List.getElem_of_mem hx
  exact (h2 h).2 j _ (Nat.zero_le _) (by have := (h2 h).1; omega) (List.getElem?_eq_getElem hj)
end Go.Proofs.YtmddkjmcbddhiaaDoor.P
end
section
namespace Go.Proofs.YtmddkjmcbddhiaaDoor.P
open Go.RowKit Go.Proofs.YtmddkjmcbddhiaaDoorW.PrintWords Go.Proofs.YtmddkjmcbddhiaaDoor.Sp
set_option linter.unusedVariables false
set_option linter.unusedSimpArgs false

theorem same16_loop (x y : List ByteArray) (he : x.length = y.length) (hl : x.length ≤ 4611686018427387904) (n : Nat) : ∀ i : Nat, x.length ≤ i + n →
    Ev (fun k => deckleref16_Same.l0 k x y (i : Int)) (decide (bys (x.drop i) = bys (y.drop i))) := by
  have stop : ∀ i : Nat, x.length ≤ i → Ev (fun k => deckleref16_Same.l0 k x y (i : Int)) (decide (bys (x.drop i) = bys (y.drop i))) := by
    intro i hi
    refine Ev.step (f := fun _ => some _) (fun k => ?_) (Ev.now _)
    rw [deckleref16_Same.l0, if_neg (by omega), List.drop_eq_nil_of_le hi, List.drop_eq_nil_of_le (by omega)]
    rfl
  induction n with
  | zero => intro i hi; exact stop i (by omega)
  | succ n ih =>
    intro i hi
    by_cases h1 : i < x.length
    · have h2 : i < y.length := by omega
      have dx := drop_cons x i h1
      have dy := drop_cons y i h2
      by_cases h3 : x[i].data.toList = y[i].data.toList
      · have e : decide (bys (x.drop i) = bys (y.drop i)) = decide (bys (x.drop (i + 1)) = bys (y.drop (i + 1))) := by
          refine decide_eq_decide.2 ⟨fun h => ?_, fun h => ?_⟩
          · rw [dx, dy] at h
            exact (List.cons.inj h).2
          · rw [dx, dy]
            show x[i].data.toList :: bys (x.drop (i + 1)) = y[i].data.toList :: bys (y.drop (i + 1))
            rw [h3, h]
        rw [e]
        refine Ev.step (fun k => ?_) (ih (i + 1) (by omega))
        rw [deckleref16_Same.l0, if_pos (by omega), if_pos (by omega), if_pos (by omega), rdOf_at x i h1, rdOf_at y i h2, ByteArray.toList_eq, ByteArray.toList_eq, if_pos h3, wrap_nat rfl (by omega)]
      · refine Ev.step (f := fun _ => some _) (fun k => ?_) (Ev.now _)
        rw [deckleref16_Same.l0, if_pos (by omega), if_pos (by omega), if_pos (by omega), rdOf_at x i h1, rdOf_at y i h2, ByteArray.toList_eq, ByteArray.toList_eq, if_neg h3, decide_eq_false]
        intro h
        rw [dx, dy] at h
        exact h3 (List.cons.inj h).1
    · exact stop i (by omega)
theorem same16_ev (x y : List ByteArray) (h : bys x = bys y) (hl : x.length ≤ 4611686018427387904) : Ev (fun k => deckleref16_Same.f k x y) true := by
  have he : x.length = y.length := by
    have := congrArg List.length h
    rwa [bys_length, bys_length] at this
  have h1 := same16_loop x y he hl _ 0 (Nat.le_add_left _ _)
  rw [List.drop_zero, List.drop_zero, decide_eq_true h] at h1
  refine Ev.congr (fun k => ?_) h1
  unfold deckleref16_Same.f
  rw [if_pos (by omega)]
  rfl
theorem unlFrom_append : ∀ (xs ys seen : List (List UInt8)), unlFrom seen (xs ++ ys) = (unlFrom seen xs && unlFrom (seen ++ xs) ys)
  | [], ys, seen => by simp [unlFrom]
  | x :: t, ys, seen => by
    simp only [List.cons_append, unlFrom]
    split
    · rfl
    · rw [unlFrom_append t ys (seen ++ [x])]
      simp
theorem unlFrom_less : ∀ (ys s t : List (List UInt8)), (∀ x ∈ t, x ∈ s) → unlFrom s ys = true → unlFrom t ys = true
  | [], _, _, _, _ => rfl
  | y :: ys, s, t, hst, h => by
    simp only [unlFrom] at h ⊢
    split at h
    · cases h
    · rename_i hn
      rw [if_neg (fun hh => hn ⟨hh.1, hst _ hh.2⟩)]
      refine unlFrom_less ys (s ++ [y]) (t ++ [y]) (fun x hx => ?_) h
      rcases List.mem_append.1 hx with h1 | h1
      · exact List.mem_append.2 (.inl (hst x h1))
      · exact List.mem_append.2 (.inr h1)
theorem unlFrom_apart : ∀ (ys s : List (List UInt8)), unlFrom s ys = true → ∀ y ∈ ys, y ≠ [] → y ∉ s
  | [], _, _, _, hy, _ => by cases hy
  | z :: ys, s, h, y, hy, hne => by
    simp only [unlFrom] at h
    split at h
    · cases h
    · rename_i hn
      rcases List.mem_cons.1 hy with rfl | hy
      · exact fun hs => hn ⟨hne, hs⟩
      · exact fun hs => unlFrom_apart ys _ h y hy hne (List.mem_append.2 (.inl hs))
theorem unl_parts {xs ys : List (List UInt8)} (h : unl (xs ++ ys) = true) : unl xs = true ∧ unl ys = true ∧ ∀ y ∈ ys, y ≠ [] → y ∉ xs := by
  unfold unl at h ⊢
  rw [unlFrom_append, Bool.and_eq_true, List.nil_append] at h
  exact ⟨h.1, unlFrom_less ys xs [] (fun x hx => by cases hx) h.2, unlFrom_apart ys xs h.2⟩
theorem labs_snoc (l : List ByteArray) (s : ByteArray) (h : 1 ≤ l.length) : labs (l ++ [s]) = labs l ++ (match labelOf s with | some x => [x] | none => []) := by
  cases l with
  | nil => simp at h
  | cons x t =>
    unfold labs
    rw [List.cons_append, List.tail_cons, List.tail_cons, List.filterMap_append]
    congr 1
    rw [List.filterMap_cons]
    cases labelOf s <;> rfl
theorem headOf_snoc (l : List ByteArray) (s : ByteArray) (h : 1 ≤ l.length) : headOf (l ++ [s]) = headOf l := by
  cases l with
  | nil => simp at h
  | cons x t => rfl
theorem rightF_more {l : List ByteArray} {s : ByteArray} (h : 1 ≤ l.length) (h2 : l.length ≤ 999) (hn : labelOf s = none) : rightF (l ++ [s]) = (rightF l && lineB s) := by
  unfold rightF
  rw [labs_snoc l s h, headOf_snoc l s h, hn]
  simp only [List.append_nil, List.length_append, List.length_cons, List.length_nil, List.all_append, List.all_cons, List.all_nil, Bool.and_true]
  rw [decide_eq_true (by omega), decide_eq_true (by omega)]
  cases l.all lineB <;> cases lineB s <;> simp
theorem rightF_less {l : List ByteArray} {s : ByteArray} (h : 1 ≤ l.length) (hr : rightF (l ++ [s]) = true) : rightF l = true := by
  obtain ⟨h1, h2, h3, h4, h5, h6⟩ := rightF_pos hr
  rw [labs_snoc l s h] at h5 h6
  rw [headOf_snoc l s h] at h4 h6
  rw [List.all_append, Bool.and_eq_true] at h3
  rw [List.length_append] at h2
  have e : ∀ z : List ByteArray, bys (labs l ++ z) = bys (labs l) ++ bys z := fun z => by simp [bys]
  rw [e, List.all_append, Bool.and_eq_true] at h5
  rw [e, ← List.append_assoc] at h6
  unfold rightF
  rw [decide_eq_true (show 1 ≤ l.length ∧ l.length ≤ 1000 by simp only [List.length_cons, List.length_nil] at h2; omega), h3.1, h4, h5.1, (unl_parts h6).1]
  rfl
end Go.Proofs.YtmddkjmcbddhiaaDoor.P
end
