/-
  What the reference's functions of layer 08 come to, from some number of rounds on: the plain words of names and unlike texts.
-/
import Derived.Test.YtmddkjmcbddhiaaDoorP35J
import Derived.Test.YtmddkjmcbddhiaaDoorLw8J
import Derived.Test.YtmddkjmcbddhiaaDoorSpJ
namespace Go.Proofs.YtmddkjmcbddhiaaDoor.P
open Go.RowKit Go.Proofs.YtmddkjmcbddhiaaDoorW.PrintWords Go.Proofs.YtmddkjmcbddhiaaDoor.Sp
set_option linter.unusedVariables false
set_option linter.unusedSimpArgs false

theorem wrap_nat {n m : Nat} (h : m = n + 1) (hm : m ≤ 9223372036854775807) : wrap64 ((n : Int) + 1) = (m : Int) := by
  unfold wrap64
  omega

theorem ref_Right_end (x y : ByteArray) (n : Nat) (h0 : x.size = 0) :
    Ev (fun k => deckleref08_Right.l0 k x y n) (decide (1 ≤ n + cs x.data.toList ∧ n + cs x.data.toList ≤ 32) && (y.data.toList == [])) := by
  have hsz := length_data x
  have hnil : x.data.toList = [] := List.eq_nil_of_length_eq_zero (by omega)
  refine Ev.step (f := fun _ => some _) (fun k => ?_) (Ev.now _)
  simp only [deckleref08_Right.l0, ByteArray.toList_eq, hnil, if_true]
  have hc : cs ([] : List UInt8) = 0 := rfl
  rw [hc, Nat.add_zero]
  by_cases h1 : (n : Int) ≥ 1
  · rw [if_pos h1]
    by_cases h2 : (n : Int) ≤ 32
    · rw [if_pos h2, decide_eq_true (by omega)]; rfl
    · rw [if_neg h2, decide_eq_false (by omega)]; rfl
  · rw [if_neg h1, decide_eq_false (by omega)]; rfl
theorem ref_Right_l0 (d : Nat) : ∀ (x y : ByteArray) (n : Nat), x.size ≤ d → gl x.data.toList = x.size → n + x.size ≤ 4611686018427387904 →
    Ev (fun k => deckleref08_Right.l0 k x y n) (decide (1 ≤ n + cs x.data.toList ∧ n + cs x.data.toList ≤ 32) && (y.data.toList == [])) := by
  induction d with
  | zero =>
    intro x y n hd hg hn
    exact ref_Right_end x y n (by omega)
  | succ d ihd =>
    intro x y n hd hg hn
    have hsz := length_data x
    by_cases h0 : x.size = 0
    · exact ref_Right_end x y n h0
    · have hne : gW x.data.toList ≠ 0 := by
        intro hz
        rw [gl_zero hz] at hg
        omega
      have hle := gW_le x.data.toList
      have hnil : ¬ x.data.toList = [] := by
        intro h
        rw [h] at hsz
        simp at hsz
        omega
      have hst := gl_step hne
      have hcs := cs_step hne
      have hx' : (x.extract (gW x.data.toList) x.size).data.toList = x.data.toList.drop (gW x.data.toList) := extract_data _ _
      have hxs : (x.extract (gW x.data.toList) x.size).size = x.size - gW x.data.toList := by rw [← length_data, hx', List.length_drop, hsz]
      have ih := ihd (x.extract (gW x.data.toList) x.size) y (n + 1) (by omega) (by rw [hx', hxs]; omega) (by omega)
      rw [hx'] at ih
      have he : n + cs x.data.toList = n + 1 + cs (x.data.toList.drop (gW x.data.toList)) := by omega
      rw [he]
      obtain ⟨K, hK⟩ := ih
      refine ⟨K + 3, fun k hk => ?_⟩
      obtain ⟨j, rfl⟩ : ∃ m, k = m + 2 + 1 := ⟨k - 3, by omega⟩
      show deckleref08_Right.l0 (j + 2 + 1) x y n = _
      rw [deckleref08_Right.l0]
      simp only [ByteArray.toList_eq, hnil, if_false, ref_goes, Option.bind_some]
      rw [if_pos (by omega), if_pos (by omega), Int.toNat_natCast, wrap_nat rfl (by omega)]
      exact hK (j + 2) (by omega)

theorem ref_Right (s : ByteArray) (hs : s.size ≤ 4611686018427387904) : Ev (fun k => deckleref08_Right.f k s) (isName s.data.toList) := by
  have hsz := length_data s
  have hle := nameLen_le s.data.toList
  have ha : (s.extract 0 (nameLen s.data.toList)).data.toList = s.data.toList.take (nameLen s.data.toList) := ext_take_data _ _
  have hb : (s.extract (nameLen s.data.toList) s.size).data.toList = s.data.toList.drop (nameLen s.data.toList) := extract_data _ _
  have has : (s.extract 0 (nameLen s.data.toList)).size = nameLen s.data.toList := by rw [← length_data, ha, List.length_take]; omega
  have hfull : gl (s.data.toList.take (nameLen s.data.toList)) = nameLen s.data.toList := by
    by_cases h : bgW s.data.toList = 0
    · rw [nameLen_zero h]; rfl
    · rw [nameLen_gl h, gl_take]
  have hE := ref_Right_l0 _ (s.extract 0 (nameLen s.data.toList)) (s.extract (nameLen s.data.toList) s.size) 0 (Nat.le_refl _) (by rw [ha, has]; exact hfull) (by omega)
  have hr : (decide (1 ≤ 0 + cs (s.data.toList.take (nameLen s.data.toList)) ∧ 0 + cs (s.data.toList.take (nameLen s.data.toList)) ≤ 32) && (s.data.toList.drop (nameLen s.data.toList) == [])) = isName s.data.toList := by
    rw [Bool.eq_iff_iff, isName_iff]
    simp only [Bool.and_eq_true, decide_eq_true_eq, beq_iff_eq, List.drop_eq_nil_iff, Nat.zero_add]
    by_cases h : bgW s.data.toList = 0
    · rw [nameLen_zero h, List.take_zero]
      have hc : cs ([] : List UInt8) = 0 := rfl
      rw [hc]
      constructor
      · intro h1; omega
      · intro h1; exact absurd h h1.1
    · have hp := gl_pos h
      rw [nameLen_gl h, cs_take]
      have hc := cs_le_gl s.data.toList
      have hl := gl_le s.data.toList
      constructor
      · intro h1; exact ⟨h, by omega, h1.1.2⟩
      · intro h1; exact ⟨⟨by omega, h1.2.2⟩, by omega⟩
  rw [ha, hb, hr] at hE
  refine Ev.congr (fun k => ?_) hE
  unfold deckleref08_Right.f deckleref08_Take.f
  rw [if_pos (by omega)]
  rfl

theorem rdOf_at (l : List ByteArray) (i : Nat) (h : i < l.length) : rdOf ByteArray.empty l (i : Int) = l[i] := by
  unfold rdOf
  rw [Int.toNat_natCast, List.getD_eq_getElem?_getD, List.getElem?_eq_getElem h, Option.getD_some]
theorem drop_cons (l : List ByteArray) (i : Nat) (h : i < l.length) : l.drop i = l[i] :: l.drop (i + 1) := List.drop_eq_getElem_cons h
def okAt (xs : List (List UInt8)) (i : Nat) : Prop := ¬ (xs.getD i [] ≠ [] ∧ xs.getD i [] ∈ xs.take i)
theorem unlFrom_iff : ∀ (t seen : List (List UInt8)), unlFrom seen t = true ↔ ∀ i, i < t.length → ¬ (t.getD i [] ≠ [] ∧ t.getD i [] ∈ seen ++ t.take i)
  | [], seen => by simp [unlFrom]
  | x :: t, seen => by
    unfold unlFrom
    constructor
    · intro h i hi
      split at h
      · cases h
      · rename_i hx
        cases i with
        | zero => simpa using hx
        | succ i =>
          have := (unlFrom_iff t (seen ++ [x])).1 h i (by simpa using hi)
          simpa using this
    · intro h
      have h0 := h 0 (by simp)
      rw [if_neg (by simpa using h0)]
      refine (unlFrom_iff t (seen ++ [x])).2 fun i hi => ?_
      have := h (i + 1) (by simpa using hi)
      simpa using this
theorem unl_iff (xs : List (List UInt8)) : unl xs = true ↔ ∀ i, i < xs.length → okAt xs i := by
  unfold unl okAt
  rw [unlFrom_iff]
  simp
theorem unl_false {xs : List (List UInt8)} {i : Nat} (hi : i < xs.length) (h : ¬ okAt xs i) : unl xs = false := by
  cases hu : unl xs with
  | false => rfl
  | true => exact absurd ((unl_iff xs).1 hu i hi) h
theorem bys_getD (l : List ByteArray) (i : Nat) (h : i < l.length) : (bys l).getD i [] = l[i].data.toList := by
  rw [List.getD_eq_getElem?_getD]
  simp [bys, List.getElem?_map, List.getElem?_eq_getElem h]
theorem bys_length (l : List ByteArray) : (bys l).length = l.length := by simp [bys]
theorem bys_take_mem (l : List ByteArray) (i : Nat) (x : List UInt8) : x ∈ (bys l).take i ↔ ∃ j, j < i ∧ ∃ h : j < l.length, l[j].data.toList = x := by
  rw [List.mem_iff_getElem]
  constructor
  · rintro ⟨j, hj, e⟩
    rw [List.length_take, bys_length] at hj
    refine ⟨j, by omega, by omega, ?_⟩
    rw [List.getElem_take] at e
    simpa [bys] using e
  · rintro ⟨j, hj, h, e⟩
    refine ⟨j, by rw [List.length_take, bys_length]; omega, ?_⟩
    rw [List.getElem_take]
    simpa [bys] using e

/-- Round i of the outer loop, from place j of the inner one on. -/
theorem ref_Unlike_l1 (l : List ByteArray) (hl : l.length ≤ 4611686018427387904) (i : Nat) (hi : i < l.length) (r : Bool) (hbad : ¬ okAt (bys l) i → r = false)
    (hnext : okAt (bys l) i → Ev (fun k => deckleref08_Unlike.l0 k l ((i + 1 : Nat) : Int)) r) (d : Nat) : ∀ j : Nat, i ≤ j + d → j ≤ i →
    (∀ m, m < j → ∀ h : m < l.length, ¬ (l[i].data.toList ≠ [] ∧ l[m].data.toList = l[i].data.toList)) →
    Ev (fun k => deckleref08_Unlike.l1 k l (i : Int) (j : Int)) r := by
  have hend : ∀ j : Nat, j = i → (∀ m, m < j → ∀ h : m < l.length, ¬ (l[i].data.toList ≠ [] ∧ l[m].data.toList = l[i].data.toList)) → Ev (fun k => deckleref08_Unlike.l1 k l (i : Int) (j : Int)) r := by
    intro j hj hno
    subst hj
    have hok : okAt (bys l) j := by
      rintro ⟨h1, h2⟩
      rw [bys_getD l j hi] at h1 h2
      obtain ⟨m, hm, hml, e⟩ := (bys_take_mem l j _).1 h2
      exact hno m hm hml ⟨h1, e⟩
    refine Ev.step (fun k => ?_) (hnext hok)
    rw [deckleref08_Unlike.l1, if_neg (by omega), wrap_nat rfl (by omega)]
  induction d with
  | zero =>
    intro j h1 h2 hno
    exact hend j (by omega) hno
  | succ d ih =>
    intro j h1 h2 hno
    by_cases hlt : j < i
    · by_cases he : l[i].data.toList = []
      · have h3 := ih (j + 1) (by omega) (by omega) (fun m hm h => fun hh => hh.1 he)
        refine Ev.step (fun k => ?_) h3
        rw [deckleref08_Unlike.l1, if_pos (by omega), if_pos (by omega), if_pos (by omega), rdOf_at l i hi, ByteArray.toList_eq, if_pos he, wrap_nat rfl (by omega)]
      · by_cases hs : l[i].data.toList = l[j].data.toList
        · have hr := hbad (fun hok => hok ⟨by rw [bys_getD l i hi]; exact he, by
            rw [bys_getD l i hi]
            exact (bys_take_mem l i _).2 ⟨j, hlt, by omega, hs.symm⟩⟩)
          rw [hr]
          refine Ev.step (f := fun _ => some false) (fun k => ?_) (Ev.now _)
          rw [deckleref08_Unlike.l1, if_pos (by omega), if_pos (by omega), if_pos (by omega), rdOf_at l i hi, rdOf_at l j (by omega), ByteArray.toList_eq, ByteArray.toList_eq, if_neg he, if_pos (by omega), if_pos (by omega), if_pos hs]
        · have h3 := ih (j + 1) (by omega) (by omega) (fun m hm h => by
            by_cases e : m = j
            · subst e
              exact fun hh => hs hh.2.symm
            · exact hno m (by omega) h)
          refine Ev.step (fun k => ?_) h3
          rw [deckleref08_Unlike.l1, if_pos (by omega), if_pos (by omega), if_pos (by omega), rdOf_at l i hi, rdOf_at l j (by omega), ByteArray.toList_eq, ByteArray.toList_eq, if_neg he, if_pos (by omega), if_pos (by omega), if_neg hs, wrap_nat rfl (by omega)]
    · exact hend j (by omega) hno
theorem ref_Unlike_l0 (l : List ByteArray) (hl : l.length ≤ 4611686018427387904) (d : Nat) : ∀ i : Nat, l.length ≤ i + d → (∀ m, m < i → m < l.length → okAt (bys l) m) →
    Ev (fun k => deckleref08_Unlike.l0 k l (i : Int)) (unl (bys l)) := by
  have hend : ∀ i : Nat, ¬ i < l.length → (∀ m, m < i → m < l.length → okAt (bys l) m) → Ev (fun k => deckleref08_Unlike.l0 k l (i : Int)) (unl (bys l)) := by
    intro i hi hok
    have : unl (bys l) = true := (unl_iff _).2 fun m hm => hok m (by rw [bys_length] at hm; omega) (by rw [bys_length] at hm; exact hm)
    rw [this]
    refine Ev.step (f := fun _ => some true) (fun k => ?_) (Ev.now _)
    rw [deckleref08_Unlike.l0, if_neg (by omega)]
  induction d with
  | zero =>
    intro i hi hok
    exact hend i (by omega) hok
  | succ d ih =>
    intro i hi hok
    by_cases hlt : i < l.length
    · refine Ev.step (f := fun k => deckleref08_Unlike.l1 k l (i : Int) ((0 : Nat) : Int)) (fun k => ?_) (ref_Unlike_l1 l hl i hlt _ (fun hb => unl_false (by rw [bys_length]; exact hlt) hb) (fun hg => ih (i + 1) (by omega) (fun m hm hml => ?_)) i 0 (by omega) (by omega) (fun m hm => absurd hm (by omega)))
      · rw [deckleref08_Unlike.l0, if_pos (by omega)]
        rfl
      · by_cases e : m = i
        · subst e; exact hg
        · exact hok m (by omega) hml
    · exact hend i hlt hok
theorem ref_Unlike (l : List ByteArray) (hl : l.length ≤ 4611686018427387904) : Ev (fun k => deckleref08_Unlike.f k l) (unl (bys l)) :=
  ref_Unlike_l0 l hl l.length 0 (by omega) (fun m hm => absurd hm (by omega))
end Go.Proofs.YtmddkjmcbddhiaaDoor.P
