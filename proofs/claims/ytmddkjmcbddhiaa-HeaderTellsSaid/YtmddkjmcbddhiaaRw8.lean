/-
  What the program's functions of layer 8 come to, in plain words: the name that stands first, whether a text is a name; and what CutPrefix cuts.
  What the reference's functions of layer 08 come to, from some number of rounds on: the plain words of names and unlike texts.
-/
import Derived.Test.YtmddkjmcbddhiaaP2
import Derived.Test.YtmddkjmcbddhiaaGRefTake
import Derived.Test.YtmddkjmcbddhiaaP5
import Derived.Test.YtmddkjmcbddhiaaSp
section
namespace Go.Proofs.Ytmddkjmcbddhiaa.P
open Go.RowKit Go.Proofs.YtmddkjmcbddhiaaW.PrintWords Go.Proofs.Ytmddkjmcbddhiaa.Sp
set_option linter.unusedVariables false
set_option linter.unusedSimpArgs false

theorem ext_drop (s : ByteArray) (n : Nat) : (s.extract n s.size).toList = s.data.toList.drop n := by
  rw [ByteArray.toList_eq, extract_data]
theorem ext_take_data (s : ByteArray) (n : Nat) : (s.extract 0 n).data.toList = s.data.toList.take n := by
  rw [← ByteArray.toList_eq, ext_take]
theorem append_data (a b : ByteArray) : (a ++ b).data.toList = a.data.toList ++ b.data.toList := by simp
theorem name_Take_f (s : ByteArray) : name_Take.f s = some (s.extract 0 (nameLen s.data.toList), s.extract (nameLen s.data.toList) s.size) := by
  unfold name_Take.f
  rw [takeLen_eq]
theorem name_Right_f (s : ByteArray) (hs : s.size < 9223372036854775807) : name_Right.f s = some (isName s.data.toList) := by
  unfold name_Right.f
  rw [name_Take_f]
  simp only [Option.bind_some, ext_take, ext_drop]
  have hsz := length_data s
  by_cases hb : bgW s.data.toList = 0
  · have h0 : nameLen s.data.toList = 0 := by unfold nameLen; rw [if_pos hb]
    have hf : isName s.data.toList = false := by
      cases h : isName s.data.toList with
      | false => rfl
      | true => exact absurd hb ((isName_iff _).1 h).1
    rw [h0, List.take_zero, if_pos rfl, hf]
  · have hn : nameLen s.data.toList = gl s.data.toList := by unfold nameLen; rw [if_neg hb]
    have hgz : gW s.data.toList ≠ 0 := by rw [gW_of_bgW hb]; exact hb
    have hpos : 0 < gl s.data.toList := by rw [gl_step hgz]; omega
    have hle := gl_le s.data.toList
    rw [hn]
    rw [if_neg (by intro h; have := congrArg List.length h; rw [List.length_take] at this; simp only [List.length_nil] at this; omega)]
    by_cases he : gl s.data.toList = s.data.toList.length
    · have hd : s.data.toList.drop (gl s.data.toList) = [] := List.drop_eq_nil_of_le (by omega)
      have ht : s.extract 0 (gl s.data.toList) = s := by rw [he, hsz]; exact extract_all s
      rw [if_pos hd, ht]
      unfold utf8_RuneCountInString.f
      rw [if_pos hs, runeCount_cs (by rw [he, hsz])]
      simp only [Option.bind_some]
      congr 1
      unfold isName
      rw [decide_eq_true hb, decide_eq_true he]
      simp only [Bool.true_and]
      exact decide_eq_decide.2 (by omega)
    · have hd : s.data.toList.drop (gl s.data.toList) ≠ [] := by
        intro h
        have := congrArg List.length h
        rw [List.length_drop] at this
        simp only [List.length_nil] at this
        omega
      rw [if_neg hd]
      have hf : isName s.data.toList = false := by
        cases h : isName s.data.toList with
        | false => rfl
        | true => exact absurd ((isName_iff _).1 h).2.1 he
      rw [hf]

theorem cutPrefix_f (s p : ByteArray) : strings_CutPrefix.f s p = some (if p.data.toList <+: s.data.toList then (s.extract p.size s.size, true) else (s, false)) := by
  unfold strings_CutPrefix.f stringslite_CutPrefix.f stringslite_HasPrefix.f
  have h1 := length_data s
  have h2 := length_data p
  by_cases hl : (s.size : Int) ≥ (p.size : Int)
  · rw [if_pos hl, if_pos (by omega), if_pos (by omega)]
    simp only [Int.toNat_natCast, ext_take, Option.bind_some]
    by_cases hp : p.data.toList <+: s.data.toList
    · have he : s.data.toList.take p.size = p.data.toList := by rw [← h2]; exact (List.prefix_iff_eq_take.1 hp).symm
      rw [he, ByteArray.toList_eq, beq_self_eq_true, if_pos rfl, if_pos (by omega), if_pos (by omega), if_pos hp]
      rfl
    · have he : ¬ s.data.toList.take p.size = p.data.toList := by
        intro he
        exact hp (List.prefix_iff_eq_take.2 (by rw [h2]; exact he.symm))
      rw [ByteArray.toList_eq, if_neg (by simpa using he), if_neg hp]
      rfl
  · rw [if_neg hl]
    simp only [Option.bind_some]
    have hp : ¬ p.data.toList <+: s.data.toList := by
      intro hp
      have := hp.length_le
      omega
    rw [if_neg (by simp), if_neg hp]
    rfl
end Go.Proofs.Ytmddkjmcbddhiaa.P
end
section
namespace Go.Proofs.Ytmddkjmcbddhiaa.P
open Go.RowKit Go.Proofs.YtmddkjmcbddhiaaW.PrintWords Go.Proofs.Ytmddkjmcbddhiaa.Sp
set_option linter.unusedVariables false
set_option linter.unusedSimpArgs false

theorem wrap_nat {n m : Nat} (h : m = n + 1) (hm : m ≤ 9223372036854775807) : wrap64 ((n : Int) + 1) = (m : Int) := by
  unfold wrap64
  omega

theorem ref_Right_end (x y : ByteArray) (n : Nat) (h0 : x.size = 0) :
    Ev (fun k => deckleref08_Right.l0 k x y n) (decide (1 ≤ n + cs x.data.toList ∧ n + cs x.data.toList ≤ 32) && (y.data.toList == [])) := by
  have hsz := length_data x
  have hnil : x.data.toList = [] := List.eq_nil_of_length_eq_zero (by omega)
  refine Ev.step (f := fun _ => some _) (fun k => ?_) (Ev.now _)
  simp only [deckleref08_Right.l0, ByteArray.toList_eq, hnil, if_true]
  have hc : cs ([] : List UInt8) = 0 := rfl
  rw [hc, Nat.add_zero]
  by_cases h1 : (n : Int) ≥ 1
  · rw [if_pos h1]
    by_cases h2 : (n : Int) ≤ 32
    · rw [if_pos h2, decide_eq_true (by omega)]; rfl
    · rw [if_neg h2, decide_eq_false (by omega)]; rfl
  · rw [if_neg h1, decide_eq_false (by omega)]; rfl
theorem ref_Right_l0 (d : Nat) : ∀ (x y : ByteArray) (n : Nat), x.size ≤ d → gl x.data.toList = x.size → n + x.size ≤ 4611686018427387904 →
    Ev (fun k => deckleref08_Right.l0 k x y n) (decide (1 ≤ n + cs x.data.toList ∧ n + cs x.data.toList ≤ 32) && (y.data.toList == [])) := by
  induction d with
  | zero =>
    intro x y n hd hg hn
    exact ref_Right_end x y n (by omega)
  | succ d ihd =>
    intro x y n hd hg hn
    have hsz := length_data x
    by_cases h0 : x.size = 0
    · exact ref_Right_end x y n h0
    · have hne : gW x.data.toList ≠ 0 := by
        intro hz
        rw [gl_zero hz] at hg
        omega
      have hle := gW_le x.data.toList
      have hnil : ¬ x.data.toList = [] := by
        intro h
        rw [h] at hsz
        simp at hsz
        omega
      have hst := gl_step hne
      have hcs := cs_step hne
      have hx' : (x.extract (gW x.data.toList) x.size).data.toList = x.data.toList.drop (gW x.data.toList) := extract_data _ _
      have hxs : (x.extract (gW x.data.toList) x.size).size = x.size - gW x.data.toList := by rw [← length_data, hx', List.length_drop, hsz]
      have ih := ihd (x.extract (gW x.data.toList) x.size) y (n + 1) (by omega) (by rw [hx', hxs]; omega) (by omega)
      rw [hx'] at ih
      have he : n + cs x.data.toList = n + 1 + cs (x.data.toList.drop (gW x.data.toList)) := by omega
      rw [he]
      obtain ⟨K, hK⟩ := ih
      refine ⟨K + 3, fun k hk => ?_⟩
      obtain ⟨j, rfl⟩ : ∃ m, k = m + 2 + 1 := ⟨k - 3, by omega⟩
      show deckleref08_Right.l0 (j + 2 + 1) x y n = _
      rw [deckleref08_Right.l0]
      simp only [ByteArray.toList_eq, hnil, if_false, ref_goes, Option.bind_some]
      rw [if_pos (by omega), if_pos (by omega), Int.toNat_natCast, wrap_nat rfl (by omega)]
      exact hK (j + 2) (by omega)

theorem ref_Right (s : ByteArray) (hs : s.size ≤ 4611686018427387904) : Ev (fun k => deckleref08_Right.f k s) (isName s.data.toList) := by
  have hsz := length_data s
  have hle := nameLen_le s.data.toList
  have ha : (s.extract 0 (nameLen s.data.toList)).data.toList = s.data.toList.take (nameLen s.data.toList) := ext_take_data _ _
  have hb : (s.extract (nameLen s.data.toList) s.size).data.toList = s.data.toList.drop (nameLen s.data.toList) := extract_data _ _
  have has : (s.extract 0 (nameLen s.data.toList)).size = nameLen s.data.toList := by rw [← length_data, ha, List.length_take]; omega
  have hfull : gl (s.data.toList.take (nameLen s.data.toList)) = nameLen s.data.toList := by
    by_cases h : bgW s.data.toList = 0
    · rw [nameLen_zero h]; rfl
    · rw [nameLen_gl h, gl_take]
  have hE := ref_Right_l0 _ (s.extract 0 (nameLen s.data.toList)) (s.extract (nameLen s.data.toList) s.size) 0 (Nat.le_refl _) (by rw [ha, has]; exact hfull) (by omega)
  have hr : (decide (1 ≤ 0 + cs (s.data.toList.take (nameLen s.data.toList)) ∧ 0 + cs (s.data.toList.take (nameLen s.data.toList)) ≤ 32) && (s.data.toList.drop (nameLen s.data.toList) == [])) = isName s.data.toList := by
    rw [Bool.eq_iff_iff, isName_iff]
    simp only [Bool.and_eq_true, decide_eq_true_eq, beq_iff_eq, List.drop_eq_nil_iff, Nat.zero_add]
    by_cases h : bgW s.data.toList = 0
    · rw [nameLen_zero h, List.take_zero]
      have hc : cs ([] : List UInt8) = 0 := rfl
      rw [hc]
      constructor
      · intro h1; omega
      · intro h1; exact absurd h h1.1
    · have hp := gl_pos h
      rw [nameLen_gl h, cs_take]
      have hc := cs_le_gl s.data.toList
      have hl := gl_le s.data.toList
      constructor
      · intro h1; exact ⟨h, by omega, h1.1.2⟩
      · intro h1; exact ⟨⟨by omega, h1.2.2⟩, by omega⟩
  rw [ha, hb, hr] at hE
  refine Ev.congr (fun k => ?_) hE
  unfold deckleref08_Right.f deckleref08_Take.f
  rw [if_pos (by omega)]
  rfl

theorem rdOf_at (l : List ByteArray) (i : Nat) (h : i < l.length) : rdOf ByteArray.empty l (i : Int) = l[i] := by
  unfold rdOf
  rw [Int.toNat_natCast, List.getD_eq_getElem?_getD, List.getElem?_eq_getElem h, Option.getD_some]
theorem drop_cons (l : List ByteArray) (i : Nat) (h : i < l.length) : l.drop i = l[i] :: l.drop (i + 1) := List.drop_eq_getElem_cons h
def okAt (xs : List (List UInt8)) (i : Nat) : Prop := ¬ (xs.getD i [] ≠ [] ∧ xs.getD i [] ∈ xs.take i)
theorem unlFrom_iff : ∀ (t seen : List (List UInt8)), unlFrom seen t = true ↔ ∀ i, i < t.length → ¬ (t.getD i [] ≠ [] ∧ t.getD i [] ∈ seen ++ t.take i)
  | [], seen => by simp [unlFrom]
  | x :: t, seen => by
    unfold unlFrom
    constructor
    · intro h i hi
      split at h
      · cases h
      · rename_i hx
        cases i with
        | zero => simpa using hx
        | succ i =>
          have := (unlFrom_iff t (seen ++ [x])).1 h i (by simpa using hi)
          simpa using this
    · intro h
      have h0 := h 0 (by simp)
      rw [if_neg (by simpa using h0)]
      refine (unlFrom_iff t (seen ++ [x])).2 fun i hi => ?_
      have := h (i + 1) (by simpa using hi)
      simpa using this
theorem unl_iff (xs : List (List UInt8)) : unl xs = true ↔ ∀ i, i < xs.length → okAt xs i := by
  unfold unl okAt
  rw [unlFrom_iff]
  simp
theorem unl_false {xs : List (List UInt8)} {i : Nat} (hi : i < xs.length) (h : ¬ okAt xs i) : unl xs = false := by
  cases hu : unl xs with
  | false => rfl
  | true => exact absurd ((unl_iff xs).1 hu i hi) h
theorem bys_getD (l : List ByteArray) (i : Nat) (h : i < l.length) : (bys l).getD i [] = l[i].data.toList := by
  rw [List.getD_eq_getElem?_getD]
  simp [bys, List.getElem?_map, List.getElem?_eq_getElem h]
theorem bys_length (l : List ByteArray) : (bys l).length = l.length := by simp [bys]
theorem bys_take_mem (l : List ByteArray) (i : Nat) (x : List UInt8) : x ∈ (bys l).take i ↔ ∃ j, j < i ∧ ∃ h : j < l.length, l[j].data.toList = x := by
  rw [List.mem_iff_getElem]
  constructor
  · rintro ⟨j, hj, e⟩
    rw [List.length_take, bys_length] at hj
    refine ⟨j, by omega, by omega, ?_⟩
    rw [List.getElem_take] at e
    simpa [bys] using e
  · rintro ⟨j, hj, h, e⟩
    refine ⟨j, by rw [List.length_take, bys_length]; omega, ?_⟩
    rw [List.getElem_take]
    simpa [bys] using e

/-- Round i of the outer loop, from place j of the inner one on. -/
theorem ref_Unlike_l1 (l : List ByteArray) (hl : l.length ≤ 4611686018427387904) (i : Nat) (hi : i < l.length) (r : Bool) (hbad : ¬ okAt (bys l) i → r = false)
    (hnext : okAt (bys l) i → Ev (fun k => deckleref08_Unlike.l0 k l ((i + 1 : Nat) : Int)) r) (d : Nat) : ∀ j : Nat, i ≤ j + d → j ≤ i →
    (∀ m, m < j → ∀ h : m < l.length, ¬ (l[i].data.toList ≠ [] ∧ l[m].data.toList = l[i].data.toList)) →
    Ev (fun k => deckleref08_Unlike.l1 k l (i : Int) (j : Int)) r := by
  have hend : ∀ j : Nat, j = i → (∀ m, m < j → ∀ h : m < l.length, ¬ (l[i].data.toList ≠ [] ∧ l[m].data.toList = l[i].data.toList)) → Ev (fun k => deckleref08_Unlike.l1 k l (i : Int) (j : Int)) r := by
    intro j hj hno
    subst hj
    have hok : okAt (bys l) j := by
      rintro ⟨h1, h2⟩
      rw [bys_getD l j hi] at h1 h2
      obtain ⟨m, hm, hml, e⟩ := (bys_take_mem l j _).1 h2
      exact hno m hm hml ⟨h1, e⟩
    refine Ev.step (fun k => ?_) (hnext hok)
    rw [deckleref08_Unlike.l1, if_neg (by omega), wrap_nat rfl (by omega)]
  induction d with
  | zero =>
    intro j h1 h2 hno
    exact hend j (by omega) hno
  | succ d ih =>
    intro j h1 h2 hno
    by_cases hlt : j < i
    · by_cases he : l[i].data.toList = []
      · have h3 := ih (j + 1) (by omega) (by omega) (fun m hm h => fun hh => hh.1 he)
        refine Ev.step (fun k => ?_) h3
        rw [deckleref08_Unlike.l1, if_pos (by omega), if_pos (by omega), if_pos (by omega), rdOf_at l i hi, ByteArray.toList_eq, if_pos he, wrap_nat rfl (by omega)]
      · by_cases hs : l[i].data.toList = l[j].data.toList
        · have hr := hbad (fun hok => hok ⟨by rw [bys_getD l i hi]; exact he, by
            rw [bys_getD l i hi]
            exact (bys_take_mem l i _).2 ⟨j, hlt, by omega, hs.symm⟩⟩)
          rw [hr]
          refine Ev.step (f := fun _ => some false) (fun k => ?_) (Ev.now _)
          rw [deckleref08_Unlike.l1, if_pos (by omega), if_pos (by omega), if_pos (by omega), rdOf_at l i hi, rdOf_at l j (by omega), ByteArray.toList_eq, ByteArray.toList_eq, if_neg he, if_pos (by omega), if_pos (by omega), if_pos hs]
        · have h3 := ih (j + 1) (by omega) (by omega) (fun m hm h => by
            by_cases e : m = j
            · subst e
              exact fun hh => hs hh.2.symm
            · exact hno m (by omega) h)
          refine Ev.step (fun k => ?_) h3
          rw [deckleref08_Unlike.l1, if_pos (by omega), if_pos (by omega), if_pos (by omega), rdOf_at l i hi, rdOf_at l j (by omega), ByteArray.toList_eq, ByteArray.toList_eq, if_neg he, if_pos (by omega), if_pos (by omega), if_neg hs, wrap_nat rfl (by omega)]
    · exact hend j (by omega) hno
theorem ref_Unlike_l0 (l : List ByteArray) (hl : l.length ≤ 4611686018427387904) (d : Nat) : ∀ i : Nat, l.length ≤ i + d → (∀ m, m < i → m < l.length → okAt (bys l) m) →
    Ev (fun k => deckleref08_Unlike.l0 k l (i : Int)) (unl (bys l)) := by
  have hend : ∀ i : Nat, ¬ i < l.length → (∀ m, m < i → m < l.length → okAt (bys l) m) → Ev (fun k => deckleref08_Unlike.l0 k l (i : Int)) (unl (bys l)) := by
    intro i hi hok
    have : unl (bys l) = true := (unl_iff _).2 fun m hm => hok m (by rw [bys_length] at hm; omega) (by rw [bys_length] at hm; exact hm)
    rw [this]
    refine Ev.step (f := fun _ => some true) (fun k => ?_) (Ev.now _)
    rw [deckleref08_Unlike.l0, if_neg (by omega)]
  induction d with
  | zero =>
    intro i hi hok
    exact hend i (by omega) hok
  | succ d ih =>
    intro i hi hok
    by_cases hlt : i < l.length
    · refine Ev.step (f := fun k => deckleref08_Unlike.l1 k l (i : Int) ((0 : Nat) : Int)) (fun k => ?_) (ref_Unlike_l1 l hl i hlt _ (fun hb => unl_false (by rw [bys_length]; exact hlt) hb) (fun hg => ih (i + 1) (by omega) (fun m hm hml => ?_)) i 0 (by omega) (by omega) (fun m hm => absurd hm (by omega)))
      · rw [deckleref08_Unlike.l0, if_pos (by omega)]
        rfl
      · by_cases e : m = i
        · subst e; exact hg
        · exact hok m (by omega) hml
    · exact hend i hlt hok
theorem ref_Unlike (l : List ByteArray) (hl : l.length ≤ 4611686018427387904) : Ev (fun k => deckleref08_Unlike.f k l) (unl (bys l)) :=
  ref_Unlike_l0 l hl l.length 0 (by omega) (fun m hm => absurd hm (by omega))
end Go.Proofs.Ytmddkjmcbddhiaa.P
end
