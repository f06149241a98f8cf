/-
  What the program's functions of layer 8 come to, in plain words: the name that stands first, whether a text is a name, or a name of the system's; and the small case.
-/
import Derived.Test.YtmddkjmcbddhiaaP3
import Derived.Test.YtmddkjmcbddhiaaGRefTake
namespace Go.Proofs.Ytmddkjmcbddhiaa.P
open Go.RowKit Go.Proofs.YtmddkjmcbddhiaaW.PrintWords Go.Proofs.Ytmddkjmcbddhiaa.Sp
set_option linter.unusedVariables false
set_option linter.unusedSimpArgs false

theorem ext_drop (s : ByteArray) (n : Nat) : (s.extract n s.size).toList = s.data.toList.drop n := by
  rw [ByteArray.toList_eq, extract_data]
theorem ext_take_data (s : ByteArray) (n : Nat) : (s.extract 0 n).data.toList = s.data.toList.take n := by
  rw [← ByteArray.toList_eq, ext_take]
theorem append_data (a b : ByteArray) : (a ++ b).data.toList = a.data.toList ++ b.data.toList := by simp
theorem name_Take_f (s : ByteArray) : name_Take.f s = some (s.extract 0 (nameLen s.data.toList), s.extract (nameLen s.data.toList) s.size) := by
  unfold name_Take.f
  rw [takeLen_eq]
theorem name_Right_f (s : ByteArray) (hs : s.size < 9223372036854775807) : name_Right.f s = some (isName s.data.toList) := by
  unfold name_Right.f
  rw [name_Take_f]
  simp only [Option.bind_some, ext_take, ext_drop]
  have hsz := length_data s
  by_cases hb : bgW s.data.toList = 0
  · have h0 : nameLen s.data.toList = 0 := by unfold nameLen; rw [if_pos hb]
    have hf : isName s.data.toList = false := by
      cases h : isName s.data.toList with
      | false => rfl
      | true => exact absurd hb ((isName_iff _).1 h).1
    rw [h0, List.take_zero, if_pos rfl, hf]
  · have hn : nameLen s.data.toList = gl s.data.toList := by unfold nameLen; rw [if_neg hb]
    have hgz : gW s.data.toList ≠ 0 := by rw [gW_of_bgW hb]; exact hb
    have hpos : 0 < gl s.data.toList := by rw [gl_step hgz]; omega
    have hle := gl_le s.data.toList
    rw [hn]
    rw [if_neg (by intro h; have := congrArg List.length h; rw [List.length_take] at this; simp only [List.length_nil] at this; omega)]
    by_cases he : gl s.data.toList = s.data.toList.length
    · have hd : s.data.toList.drop (gl s.data.toList) = [] := List.drop_eq_nil_of_le (by omega)
      have ht : s.extract 0 (gl s.data.toList) = s := by rw [he, hsz]; exact extract_all s
      rw [if_pos hd, ht]
      unfold utf8_RuneCountInString.f
      rw [if_pos hs, runeCount_cs (by rw [he, hsz])]
      simp only [Option.bind_some]
      congr 1
      unfold isName
      rw [decide_eq_true hb, decide_eq_true he]
      simp only [Bool.true_and]
      exact decide_eq_decide.2 (by omega)
    · have hd : s.data.toList.drop (gl s.data.toList) ≠ [] := by
        intro h
        have := congrArg List.length h
        rw [List.length_drop] at this
        simp only [List.length_nil] at this
        omega
      rw [if_neg hd]
      have hf : isName s.data.toList = false := by
        cases h : isName s.data.toList with
        | false => rfl
        | true => exact absurd ((isName_iff _).1 h).2.1 he
      rw [hf]

/-- The system's names. -/
def sysNames : List (List UInt8) := [[226, 142, 149, 67, 84], [226, 142, 149, 73, 79], [226, 142, 149, 76, 88], [226, 142, 149, 80, 80], [226, 142, 149, 80, 87], [226, 142, 149, 82, 76]]
def isSys (l : List UInt8) : Bool := decide (l ∈ sysNames)
theorem cutPrefix_f (s p : ByteArray) : strings_CutPrefix.f s p = some (if p.data.toList <+: s.data.toList then (s.extract p.size s.size, true) else (s, false)) := by
  unfold strings_CutPrefix.f stringslite_CutPrefix.f stringslite_HasPrefix.f
  have h1 := length_data s
  have h2 := length_data p
  by_cases hl : (s.size : Int) ≥ (p.size : Int)
  · rw [if_pos hl, if_pos (by omega), if_pos (by omega)]
    simp only [Int.toNat_natCast, ext_take, Option.bind_some]
    by_cases hp : p.data.toList <+: s.data.toList
    · have he : s.data.toList.take p.size = p.data.toList := by rw [← h2]; exact (List.prefix_iff_eq_take.1 hp).symm
      rw [he, ByteArray.toList_eq, beq_self_eq_true, if_pos rfl, if_pos (by omega), if_pos (by omega), if_pos hp]
      rfl
    · have he : ¬ s.data.toList.take p.size = p.data.toList := by
        intro he
        exact hp (List.prefix_iff_eq_take.2 (by rw [h2]; exact he.symm))
      rw [ByteArray.toList_eq, if_neg (by simpa using he), if_neg hp]
      rfl
  · rw [if_neg hl]
    simp only [Option.bind_some]
    have hp : ¬ p.data.toList <+: s.data.toList := by
      intro hp
      have := hp.length_le
      omega
    rw [if_neg (by simp), if_neg hp]
    rfl
theorem name_System_f (s : ByteArray) : name_System.f s = some (isSys s.data.toList) := by
  unfold name_System.f
  rw [cutPrefix_f]
  simp only [Option.bind_some]
  by_cases hp : (⟨#[226, 142, 149]⟩ : ByteArray).data.toList <+: s.data.toList
  · obtain ⟨t, ht⟩ := id hp
    have ht' : s.data.toList = 226 :: 142 :: 149 :: t := ht.symm
    rw [if_pos hp]
    have hd : (s.extract (⟨#[226, 142, 149]⟩ : ByteArray).size s.size).toList = t := by
      rw [ext_drop, ht']; rfl
    simp only [hd, if_true]
    unfold isSys sysNames
    rw [ht']
    simp only [List.mem_cons, List.not_mem_nil, or_false, List.cons.injEq, true_and]
    repeat' split
    all_goals simp_all
  · rw [if_neg hp]
    simp only [Bool.false_eq_true, if_false]
    congr 1
    symm
    refine decide_eq_false (fun h => hp ?_)
    unfold sysNames at h
    simp only [List.mem_cons, List.not_mem_nil, or_false] at h
    rcases h with h | h | h | h | h | h
    all_goals
      rw [h]
      exact (List.prefix_iff_eq_take.2 rfl)

theorem small08 : decklelaw08_small.f = some true := by
  unfold decklelaw08_small.f
  simp only [ByteArray.toList_eq]
  unfold name_Right.f name_System.f strings_CutPrefix.f stringslite_CutPrefix.f stringslite_HasPrefix.f
  decide +kernel
end Go.Proofs.Ytmddkjmcbddhiaa.P
