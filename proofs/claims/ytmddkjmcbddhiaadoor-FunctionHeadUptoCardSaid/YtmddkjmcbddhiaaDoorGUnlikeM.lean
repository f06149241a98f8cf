/-
  The walk of name.Unlike: are the texts of a list that are not empty unlike one another? Conditions: the list has fewer than 2^47 texts, each of at most 2^47 bytes.
-/
import Derived.Test.YtmddkjmcbddhiaaDoorP0M
import Derived.Test.YtmddkjmcbddhiaaDoorSpM
namespace Go.Proofs.YtmddkjmcbddhiaaDoor.P
open Go.RowKit Go.Maps Go.WideMaps Go.Proofs.YtmddkjmcbddhiaaDoorW.PrintWords Go.Proofs.YtmddkjmcbddhiaaDoor.Sp
set_option linter.unusedVariables false
set_option linter.unusedSimpArgs false

theorem un_law : Keyed Tryd.prog 9 := string_keyed Tryd.underlying9
theorem un_zero (w : World) : (zeroValue 3).run Tryd.prog w = .ok (.int .i64 0) w := by kernel_rfl

/-- The text at place k, and where its cell lies. -/
theorem strs_cell {w : World} {A : Option Addr} {n : Nat} {xs : List ByteArray} (h : Kd.C Kd.string w A n xs) {k : Nat} (hk : k < n) :
    ∃ ad s, A = some ad ∧ xs[k]? = some s ∧ w.cell? (ad.add k) = some (.string s) := by
  obtain ⟨hl, _, hr⟩ := h
  obtain ⟨ad, e, hc⟩ := hr (by omega)
  have hx : xs[k]? = some xs[k] := List.getElem?_eq_getElem (by omega)
  obtain ⟨c, hs, hK, hcell⟩ := hc k _ hx
  refine ⟨ad, _, e, hx, ?_⟩
  have hK' : c = [.string xs[k]] := hK
  have h1 := hcell 0 (.string xs[k]) (by rw [hK']; rfl)
  have e2 : k * Kd.string.sz + 0 = k := by show k * 1 + 0 = k; omega
  rw [e2] at h1
  exact h1

def name_Unlike.f (l0 : List ByteArray) : Option Bool :=
  if l0.length < 140737488355328 ∧ l0.all (fun s => s.size ≤ maxLen) = true then some (unl (bys l0)) else none

set_option maxHeartbeats 1000000 in
set_option maxRecDepth 100000 in
theorem unlike_walk (A0 : Option Addr) (c0 : Nat) (l : List ByteArray) (w : World) (hr : Kd.C Kd.string w A0 l.length l) (hn : l.length < 140737488355328) (hs : l.all (fun s => s.size ≤ maxLen) = true) :
    Calls Tryd.prog 36 #[.slice A0 l.length c0] w fun e w' => e = .returned (.bool (unl (bys l))) ∧ Below w.heap.size w w' := by
  have hmm := @run_makeMap Tryd.prog
  have HR := Aside0.mk hr
  have HS := Aside0.mk hs
  clear hr hs
  go_enter Tryd.func36, Tryd.ntmps36
  go_wp2
  go_loopw [9] (fun i wr => ∃ (k : Nat) (D : DataW Unit), k ≤ l.length ∧ i = .int .i64 k ∧ wr.ownsMap Tryd.prog 9 (plainElem Tryd.prog 3) w.heap.size k D ∧ Aside0 (Counts D ((bys l).take k)) ∧ Below w.heap.size w wr ∧ Aside0 (unlFrom ((bys l).take k) ((bys l).drop k) = unl (bys l)))
    (fun i _ => l.length - (intOf i).toNat)
  case atStart => exact ⟨0, _, Nat.zero_le _, rfl, World.ownsMap_made _ _ _ _, ⟨counts_start⟩, (Below.refl _ _).alloc (Nat.le_refl _) _, ⟨rfl⟩⟩
  case round =>
    obtain ⟨k, D, hk, rfl, hown, hcnt, hnx, hul⟩ := hrel
    by_cases hlt : k < l.length
    · obtain ⟨ad, s, rfl, hx, hc⟩ := strs_cell (Kd.C_below HR.out hnx) hlt
      have hsz : s.size ≤ maxLen := by
        have h1 := List.all_eq_true.1 HS.out s (List.mem_of_getElem? hx)
        simpa using h1
      have hkey : keyOf Tryd.prog 9 (.string s) = some (.string s.data.toList) := keyOf_string_mk Tryd.underlying9 hsz
      have HX := Aside0.mk hx
      clear hx
      go_wp2_with (first
        | (at_lookup; refine wpList_lookup_own_int _ rfl _ _ 77 rfl 9 3 .i64 un_law Tryd.underlying77 Tryd.underlying3 (un_zero _) w.heap.size k D rfl hown _ _ rfl hkey ?_; intro c hat hwc)
        | (at_mapUpdate; refine wpList_mapUpdate_own _ rfl _ _ _ 77 rfl 9 3 un_law Tryd.underlying77 _ w.heap.size k _ rfl hown (by unfold maxLen; omega) _ _ _ rfl rfl hkey _ [] (plainElem_int Tryd.underlying3 (wrap64_wf _)) ?_))
      intro w1 hown1 hgrow1
      have hct : c = (((bys l).take k).count s.data.toList : Int) := by
        have h1 := (hcnt.out.at_ s.data.toList).symm.trans hat
        simpa using h1.symm
      have hbk : (bys l)[k]? = some s.data.toList := by simp [bys, List.getElem?_map, HX.out]
      have hle : (((bys l).take k).count s.data.toList : Int) ≤ k := by
        have h1 := List.count_le_length (l := (bys l).take k) (a := s.data.toList)
        have h2 := List.length_take_le k (bys l)
        omega
      have htk : (bys l).take (k + 1) = (bys l).take k ++ [s.data.toList] := by rw [List.take_add_one, hbk]; rfl
      have hdk : (bys l).drop k = s.data.toList :: (bys l).drop (k + 1) := by
        rw [List.drop_eq_getElem?_toList_append, hbk]; rfl
      have hwr : wrap64 (c + 1) = (((bys l).take k).count s.data.toList : Int) + 1 := by
        rw [hct]; unfold wrap64; omega
      have HC := Aside0.mk (counts_step hcnt.out s.data.toList hwr)
      have HT := Aside0.mk htk
      have HD := Aside0.mk hdk
      have HW := Aside0.mk hwr
      have HN : Aside0 (Below w.heap.size w w1) := ⟨hnx.grown hgrow1 hnx.size (fun j hj => by cases hj; exact Nat.le_refl _)⟩
      clear hown hcnt hnx hc hat hct hbk hle htk hdk hwr hgrow1
      have hlw1 : unlFrom ((bys l).take k) ((bys l).drop k) = if s.data.toList ≠ [] ∧ s.data.toList ∈ (bys l).take k then false else unlFrom ((bys l).take (k + 1)) ((bys l).drop (k + 1)) := by
        rw [HD.out, HT.out]; rfl
      have HL := Aside0.mk hlw1
      clear hlw1
      have HC2 : Aside0 (Counts (D.put (.string s.data.toList) (i64d (wrap64 (c + 1)))) ((bys l).take (k + 1))) := ⟨by rw [HT.out]; exact HC.out⟩
      have HNN := Aside0.mk HN.out
      by_cases he : s.data.toList = []
      · have he1 : (s.toList != []) = false := by rw [ByteArray.toList_eq]; simpa using he
        have he2 : s.toList = [] := by rw [ByteArray.toList_eq]; exact he
        have he3 : (!s.toList.isEmpty) = false := by rw [he2]; rfl
        have HE := Aside0.mk he
        clear he
        go_wp2
        go_roundw
        case rel => exact ⟨k + 1, _, by omega, by go_num, hown1, HC2, HN.out, ⟨by rw [← hul.out, HL.out, if_neg (by rw [HE.out]; simp)]⟩⟩
        case measure => simp [intOf]; omega
      · have he1 : (s.toList != []) = true := by rw [ByteArray.toList_eq]; simpa using he
        have he2 : ¬ s.toList = [] := by rw [ByteArray.toList_eq]; exact he
        have he3 : (!s.toList.isEmpty) = true := by simpa using he2
        obtain ⟨c2, hrun2, hat2, _⟩ := hown1.lookup_int un_law Tryd.underlying77 Tryd.underlying3 (un_zero _) hkey
        have hc2 : c2 = (((bys l).take k).count s.data.toList : Int) + 1 := by
          have h1 := (HC2.out.at_ s.data.toList).symm.trans hat2
          have h2 : c2 = (((bys l).take (k + 1)).count s.data.toList : Int) := by simpa using h1.symm
          rw [h2, HT.out, List.count_append, List.count_singleton_self]
          omega
        have HC3 := Aside0.mk hc2
        by_cases hm : s.data.toList ∈ (bys l).take k
        · have hpos := List.count_pos_iff.2 hm
          have hgt : (1 : Int) < c2 := by omega
          have hfin : unl (bys l) = false := by rw [← hul.out, HL.out, if_pos ⟨he, hm⟩]
          have HF := Aside0.mk hfin
          clear hc2 he hm hpos hat2 hfin
          go_wp2
          go_ret
          rw [HF.out]
          exact ⟨rfl, HN.out⟩
        · have hzero := List.count_eq_zero_of_not_mem hm
          have hgt : ¬ (1 : Int) < c2 := by omega
          have hgt2 : c2 ≤ 1 := by omega
          have hstep : unlFrom ((bys l).take (k + 1)) ((bys l).drop (k + 1)) = unl (bys l) := by rw [← hul.out, HL.out, if_neg (fun h => hm h.2)]
          have HST := Aside0.mk hstep
          clear hc2 he hm hzero hat2 hstep
          go_wp2
          go_roundw
          case rel => exact ⟨k + 1, _, by omega, by go_num, hown1, HC2, HN.out, HST⟩
          case measure => simp [intOf]; omega
    · have hfin : unl (bys l) = true := by
        rw [← hul.out, List.drop_eq_nil_of_le (by simp [bys]; omega)]; rfl
      have HF := Aside0.mk hfin
      clear hfin
      go_wp2
      go_ret
      rw [HF.out]
      exact ⟨rfl, hnx⟩

theorem name_Unlike.calls (A0 : Option Addr) (c0 : Nat) (l0 : List ByteArray) (r : Bool) (w : World) (hr0 : Kd.C Kd.string w A0 l0.length l0) (hc0 : l0.length ≤ c0) (h : name_Unlike.f l0 = some r) :
    Calls Tryd.prog 36 #[.slice A0 l0.length c0] w fun e w' => e = .returned (.bool r) ∧ Below w.heap.size w w' := by
  unfold name_Unlike.f at h
  split at h
  · rename_i hs
    obtain rfl := Option.some.inj h
    exact unlike_walk A0 c0 l0 w hr0 hs.1 hs.2
  · cases h
/-- The same, the length told otherwise. -/
theorem name_Unlike.calls_len (A0 : Option Addr) (c0 : Nat) (l0 : List ByteArray) (r : Bool) (w : World) (n : Nat) (hn : l0.length = n) (hr0 : Kd.C Kd.string w A0 l0.length l0) (hc0 : l0.length ≤ c0) (h : name_Unlike.f l0 = some r) :
    Calls Tryd.prog 36 #[.slice A0 n c0] w fun e w' => e = .returned (.bool r) ∧ Below w.heap.size w w' := by
  subst hn
  exact name_Unlike.calls A0 c0 l0 r w hr0 hc0 h
end Go.Proofs.YtmddkjmcbddhiaaDoor.P
