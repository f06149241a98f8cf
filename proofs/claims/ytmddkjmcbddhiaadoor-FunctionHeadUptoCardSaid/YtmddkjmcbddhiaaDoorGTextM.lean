/-
  The walk of header.Text: the text of a right header, and no text of another one. Condition: all its texts together have fewer than 2^47 bytes.
-/
import Derived.Test.YtmddkjmcbddhiaaDoorHdM
import Derived.Test.YtmddkjmcbddhiaaDoorGLibM
namespace Go.Proofs.YtmddkjmcbddhiaaDoor.P
open Go.RowKit Go.Proofs.YtmddkjmcbddhiaaDoorW.PrintWords Go.Proofs.YtmddkjmcbddhiaaDoor.Sp
set_option linter.unusedVariables false
set_option linter.unusedSimpArgs false

abbrev Buf (B b : Nat) (acc : List UInt8) (w : World) : Prop := Lib.IsBuilder 51 5 B b (Lib.byteCells acc) w

set_option maxHeartbeats 1000000 in
set_option maxRecDepth 100000 in
theorem put_walk (B b : Nat) (acc : List UInt8) (s t : ByteArray) (w : World) (h : Aside0 (Buf B b acc w)) (hlen : acc.length + s.size + t.size ≤ 140737488355328) (hBw : B ≤ w.heap.size) :
    Calls Tryd.prog 67 #[.string s, .string t, .pointer (some ⟨b, 0, none⟩)] w fun e w' => e = .returned (.tuple #[]) ∧ (Aside0 (Buf B b (acc ++ putS s.data.toList t.data.toList) w') ∧ Below B w w') := by
  by_cases h0 : s.data.toList = []
  · have h1 : s.toList = [] := by rw [ByteArray.toList_eq]; exact h0
    have h2 : (!s.toList.isEmpty) = false := by rw [h1]; rfl
    have HP : Aside0 (acc ++ putS s.data.toList t.data.toList = acc) := ⟨by rw [h0]; simp [putS]⟩
    clear h0 h1
    go_enter Tryd.func67, Tryd.ntmps67
    go_wp2
    go_end0
    rw [HP.out]
    exact ⟨rfl, h, Below.refl _ _⟩
  · have h1 : ¬ s.toList = [] := by rw [ByteArray.toList_eq]; exact h0
    have h2 : (!s.toList.isEmpty) = true := by simpa using h1
    have HP : Aside0 (Lib.byteCells (acc ++ putS s.data.toList t.data.toList) = Lib.byteCells acc ++ Lib.strCells (s ++ t)) := ⟨by
      rw [Lib.strCells_eq, append_data, ← Lib.byteCells_append]
      unfold putS
      rw [if_neg h0]⟩
    have hsz : (9223372036854775807 < s.size + t.size) = False := eq_false (by omega)
    have hl2 : (Lib.byteCells acc).length + (s ++ t).size ≤ 140737488355328 := by rw [Lib.byteCells_length, ByteArray.size_append]; omega
    have HL := Aside0.mk hl2
    clear h0 h1 hl2
    go_enter Tryd.func67, Tryd.ntmps67
    go_wp2_with (first | (go_at_call 40; (with_reducible refine (writeString_walk B b _ _ _ h.out HL.out hBw).mono ?_); rintro e w' ⟨rfl, hb1, hb2⟩; replace hb1 := Aside0.mk hb1))
    go_end0
    refine ⟨rfl, ⟨?_⟩, hb2⟩
    show Lib.IsBuilder _ _ _ _ (Lib.byteCells _) _
    rw [HP.out]
    exact hb1.out

theorem put_len {B b : Nat} {acc : List UInt8} {s t : ByteArray} {w : World} {n : Nat} (_ : Aside0 (Buf B b (acc ++ putS s.data.toList t.data.toList) w)) (h : acc.length ≤ n) : (acc ++ putS s.data.toList t.data.toList).length ≤ n + s.size + t.size := by
  have h1 := length_data s
  have h2 := length_data t
  unfold putS
  split <;> simp <;> omega
theorem sz_gets : (⟨#[226, 134, 144]⟩ : ByteArray).size = 3 := rfl
theorem sz_none : (⟨#[]⟩ : ByteArray).size = 0 := rfl
theorem sz_gap : (⟨#[32]⟩ : ByteArray).size = 1 := rfl
theorem sz_open : (⟨#[40]⟩ : ByteArray).size = 1 := rfl
theorem sz_end : (⟨#[41]⟩ : ByteArray).size = 1 := rfl
theorem sz_local : (⟨#[59]⟩ : ByteArray).size = 1 := rfl

def header_Text.f (a0_0 a0_1 a0_2 a0_3 a0_4 a0_5 : ByteArray) (l0_6 : List ByteArray) : Option ByteArray :=
  if a0_0.size + a0_1.size + a0_2.size + a0_3.size + a0_4.size + a0_5.size + lsum l0_6 + 20 ≤ 140737488355328 ∧ l0_6.length + 6 < 8796093022208 then
    (if hdrOk a0_0.data.toList a0_1.data.toList a0_2.data.toList a0_3.data.toList a0_4.data.toList a0_5.data.toList (bys l0_6) = true then
      some ⟨(hdrText a0_0.data.toList a0_1.data.toList a0_2.data.toList a0_3.data.toList a0_4.data.toList a0_5.data.toList (bys l0_6)).toArray⟩
    else some ⟨#[]⟩)
  else none
/-- A header's text ahead of its locals. -/
def hdrPre (r lf nm rt f g : List UInt8) : List UInt8 :=
  putS r [226, 134, 144] ++ putS lf [32] ++ (if f = [] then nm else 40 :: f ++ 32 :: nm ++ (if g = [] then [] else 32 :: g) ++ [41]) ++ (if rt = [] then [] else 32 :: rt)
theorem hdrText_pre (r lf nm rt f g : List UInt8) (ls : List (List UInt8)) : hdrText r lf nm rt f g ls = hdrPre r lf nm rt f g ++ ls.flatMap (fun s => 59 :: s) := rfl
theorem putS_nil (s : List UInt8) : putS s [] = s := by
  unfold putS
  split
  · rename_i h; exact h.symm
  · simp
theorem hdrPre_len (r lf nm rt f g : List UInt8) : (hdrPre r lf nm rt f g).length ≤ r.length + lf.length + nm.length + rt.length + f.length + g.length + 20 := by
  unfold hdrPre putS
  repeat' split
  all_goals simp <;> omega

theorem flat_step (pre : List UInt8) {l : List ByteArray} {k : Nat} {s : ByteArray} (hx : l[k]? = some s) :
    pre ++ ((bys l).take (k + 1)).flatMap (fun s => 59 :: s) = pre ++ ((bys l).take k).flatMap (fun s => 59 :: s) ++ putS ((⟨#[59]⟩ : ByteArray) ++ s).data.toList (⟨#[]⟩ : ByteArray).data.toList := by
  have h1 : (bys l)[k]? = some s.data.toList := by simp [bys, List.getElem?_map, hx]
  rw [List.take_add_one, h1, append_data]
  have h2 : putS ((⟨#[59]⟩ : ByteArray).data.toList ++ s.data.toList) (⟨#[]⟩ : ByteArray).data.toList = 59 :: s.data.toList := by simp [putS]
  rw [h2]
  simp [List.flatMap_append]
theorem flat_sum : ∀ (l : List ByteArray) (k : Nat) (s : ByteArray), l[k]? = some s → (((bys l).take k).flatMap (fun s => (59 : UInt8) :: s)).length + (s.size + 1) ≤ lsum l
  | [], k, s, h => by simp at h
  | a :: t, 0, s, h => by
    have e : a = s := by simpa using h
    subst e
    simp [bys, lsum]
  | a :: t, k + 1, s, h => by
    have h1 := flat_sum t k s (by simpa using h)
    have h2 := length_data a
    simp only [bys, List.map_cons, List.take_succ_cons, List.flatMap_cons, List.length_append, List.length_cons, lsum, List.sum_cons] at h1 ⊢
    omega
theorem flat_len {pre : List UInt8} {l : List ByteArray} {k : Nat} {s : ByteArray} (hx : l[k]? = some s) (h : pre.length + lsum l ≤ 140737488355328) :
    (pre ++ ((bys l).take k).flatMap (fun s => (59 : UInt8) :: s)).length + (s.size + 1) ≤ 140737488355328 := by
  have h1 := flat_sum l k s hx
  rw [List.length_append]
  omega

set_option maxHeartbeats 4000000 in
set_option maxRecDepth 100000 in
theorem text_no (a b0 c d e f : ByteArray) (A : Option Addr) (cp : Nat) (l : List ByteArray) (w : World) (hr : Kd.C Kd.string w A l.length l) (hc : l.length ≤ cp) (hz : HSized a b0 c d e f l)
    (hok : hdrOk a.data.toList b0.data.toList c.data.toList d.data.toList e.data.toList f.data.toList (bys l) = false) :
    Calls Tryd.prog 38 #[.agg #[.string a, .string b0, .string c, .string d, .string e, .string f, .slice A l.length cp]] w fun en w' => en = .returned (.string ⟨#[]⟩) ∧ Below w.heap.size w w' := by
  obtain ⟨k, hk⟩ := (header_Right_ev a b0 c d e f l hz).rounds
  rw [hok] at hk
  have HK := Aside0.mk hk
  have HR := Aside0.mk hr
  have hu := Tryd.underlying42
  clear hk hok hr hz
  go_enter Tryd.func38, Tryd.ntmps38
  go_wp2_with (first | (go_at_call 39; (with_reducible refine (header_Right.calls k _ _ _ _ _ _ _ _ l false _ ?h1 hc HK.out).mono ?_); (case h1 => exact Kd.C_below HR.out ((Below.refl _ _).alloc (Nat.le_refl _) _)); rintro en w1 ⟨rfl, hb1⟩; replace hb1 := Aside0.mk hb1))
  go_ret
  exact ⟨rfl, ((Below.refl _ w).alloc (Nat.le_refl _) _).trans (hb1.out.mono (by simp))⟩

set_option maxHeartbeats 4000000 in
set_option maxRecDepth 100000 in
theorem text_ok (a b0 c d e f : ByteArray) (A : Option Addr) (cp : Nat) (l : List ByteArray) (w : World) (hr : Kd.C Kd.string w A l.length l) (hc : l.length ≤ cp) (hz : HSized a b0 c d e f l)
    (hok : hdrOk a.data.toList b0.data.toList c.data.toList d.data.toList e.data.toList f.data.toList (bys l) = true) :
    Calls Tryd.prog 38 #[.agg #[.string a, .string b0, .string c, .string d, .string e, .string f, .slice A l.length cp]] w fun en w' =>
      en = .returned (.string ⟨(hdrText a.data.toList b0.data.toList c.data.toList d.data.toList e.data.toList f.data.toList (bys l)).toArray⟩) ∧ Below w.heap.size w w' := by
  have hsum := hz.sum
  have hln := hz.len
  obtain ⟨k, hk⟩ := (header_Right_ev a b0 c d e f l hz).rounds
  rw [hok] at hk
  have HK := Aside0.mk hk
  have HR := Aside0.mk hr
  have hu := Tryd.underlying42
  clear hk hok hr hz
  go_enter Tryd.func38, Tryd.ntmps38
  go_upto_region 5 with (first | (go_at_call 39; (with_reducible refine (header_Right.calls k _ _ _ _ _ _ _ _ l true _ ?h1 hc HK.out).mono ?_); (case h1 => exact Kd.C_below HR.out ((Below.refl _ _).alloc (Nat.le_refl _) _)); rintro en w1 ⟨rfl, hb1⟩; replace hb1 := Aside0.mk hb1))
  obtain ⟨b, hbe⟩ : ∃ b, b = w1.heap.size := ⟨_, rfl⟩
  obtain ⟨W, hWe⟩ : ∃ W, W = w1.alloc (.cells #[.pointer none, .slice none 0 0] 51) := ⟨_, rfl⟩
  have HI : Aside0 (Buf b b [] W) := ⟨by rw [hWe, hbe]; exact Lib.fresh_isBuilder _ _ w1⟩
  have HLE : Aside0 (w.heap.size ≤ b) := ⟨by have := hb1.out.size; simp at this; omega⟩
  obtain ⟨gh, hge⟩ : ∃ gh, gh = w.heap.size := ⟨_, rfl⟩
  have hgh : gh < b := by have := hb1.out.size; simp at this; omega
  have HG : Aside0 (W.heap[gh]? = some (.cells #[.string a, .string b0, .string c, .string d, .string e, .string f, .slice A l.length cp] 42 (0, 0))) := ⟨by
    have h1 : w1.heap[gh]? = some (.cells #[.string a, .string b0, .string c, .string d, .string e, .string f, .slice A l.length cp] 42 (0, 0)) := (hb1.out.block gh (by rw [hge]; simp)).trans (by rw [hge]; exact heap_alloc_new w _)
    rw [hWe]
    exact (Below.heap_alloc w1 _ gh (by rw [← hbe]; exact hgh)).trans h1⟩
  have HB : Aside0 (Below w.heap.size w W) := ⟨by
    rw [hWe]
    have h1 : Below w.heap.size w w1 := ((Below.refl _ w).alloc (Nat.le_refl _) _).trans (hb1.out.mono (by simp))
    exact h1.alloc (by omega) _⟩
  have hbs : b ≤ W.heap.size := by rw [hWe, hbe]; simp
  have hN : Aside0 (([] : List UInt8).length ≤ 0) := ⟨Nat.le_refl _⟩
  rw [← hWe, ← hbe, ← hge]
  have hc0 := (blk_cell HG.out 0).trans rfl
  have hc1 := (blk_cell HG.out 1).trans rfl
  have hc2 := (blk_cell HG.out 2).trans rfl
  have hc3 := (blk_cell HG.out 3).trans rfl
  have hc4 := (blk_cell HG.out 4).trans rfl
  have hc5 := (blk_cell HG.out 5).trans rfl
  have hc6 := (blk_cell HG.out 6).trans rfl
  have HGE := Aside0.mk hge
  clear hWe hbe hb1 hge
  by_cases he0 : e.data.toList = []
  · have hE1 : (e.toList == ([] : List UInt8)) = true := by rw [ByteArray.toList_eq, he0]; rfl
    have hE2 : e.toList.isEmpty = true := by rw [ByteArray.toList_eq, he0]; rfl
    have hE3 : (!e.toList.isEmpty) = false := by rw [hE2]; rfl
    have HE := Aside0.mk he0
    clear he0
    by_cases hd0 : d.data.toList = []
    · have hD1 : (d.toList == ([] : List UInt8)) = true := by rw [ByteArray.toList_eq, hd0]; rfl
      have hD2 : d.toList.isEmpty = true := by rw [ByteArray.toList_eq, hd0]; rfl
      have hD3 : (!d.toList.isEmpty) = false := by rw [hD2]; rfl
      have HD := Aside0.mk hd0
      clear hd0
      go_wp2_with (first | (go_at_call 67; (with_reducible refine (put_walk b b _ _ _ _ HI ?hlen hbs).mono ?_); (case hlen => (have hN1 := hN.out); (simp only [ByteArray.size_append, sz_gets, sz_none, sz_gap, sz_open, sz_end, sz_local] at hN1 ⊢); omega); rintro en w9 ⟨rfl, hI9, hb9⟩; replace HG := Aside0.mk ((hb9.block gh hgh).trans HG.out); replace HB := Aside0.mk (HB.out.trans (hb9.mono HLE.out)); replace hbs := Nat.le_trans hbs hb9.size; replace hN := Aside0.mk (put_len hI9 hN.out); replace HI := hI9; clear hI9 hb9; have hc0 := (blk_cell HG.out 0).trans rfl; have hc1 := (blk_cell HG.out 1).trans rfl; have hc2 := (blk_cell HG.out 2).trans rfl; have hc3 := (blk_cell HG.out 3).trans rfl; have hc4 := (blk_cell HG.out 4).trans rfl; have hc5 := (blk_cell HG.out 5).trans rfl; have hc6 := (blk_cell HG.out 6).trans rfl))
      have HP : Aside0 (hdrPre a.data.toList b0.data.toList c.data.toList d.data.toList e.data.toList f.data.toList = [] ++ putS a.data.toList (⟨#[226, 134, 144]⟩ : ByteArray).data.toList ++ putS b0.data.toList (⟨#[32]⟩ : ByteArray).data.toList ++ putS c.data.toList (⟨#[]⟩ : ByteArray).data.toList) := ⟨by
        have q1 := HE.out
        have q2 := HD.out
        simp [hdrPre, putS, q1, q2, append_data]⟩
      rw [← HP.out] at HI
      clear HP hN
      go_loopw [56] (fun i wr => ∃ k : Nat, k ≤ l.length ∧ i = .int .i64 k ∧ Aside0 (Buf b b (hdrPre a.data.toList b0.data.toList c.data.toList d.data.toList e.data.toList f.data.toList ++ ((bys l).take k).flatMap (fun s => 59 :: s)) wr) ∧ Aside0 (wr.heap[gh]? = some (.cells #[.string a, .string b0, .string c, .string d, .string e, .string f, .slice A l.length cp] 42 (0, 0))) ∧ Aside0 (Below w.heap.size w wr) ∧ Aside0 (b ≤ wr.heap.size)) (fun i _ => l.length - (intOf i).toNat)
      case atStart => exact ⟨0, Nat.zero_le _, rfl, ⟨by simpa using HI.out⟩, HG, HB, ⟨hbs⟩⟩
      case round =>
        clear HI HG HB hbs hc0 hc1 hc2 hc3 hc4 hc5 hc6
        obtain ⟨k, hkl, rfl, HI, HG, HB, HBS⟩ := hrel
        have hbs := HBS.out
        by_cases hlt : k < l.length
        · obtain ⟨ad, s, rfl, hx, hcs⟩ := strs_cell (Kd.C_below HR.out HB.out) hlt
          have HT : Aside0 (hdrPre a.data.toList b0.data.toList c.data.toList d.data.toList e.data.toList f.data.toList ++ ((bys l).take (k + 1)).flatMap (fun s => 59 :: s) = hdrPre a.data.toList b0.data.toList c.data.toList d.data.toList e.data.toList f.data.toList ++ ((bys l).take k).flatMap (fun s => 59 :: s) ++ putS ((⟨#[59]⟩ : ByteArray) ++ s).data.toList (⟨#[]⟩ : ByteArray).data.toList) := ⟨flat_step _ hx⟩
          have HN : Aside0 ((hdrPre a.data.toList b0.data.toList c.data.toList d.data.toList e.data.toList f.data.toList ++ ((bys l).take k).flatMap (fun s => 59 :: s)).length + (s.size + 1) ≤ 140737488355328) := ⟨flat_len hx (by have := hdrPre_len a.data.toList b0.data.toList c.data.toList d.data.toList e.data.toList f.data.toList; simp only [length_data] at this; omega)⟩
          have hs1 : (9223372036854775807 < 1 + s.size) = False := eq_false (by have := HN.out; omega)
          clear hx
          go_wp2_with (first | (go_at_call 67; (with_reducible refine (put_walk b b _ _ _ _ HI ?hlen hbs).mono ?_); (case hlen => (have hN1 := HN.out); (simp only [ByteArray.size_append, sz_none, sz_local] at hN1 ⊢); omega); rintro en w9 ⟨rfl, hI9, hb9⟩; replace HG := Aside0.mk ((hb9.block gh hgh).trans HG.out); replace HB := Aside0.mk (HB.out.trans (hb9.mono HLE.out)); replace HBS := Aside0.mk (Nat.le_trans hbs hb9.size)))
          rw [← HT.out] at hI9
          go_roundw
          case rel => exact ⟨k + 1, by omega, by go_num, hI9, HG, HB, HBS⟩
          case measure => simp [intOf]; omega
        · have hkk : k = l.length := by omega
          have HT : Aside0 (hdrPre a.data.toList b0.data.toList c.data.toList d.data.toList e.data.toList f.data.toList ++ ((bys l).take k).flatMap (fun s => 59 :: s) = hdrText a.data.toList b0.data.toList c.data.toList d.data.toList e.data.toList f.data.toList (bys l)) := ⟨by rw [hkk, List.take_of_length_le (by simp [bys]), hdrText_pre]⟩
          rw [HT.out] at HI
          clear hkk
          go_wp2_with (first | (go_at_call 43; (with_reducible refine (Tryd.Builder_String_any b b _ _ HI.out hbs).mono ?_); rintro en w9 ⟨rfl, hb9⟩; replace hb9 := Aside0.mk hb9))
          go_ret
          exact ⟨rfl, HB.out.trans (hb9.out.mono HLE.out)⟩
    · have hD1 : (d.toList == ([] : List UInt8)) = false := by rw [ByteArray.toList_eq]; simpa using hd0
      have hD2 : d.toList.isEmpty = false := by rw [ByteArray.toList_eq]; cases hq : d.data.toList <;> simp_all
      have hD3 : (!d.toList.isEmpty) = true := by rw [hD2]; rfl
      have HD := Aside0.mk hd0
      clear hd0
      go_wp2_with (first | (go_at_call 67; (with_reducible refine (put_walk b b _ _ _ _ HI ?hlen hbs).mono ?_); (case hlen => (have hN1 := hN.out); (simp only [ByteArray.size_append, sz_gets, sz_none, sz_gap, sz_open, sz_end, sz_local] at hN1 ⊢); omega); rintro en w9 ⟨rfl, hI9, hb9⟩; replace HG := Aside0.mk ((hb9.block gh hgh).trans HG.out); replace HB := Aside0.mk (HB.out.trans (hb9.mono HLE.out)); replace hbs := Nat.le_trans hbs hb9.size; replace hN := Aside0.mk (put_len hI9 hN.out); replace HI := hI9; clear hI9 hb9; have hc0 := (blk_cell HG.out 0).trans rfl; have hc1 := (blk_cell HG.out 1).trans rfl; have hc2 := (blk_cell HG.out 2).trans rfl; have hc3 := (blk_cell HG.out 3).trans rfl; have hc4 := (blk_cell HG.out 4).trans rfl; have hc5 := (blk_cell HG.out 5).trans rfl; have hc6 := (blk_cell HG.out 6).trans rfl))
      have HP : Aside0 (hdrPre a.data.toList b0.data.toList c.data.toList d.data.toList e.data.toList f.data.toList = [] ++ putS a.data.toList (⟨#[226, 134, 144]⟩ : ByteArray).data.toList ++ putS b0.data.toList (⟨#[32]⟩ : ByteArray).data.toList ++ putS c.data.toList (⟨#[]⟩ : ByteArray).data.toList ++ putS ((⟨#[32]⟩ : ByteArray) ++ d).data.toList (⟨#[]⟩ : ByteArray).data.toList) := ⟨by
        have q1 := HE.out
        have q2 := HD.out
        simp [hdrPre, putS, q1, q2, append_data]⟩
      rw [← HP.out] at HI
      clear HP hN
      go_loopw [56] (fun i wr => ∃ k : Nat, k ≤ l.length ∧ i = .int .i64 k ∧ Aside0 (Buf b b (hdrPre a.data.toList b0.data.toList c.data.toList d.data.toList e.data.toList f.data.toList ++ ((bys l).take k).flatMap (fun s => 59 :: s)) wr) ∧ Aside0 (wr.heap[gh]? = some (.cells #[.string a, .string b0, .string c, .string d, .string e, .string f, .slice A l.length cp] 42 (0, 0))) ∧ Aside0 (Below w.heap.size w wr) ∧ Aside0 (b ≤ wr.heap.size)) (fun i _ => l.length - (intOf i).toNat)
      case atStart => exact ⟨0, Nat.zero_le _, rfl, ⟨by simpa using HI.out⟩, HG, HB, ⟨hbs⟩⟩
      case round =>
        clear HI HG HB hbs hc0 hc1 hc2 hc3 hc4 hc5 hc6
        obtain ⟨k, hkl, rfl, HI, HG, HB, HBS⟩ := hrel
        have hbs := HBS.out
        by_cases hlt : k < l.length
        · obtain ⟨ad, s, rfl, hx, hcs⟩ := strs_cell (Kd.C_below HR.out HB.out) hlt
          have HT : Aside0 (hdrPre a.data.toList b0.data.toList c.data.toList d.data.toList e.data.toList f.data.toList ++ ((bys l).take (k + 1)).flatMap (fun s => 59 :: s) = hdrPre a.data.toList b0.data.toList c.data.toList d.data.toList e.data.toList f.data.toList ++ ((bys l).take k).flatMap (fun s => 59 :: s) ++ putS ((⟨#[59]⟩ : ByteArray) ++ s).data.toList (⟨#[]⟩ : ByteArray).data.toList) := ⟨flat_step _ hx⟩
          have HN : Aside0 ((hdrPre a.data.toList b0.data.toList c.data.toList d.data.toList e.data.toList f.data.toList ++ ((bys l).take k).flatMap (fun s => 59 :: s)).length + (s.size + 1) ≤ 140737488355328) := ⟨flat_len hx (by have := hdrPre_len a.data.toList b0.data.toList c.data.toList d.data.toList e.data.toList f.data.toList; simp only [length_data] at this; omega)⟩
          have hs1 : (9223372036854775807 < 1 + s.size) = False := eq_false (by have := HN.out; omega)
          clear hx
          go_wp2_with (first | (go_at_call 67; (with_reducible refine (put_walk b b _ _ _ _ HI ?hlen hbs).mono ?_); (case hlen => (have hN1 := HN.out); (simp only [ByteArray.size_append, sz_none, sz_local] at hN1 ⊢); omega); rintro en w9 ⟨rfl, hI9, hb9⟩; replace HG := Aside0.mk ((hb9.block gh hgh).trans HG.out); replace HB := Aside0.mk (HB.out.trans (hb9.mono HLE.out)); replace HBS := Aside0.mk (Nat.le_trans hbs hb9.size)))
          rw [← HT.out] at hI9
          go_roundw
          case rel => exact ⟨k + 1, by omega, by go_num, hI9, HG, HB, HBS⟩
          case measure => simp [intOf]; omega
        · have hkk : k = l.length := by omega
          have HT : Aside0 (hdrPre a.data.toList b0.data.toList c.data.toList d.data.toList e.data.toList f.data.toList ++ ((bys l).take k).flatMap (fun s => 59 :: s) = hdrText a.data.toList b0.data.toList c.data.toList d.data.toList e.data.toList f.data.toList (bys l)) := ⟨by rw [hkk, List.take_of_length_le (by simp [bys]), hdrText_pre]⟩
          rw [HT.out] at HI
          clear hkk
          go_wp2_with (first | (go_at_call 43; (with_reducible refine (Tryd.Builder_String_any b b _ _ HI.out hbs).mono ?_); rintro en w9 ⟨rfl, hb9⟩; replace hb9 := Aside0.mk hb9))
          go_ret
          exact ⟨rfl, HB.out.trans (hb9.out.mono HLE.out)⟩
  · have hE1 : (e.toList == ([] : List UInt8)) = false := by rw [ByteArray.toList_eq]; simpa using he0
    have hE2 : e.toList.isEmpty = false := by rw [ByteArray.toList_eq]; cases hq : e.data.toList <;> simp_all
    have hE3 : (!e.toList.isEmpty) = true := by rw [hE2]; rfl
    have HE := Aside0.mk he0
    clear he0
    by_cases hf0 : f.data.toList = []
    · have hF1 : (f.toList == ([] : List UInt8)) = true := by rw [ByteArray.toList_eq, hf0]; rfl
      have hF2 : f.toList.isEmpty = true := by rw [ByteArray.toList_eq, hf0]; rfl
      have hF3 : (!f.toList.isEmpty) = false := by rw [hF2]; rfl
      have HF := Aside0.mk hf0
      clear hf0
      by_cases hd0 : d.data.toList = []
      · have hD1 : (d.toList == ([] : List UInt8)) = true := by rw [ByteArray.toList_eq, hd0]; rfl
        have hD2 : d.toList.isEmpty = true := by rw [ByteArray.toList_eq, hd0]; rfl
        have hD3 : (!d.toList.isEmpty) = false := by rw [hD2]; rfl
        have HD := Aside0.mk hd0
        clear hd0
        go_wp2_with (first | (go_at_call 67; (with_reducible refine (put_walk b b _ _ _ _ HI ?hlen hbs).mono ?_); (case hlen => (have hN1 := hN.out); (simp only [ByteArray.size_append, sz_gets, sz_none, sz_gap, sz_open, sz_end, sz_local] at hN1 ⊢); omega); rintro en w9 ⟨rfl, hI9, hb9⟩; replace HG := Aside0.mk ((hb9.block gh hgh).trans HG.out); replace HB := Aside0.mk (HB.out.trans (hb9.mono HLE.out)); replace hbs := Nat.le_trans hbs hb9.size; replace hN := Aside0.mk (put_len hI9 hN.out); replace HI := hI9; clear hI9 hb9; have hc0 := (blk_cell HG.out 0).trans rfl; have hc1 := (blk_cell HG.out 1).trans rfl; have hc2 := (blk_cell HG.out 2).trans rfl; have hc3 := (blk_cell HG.out 3).trans rfl; have hc4 := (blk_cell HG.out 4).trans rfl; have hc5 := (blk_cell HG.out 5).trans rfl; have hc6 := (blk_cell HG.out 6).trans rfl))
        have HP : Aside0 (hdrPre a.data.toList b0.data.toList c.data.toList d.data.toList e.data.toList f.data.toList = [] ++ putS a.data.toList (⟨#[226, 134, 144]⟩ : ByteArray).data.toList ++ putS b0.data.toList (⟨#[32]⟩ : ByteArray).data.toList ++ putS ((⟨#[40]⟩ : ByteArray) ++ e).data.toList (⟨#[32]⟩ : ByteArray).data.toList ++ putS c.data.toList (⟨#[]⟩ : ByteArray).data.toList ++ putS (⟨#[41]⟩ : ByteArray).data.toList (⟨#[]⟩ : ByteArray).data.toList) := ⟨by
          have q1 := HE.out
          have q2 := HD.out
          have q3 := HF.out
          simp [hdrPre, putS, q1, q2, append_data, q3]⟩
        rw [← HP.out] at HI
        clear HP hN
        go_loopw [56] (fun i wr => ∃ k : Nat, k ≤ l.length ∧ i = .int .i64 k ∧ Aside0 (Buf b b (hdrPre a.data.toList b0.data.toList c.data.toList d.data.toList e.data.toList f.data.toList ++ ((bys l).take k).flatMap (fun s => 59 :: s)) wr) ∧ Aside0 (wr.heap[gh]? = some (.cells #[.string a, .string b0, .string c, .string d, .string e, .string f, .slice A l.length cp] 42 (0, 0))) ∧ Aside0 (Below w.heap.size w wr) ∧ Aside0 (b ≤ wr.heap.size)) (fun i _ => l.length - (intOf i).toNat)
        case atStart => exact ⟨0, Nat.zero_le _, rfl, ⟨by simpa using HI.out⟩, HG, HB, ⟨hbs⟩⟩
        case round =>
          clear HI HG HB hbs hc0 hc1 hc2 hc3 hc4 hc5 hc6
          obtain ⟨k, hkl, rfl, HI, HG, HB, HBS⟩ := hrel
          have hbs := HBS.out
          by_cases hlt : k < l.length
          · obtain ⟨ad, s, rfl, hx, hcs⟩ := strs_cell (Kd.C_below HR.out HB.out) hlt
            have HT : Aside0 (hdrPre a.data.toList b0.data.toList c.data.toList d.data.toList e.data.toList f.data.toList ++ ((bys l).take (k + 1)).flatMap (fun s => 59 :: s) = hdrPre a.data.toList b0.data.toList c.data.toList d.data.toList e.data.toList f.data.toList ++ ((bys l).take k).flatMap (fun s => 59 :: s) ++ putS ((⟨#[59]⟩ : ByteArray) ++ s).data.toList (⟨#[]⟩ : ByteArray).data.toList) := ⟨flat_step _ hx⟩
            have HN : Aside0 ((hdrPre a.data.toList b0.data.toList c.data.toList d.data.toList e.data.toList f.data.toList ++ ((bys l).take k).flatMap (fun s => 59 :: s)).length + (s.size + 1) ≤ 140737488355328) := ⟨flat_len hx (by have := hdrPre_len a.data.toList b0.data.toList c.data.toList d.data.toList e.data.toList f.data.toList; simp only [length_data] at this; omega)⟩
            have hs1 : (9223372036854775807 < 1 + s.size) = False := eq_false (by have := HN.out; omega)
            clear hx
            go_wp2_with (first | (go_at_call 67; (with_reducible refine (put_walk b b _ _ _ _ HI ?hlen hbs).mono ?_); (case hlen => (have hN1 := HN.out); (simp only [ByteArray.size_append, sz_none, sz_local] at hN1 ⊢); omega); rintro en w9 ⟨rfl, hI9, hb9⟩; replace HG := Aside0.mk ((hb9.block gh hgh).trans HG.out); replace HB := Aside0.mk (HB.out.trans (hb9.mono HLE.out)); replace HBS := Aside0.mk (Nat.le_trans hbs hb9.size)))
            rw [← HT.out] at hI9
            go_roundw
            case rel => exact ⟨k + 1, by omega, by go_num, hI9, HG, HB, HBS⟩
            case measure => simp [intOf]; omega
          · have hkk : k = l.length := by omega
            have HT : Aside0 (hdrPre a.data.toList b0.data.toList c.data.toList d.data.toList e.data.toList f.data.toList ++ ((bys l).take k).flatMap (fun s => 59 :: s) = hdrText a.data.toList b0.data.toList c.data.toList d.data.toList e.data.toList f.data.toList (bys l)) := ⟨by rw [hkk, List.take_of_length_le (by simp [bys]), hdrText_pre]⟩
            rw [HT.out] at HI
            clear hkk
            go_wp2_with (first | (go_at_call 43; (with_reducible refine (Tryd.Builder_String_any b b _ _ HI.out hbs).mono ?_); rintro en w9 ⟨rfl, hb9⟩; replace hb9 := Aside0.mk hb9))
            go_ret
            exact ⟨rfl, HB.out.trans (hb9.out.mono HLE.out)⟩
      · have hD1 : (d.toList == ([] : List UInt8)) = false := by rw [ByteArray.toList_eq]; simpa using hd0
        have hD2 : d.toList.isEmpty = false := by rw [ByteArray.toList_eq]; cases hq : d.data.toList <;> simp_all
        have hD3 : (!d.toList.isEmpty) = true := by rw [hD2]; rfl
        have HD := Aside0.mk hd0
        clear hd0
        go_wp2_with (first | (go_at_call 67; (with_reducible refine (put_walk b b _ _ _ _ HI ?hlen hbs).mono ?_); (case hlen => (have hN1 := hN.out); (simp only [ByteArray.size_append, sz_gets, sz_none, sz_gap, sz_open, sz_end, sz_local] at hN1 ⊢); omega); rintro en w9 ⟨rfl, hI9, hb9⟩; replace HG := Aside0.mk ((hb9.block gh hgh).trans HG.out); replace HB := Aside0.mk (HB.out.trans (hb9.mono HLE.out)); replace hbs := Nat.le_trans hbs hb9.size; replace hN := Aside0.mk (put_len hI9 hN.out); replace HI := hI9; clear hI9 hb9; have hc0 := (blk_cell HG.out 0).trans rfl; have hc1 := (blk_cell HG.out 1).trans rfl; have hc2 := (blk_cell HG.out 2).trans rfl; have hc3 := (blk_cell HG.out 3).trans rfl; have hc4 := (blk_cell HG.out 4).trans rfl; have hc5 := (blk_cell HG.out 5).trans rfl; have hc6 := (blk_cell HG.out 6).trans rfl))
        have HP : Aside0 (hdrPre a.data.toList b0.data.toList c.data.toList d.data.toList e.data.toList f.data.toList = [] ++ putS a.data.toList (⟨#[226, 134, 144]⟩ : ByteArray).data.toList ++ putS b0.data.toList (⟨#[32]⟩ : ByteArray).data.toList ++ putS ((⟨#[40]⟩ : ByteArray) ++ e).data.toList (⟨#[32]⟩ : ByteArray).data.toList ++ putS c.data.toList (⟨#[]⟩ : ByteArray).data.toList ++ putS (⟨#[41]⟩ : ByteArray).data.toList (⟨#[]⟩ : ByteArray).data.toList ++ putS ((⟨#[32]⟩ : ByteArray) ++ d).data.toList (⟨#[]⟩ : ByteArray).data.toList) := ⟨by
          have q1 := HE.out
          have q2 := HD.out
          have q3 := HF.out
          simp [hdrPre, putS, q1, q2, append_data, q3]⟩
        rw [← HP.out] at HI
        clear HP hN
        go_loopw [56] (fun i wr => ∃ k : Nat, k ≤ l.length ∧ i = .int .i64 k ∧ Aside0 (Buf b b (hdrPre a.data.toList b0.data.toList c.data.toList d.data.toList e.data.toList f.data.toList ++ ((bys l).take k).flatMap (fun s => 59 :: s)) wr) ∧ Aside0 (wr.heap[gh]? = some (.cells #[.string a, .string b0, .string c, .string d, .string e, .string f, .slice A l.length cp] 42 (0, 0))) ∧ Aside0 (Below w.heap.size w wr) ∧ Aside0 (b ≤ wr.heap.size)) (fun i _ => l.length - (intOf i).toNat)
        case atStart => exact ⟨0, Nat.zero_le _, rfl, ⟨by simpa using HI.out⟩, HG, HB, ⟨hbs⟩⟩
        case round =>
          clear HI HG HB hbs hc0 hc1 hc2 hc3 hc4 hc5 hc6
          obtain ⟨k, hkl, rfl, HI, HG, HB, HBS⟩ := hrel
          have hbs := HBS.out
          by_cases hlt : k < l.length
          · obtain ⟨ad, s, rfl, hx, hcs⟩ := strs_cell (Kd.C_below HR.out HB.out) hlt
            have HT : Aside0 (hdrPre a.data.toList b0.data.toList c.data.toList d.data.toList e.data.toList f.data.toList ++ ((bys l).take (k + 1)).flatMap (fun s => 59 :: s) = hdrPre a.data.toList b0.data.toList c.data.toList d.data.toList e.data.toList f.data.toList ++ ((bys l).take k).flatMap (fun s => 59 :: s) ++ putS ((⟨#[59]⟩ : ByteArray) ++ s).data.toList (⟨#[]⟩ : ByteArray).data.toList) := ⟨flat_step _ hx⟩
            have HN : Aside0 ((hdrPre a.data.toList b0.data.toList c.data.toList d.data.toList e.data.toList f.data.toList ++ ((bys l).take k).flatMap (fun s => 59 :: s)).length + (s.size + 1) ≤ 140737488355328) := ⟨flat_len hx (by have := hdrPre_len a.data.toList b0.data.toList c.data.toList d.data.toList e.data.toList f.data.toList; simp only [length_data] at this; omega)⟩
            have hs1 : (9223372036854775807 < 1 + s.size) = False := eq_false (by have := HN.out; omega)
            clear hx
            go_wp2_with (first | (go_at_call 67; (with_reducible refine (put_walk b b _ _ _ _ HI ?hlen hbs).mono ?_); (case hlen => (have hN1 := HN.out); (simp only [ByteArray.size_append, sz_none, sz_local] at hN1 ⊢); omega); rintro en w9 ⟨rfl, hI9, hb9⟩; replace HG := Aside0.mk ((hb9.block gh hgh).trans HG.out); replace HB := Aside0.mk (HB.out.trans (hb9.mono HLE.out)); replace HBS := Aside0.mk (Nat.le_trans hbs hb9.size)))
            rw [← HT.out] at hI9
            go_roundw
            case rel => exact ⟨k + 1, by omega, by go_num, hI9, HG, HB, HBS⟩
            case measure => simp [intOf]; omega
          · have hkk : k = l.length := by omega
            have HT : Aside0 (hdrPre a.data.toList b0.data.toList c.data.toList d.data.toList e.data.toList f.data.toList ++ ((bys l).take k).flatMap (fun s => 59 :: s) = hdrText a.data.toList b0.data.toList c.data.toList d.data.toList e.data.toList f.data.toList (bys l)) := ⟨by rw [hkk, List.take_of_length_le (by simp [bys]), hdrText_pre]⟩
            rw [HT.out] at HI
            clear hkk
            go_wp2_with (first | (go_at_call 43; (with_reducible refine (Tryd.Builder_String_any b b _ _ HI.out hbs).mono ?_); rintro en w9 ⟨rfl, hb9⟩; replace hb9 := Aside0.mk hb9))
            go_ret
            exact ⟨rfl, HB.out.trans (hb9.out.mono HLE.out)⟩
    · have hF1 : (f.toList == ([] : List UInt8)) = false := by rw [ByteArray.toList_eq]; simpa using hf0
      have hF2 : f.toList.isEmpty = false := by rw [ByteArray.toList_eq]; cases hq : f.data.toList <;> simp_all
      have hF3 : (!f.toList.isEmpty) = true := by rw [hF2]; rfl
      have HF := Aside0.mk hf0
      clear hf0
      by_cases hd0 : d.data.toList = []
      · have hD1 : (d.toList == ([] : List UInt8)) = true := by rw [ByteArray.toList_eq, hd0]; rfl
        have hD2 : d.toList.isEmpty = true := by rw [ByteArray.toList_eq, hd0]; rfl
        have hD3 : (!d.toList.isEmpty) = false := by rw [hD2]; rfl
        have HD := Aside0.mk hd0
        clear hd0
        go_wp2_with (first | (go_at_call 67; (with_reducible refine (put_walk b b _ _ _ _ HI ?hlen hbs).mono ?_); (case hlen => (have hN1 := hN.out); (simp only [ByteArray.size_append, sz_gets, sz_none, sz_gap, sz_open, sz_end, sz_local] at hN1 ⊢); omega); rintro en w9 ⟨rfl, hI9, hb9⟩; replace HG := Aside0.mk ((hb9.block gh hgh).trans HG.out); replace HB := Aside0.mk (HB.out.trans (hb9.mono HLE.out)); replace hbs := Nat.le_trans hbs hb9.size; replace hN := Aside0.mk (put_len hI9 hN.out); replace HI := hI9; clear hI9 hb9; have hc0 := (blk_cell HG.out 0).trans rfl; have hc1 := (blk_cell HG.out 1).trans rfl; have hc2 := (blk_cell HG.out 2).trans rfl; have hc3 := (blk_cell HG.out 3).trans rfl; have hc4 := (blk_cell HG.out 4).trans rfl; have hc5 := (blk_cell HG.out 5).trans rfl; have hc6 := (blk_cell HG.out 6).trans rfl))
        have HP : Aside0 (hdrPre a.data.toList b0.data.toList c.data.toList d.data.toList e.data.toList f.data.toList = [] ++ putS a.data.toList (⟨#[226, 134, 144]⟩ : ByteArray).data.toList ++ putS b0.data.toList (⟨#[32]⟩ : ByteArray).data.toList ++ putS ((⟨#[40]⟩ : ByteArray) ++ e).data.toList (⟨#[32]⟩ : ByteArray).data.toList ++ putS c.data.toList (⟨#[]⟩ : ByteArray).data.toList ++ putS ((⟨#[32]⟩ : ByteArray) ++ f).data.toList (⟨#[]⟩ : ByteArray).data.toList ++ putS (⟨#[41]⟩ : ByteArray).data.toList (⟨#[]⟩ : ByteArray).data.toList) := ⟨by
          have q1 := HE.out
          have q2 := HD.out
          have q3 := HF.out
          simp [hdrPre, putS, q1, q2, append_data, q3]⟩
        rw [← HP.out] at HI
        clear HP hN
        go_loopw [56] (fun i wr => ∃ k : Nat, k ≤ l.length ∧ i = .int .i64 k ∧ Aside0 (Buf b b (hdrPre a.data.toList b0.data.toList c.data.toList d.data.toList e.data.toList f.data.toList ++ ((bys l).take k).flatMap (fun s => 59 :: s)) wr) ∧ Aside0 (wr.heap[gh]? = some (.cells #[.string a, .string b0, .string c, .string d, .string e, .string f, .slice A l.length cp] 42 (0, 0))) ∧ Aside0 (Below w.heap.size w wr) ∧ Aside0 (b ≤ wr.heap.size)) (fun i _ => l.length - (intOf i).toNat)
        case atStart => exact ⟨0, Nat.zero_le _, rfl, ⟨by simpa using HI.out⟩, HG, HB, ⟨hbs⟩⟩
        case round =>
          clear HI HG HB hbs hc0 hc1 hc2 hc3 hc4 hc5 hc6
          obtain ⟨k, hkl, rfl, HI, HG, HB, HBS⟩ := hrel
          have hbs := HBS.out
          by_cases hlt : k < l.length
          · obtain ⟨ad, s, rfl, hx, hcs⟩ := strs_cell (Kd.C_below HR.out HB.out) hlt
            have HT : Aside0 (hdrPre a.data.toList b0.data.toList c.data.toList d.data.toList e.data.toList f.data.toList ++ ((bys l).take (k + 1)).flatMap (fun s => 59 :: s) = hdrPre a.data.toList b0.data.toList c.data.toList d.data.toList e.data.toList f.data.toList ++ ((bys l).take k).flatMap (fun s => 59 :: s) ++ putS ((⟨#[59]⟩ : ByteArray) ++ s).data.toList (⟨#[]⟩ : ByteArray).data.toList) := ⟨flat_step _ hx⟩
            have HN : Aside0 ((hdrPre a.data.toList b0.data.toList c.data.toList d.data.toList e.data.toList f.data.toList ++ ((bys l).take k).flatMap (fun s => 59 :: s)).length + (s.size + 1) ≤ 140737488355328) := ⟨flat_len hx (by have := hdrPre_len a.data.toList b0.data.toList c.data.toList d.data.toList e.data.toList f.data.toList; simp only [length_data] at this; omega)⟩
            have hs1 : (9223372036854775807 < 1 + s.size) = False := eq_false (by have := HN.out; omega)
            clear hx
            go_wp2_with (first | (go_at_call 67; (with_reducible refine (put_walk b b _ _ _ _ HI ?hlen hbs).mono ?_); (case hlen => (have hN1 := HN.out); (simp only [ByteArray.size_append, sz_none, sz_local] at hN1 ⊢); omega); rintro en w9 ⟨rfl, hI9, hb9⟩; replace HG := Aside0.mk ((hb9.block gh hgh).trans HG.out); replace HB := Aside0.mk (HB.out.trans (hb9.mono HLE.out)); replace HBS := Aside0.mk (Nat.le_trans hbs hb9.size)))
            rw [← HT.out] at hI9
            go_roundw
            case rel => exact ⟨k + 1, by omega, by go_num, hI9, HG, HB, HBS⟩
            case measure => simp [intOf]; omega
          · have hkk : k = l.length := by omega
            have HT : Aside0 (hdrPre a.data.toList b0.data.toList c.data.toList d.data.toList e.data.toList f.data.toList ++ ((bys l).take k).flatMap (fun s => 59 :: s) = hdrText a.data.toList b0.data.toList c.data.toList d.data.toList e.data.toList f.data.toList (bys l)) := ⟨by rw [hkk, List.take_of_length_le (by simp [bys]), hdrText_pre]⟩
            rw [HT.out] at HI
            clear hkk
            go_wp2_with (first | (go_at_call 43; (with_reducible refine (Tryd.Builder_String_any b b _ _ HI.out hbs).mono ?_); rintro en w9 ⟨rfl, hb9⟩; replace hb9 := Aside0.mk hb9))
            go_ret
            exact ⟨rfl, HB.out.trans (hb9.out.mono HLE.out)⟩
      · have hD1 : (d.toList == ([] : List UInt8)) = false := by rw [ByteArray.toList_eq]; simpa using hd0
        have hD2 : d.toList.isEmpty = false := by rw [ByteArray.toList_eq]; cases hq : d.data.toList <;> simp_all
        have hD3 : (!d.toList.isEmpty) = true := by rw [hD2]; rfl
        have HD := Aside0.mk hd0
        clear hd0
        go_wp2_with (first | (go_at_call 67; (with_reducible refine (put_walk b b _ _ _ _ HI ?hlen hbs).mono ?_); (case hlen => (have hN1 := hN.out); (simp only [ByteArray.size_append, sz_gets, sz_none, sz_gap, sz_open, sz_end, sz_local] at hN1 ⊢); omega); rintro en w9 ⟨rfl, hI9, hb9⟩; replace HG := Aside0.mk ((hb9.block gh hgh).trans HG.out); replace HB := Aside0.mk (HB.out.trans (hb9.mono HLE.out)); replace hbs := Nat.le_trans hbs hb9.size; replace hN := Aside0.mk (put_len hI9 hN.out); replace HI := hI9; clear hI9 hb9; have hc0 := (blk_cell HG.out 0).trans rfl; have hc1 := (blk_cell HG.out 1).trans rfl; have hc2 := (blk_cell HG.out 2).trans rfl; have hc3 := (blk_cell HG.out 3).trans rfl; have hc4 := (blk_cell HG.out 4).trans rfl; have hc5 := (blk_cell HG.out 5).trans rfl; have hc6 := (blk_cell HG.out 6).trans rfl))
        have HP : Aside0 (hdrPre a.data.toList b0.data.toList c.data.toList d.data.toList e.data.toList f.data.toList = [] ++ putS a.data.toList (⟨#[226, 134, 144]⟩ : ByteArray).data.toList ++ putS b0.data.toList (⟨#[32]⟩ : ByteArray).data.toList ++ putS ((⟨#[40]⟩ : ByteArray) ++ e).data.toList (⟨#[32]⟩ : ByteArray).data.toList ++ putS c.data.toList (⟨#[]⟩ : ByteArray).data.toList ++ putS ((⟨#[32]⟩ : ByteArray) ++ f).data.toList (⟨#[]⟩ : ByteArray).data.toList ++ putS (⟨#[41]⟩ : ByteArray).data.toList (⟨#[]⟩ : ByteArray).data.toList ++ putS ((⟨#[32]⟩ : ByteArray) ++ d).data.toList (⟨#[]⟩ : ByteArray).data.toList) := ⟨by
          have q1 := HE.out
          have q2 := HD.out
          have q3 := HF.out
          simp [hdrPre, putS, q1, q2, append_data, q3]⟩
        rw [← HP.out] at HI
        clear HP hN
        go_loopw [56] (fun i wr => ∃ k : Nat, k ≤ l.length ∧ i = .int .i64 k ∧ Aside0 (Buf b b (hdrPre a.data.toList b0.data.toList c.data.toList d.data.toList e.data.toList f.data.toList ++ ((bys l).take k).flatMap (fun s => 59 :: s)) wr) ∧ Aside0 (wr.heap[gh]? = some (.cells #[.string a, .string b0, .string c, .string d, .string e, .string f, .slice A l.length cp] 42 (0, 0))) ∧ Aside0 (Below w.heap.size w wr) ∧ Aside0 (b ≤ wr.heap.size)) (fun i _ => l.length - (intOf i).toNat)
        case atStart => exact ⟨0, Nat.zero_le _, rfl, ⟨by simpa using HI.out⟩, HG, HB, ⟨hbs⟩⟩
        case round =>
          clear HI HG HB hbs hc0 hc1 hc2 hc3 hc4 hc5 hc6
          obtain ⟨k, hkl, rfl, HI, HG, HB, HBS⟩ := hrel
          have hbs := HBS.out
          by_cases hlt : k < l.length
          · obtain ⟨ad, s, rfl, hx, hcs⟩ := strs_cell (Kd.C_below HR.out HB.out) hlt
            have HT : Aside0 (hdrPre a.data.toList b0.data.toList c.data.toList d.data.toList e.data.toList f.data.toList ++ ((bys l).take (k + 1)).flatMap (fun s => 59 :: s) = hdrPre a.data.toList b0.data.toList c.data.toList d.data.toList e.data.toList f.data.toList ++ ((bys l).take k).flatMap (fun s => 59 :: s) ++ putS ((⟨#[59]⟩ : ByteArray) ++ s).data.toList (⟨#[]⟩ : ByteArray).data.toList) := ⟨flat_step _ hx⟩
            have HN : Aside0 ((hdrPre a.data.toList b0.data.toList c.data.toList d.data.toList e.data.toList f.data.toList ++ ((bys l).take k).flatMap (fun s => 59 :: s)).length + (s.size + 1) ≤ 140737488355328) := ⟨flat_len hx (by have := hdrPre_len a.data.toList b0.data.toList c.data.toList d.data.toList e.data.toList f.data.toList; simp only [length_data] at this; omega)⟩
            have hs1 : (9223372036854775807 < 1 + s.size) = False := eq_false (by have := HN.out; omega)
            clear hx
            go_wp2_with (first | (go_at_call 67; (with_reducible refine (put_walk b b _ _ _ _ HI ?hlen hbs).mono ?_); (case hlen => (have hN1 := HN.out); (simp only [ByteArray.size_append, sz_none, sz_local] at hN1 ⊢); omega); rintro en w9 ⟨rfl, hI9, hb9⟩; replace HG := Aside0.mk ((hb9.block gh hgh).trans HG.out); replace HB := Aside0.mk (HB.out.trans (hb9.mono HLE.out)); replace HBS := Aside0.mk (Nat.le_trans hbs hb9.size)))
            rw [← HT.out] at hI9
            go_roundw
            case rel => exact ⟨k + 1, by omega, by go_num, hI9, HG, HB, HBS⟩
            case measure => simp [intOf]; omega
          · have hkk : k = l.length := by omega
            have HT : Aside0 (hdrPre a.data.toList b0.data.toList c.data.toList d.data.toList e.data.toList f.data.toList ++ ((bys l).take k).flatMap (fun s => 59 :: s) = hdrText a.data.toList b0.data.toList c.data.toList d.data.toList e.data.toList f.data.toList (bys l)) := ⟨by rw [hkk, List.take_of_length_le (by simp [bys]), hdrText_pre]⟩
            rw [HT.out] at HI
            clear hkk
            go_wp2_with (first | (go_at_call 43; (with_reducible refine (Tryd.Builder_String_any b b _ _ HI.out hbs).mono ?_); rintro en w9 ⟨rfl, hb9⟩; replace hb9 := Aside0.mk hb9))
            go_ret
            exact ⟨rfl, HB.out.trans (hb9.out.mono HLE.out)⟩

theorem header_Text.calls (a0_0 a0_1 a0_2 a0_3 a0_4 a0_5 : ByteArray) (A0_6 : Option Addr) (c0_6 : Nat) (l0_6 : List ByteArray) (r : ByteArray) (w : World) (hr0_6 : Kd.C Kd.string w A0_6 l0_6.length l0_6) (hc0_6 : l0_6.length ≤ c0_6) (h : header_Text.f a0_0 a0_1 a0_2 a0_3 a0_4 a0_5 l0_6 = some r) :
    Calls Tryd.prog 38 #[.agg #[.string a0_0, .string a0_1, .string a0_2, .string a0_3, .string a0_4, .string a0_5, .slice A0_6 l0_6.length c0_6]] w fun e w' => e = .returned (.string r) ∧ Below w.heap.size w w' := by
  unfold header_Text.f at h
  split at h
  · rename_i hz
    split at h
    · rename_i hok
      obtain rfl := Option.some.inj h
      exact text_ok _ _ _ _ _ _ _ _ _ w hr0_6 hc0_6 ⟨hz.1, hz.2⟩ hok
    · rename_i hok
      obtain rfl := Option.some.inj h
      exact text_no _ _ _ _ _ _ _ _ _ w hr0_6 hc0_6 ⟨hz.1, hz.2⟩ (by simpa using hok)
  · cases h
end Go.Proofs.YtmddkjmcbddhiaaDoor.P
