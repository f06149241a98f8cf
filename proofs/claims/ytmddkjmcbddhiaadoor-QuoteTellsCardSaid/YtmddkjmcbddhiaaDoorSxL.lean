/-
  P28
  P29
  Plain: right lines as runes; texts cut at the line's end, and joined. No memory in sight.
-/
import Derived.Test.YtmddkjmcbddhiaaDoorP0
import Derived.Test.YtmddkjmcbddhiaaDoorGLibL
import Derived.Test.YtmddkjmcbddhiaaDoorGContains2L
import Derived.Test.YtmddkjmcbddhiaaDoorQdL
section
-- written by wip/tools/print2.py (a program of this session over the kit's print); not trusted: Lean checks it
namespace Go.Proofs.YtmddkjmcbddhiaaDoor.P
open Go.RowKit Go.Proofs.YtmddkjmcbddhiaaDoorW.PrintWords Go.Proofs.YtmddkjmcbddhiaaDoorW.PrintLast Go.Proofs.YtmddkjmcbddhiaaDoorW.PrintMore
attribute [local go_sem] max2_int min2_int max_two min_two max_three min_three max_four min_four   -- for this text's walks alone
set_option linter.unusedVariables false
set_option linter.unusedSimpArgs false

/-! ### function_Join: function 30 -/
def function_Join.f (l0 : List ByteArray) : Option (ByteArray) := (strings_Join.f l0 (⟨#[10]⟩ : ByteArray)).bind fun t364 => (some t364)
set_option maxHeartbeats 8000000 in
set_option maxRecDepth 100000 in
theorem function_Join.calls (A0 : Option Addr) (c0 : Nat) (l0 : List ByteArray) (r : ByteArray) (w : World) (hr0 : Kd.C Kd.string w A0 l0.length l0) (hc0 : l0.length ≤ c0) (h : function_Join.f l0 = some r) :
    Calls Tryd.prog 30 #[.slice A0 l0.length c0] w fun e w' => e = .returned (.string r) ∧ Below w.heap.size w w' := by
  have HR0 := Aside0.mk hr0
  have HC0 := Aside0.mk hc0
  clear hr0 hc0
  have HB := Aside0.mk (Below.refl w.heap.size w)
  have H : ((strings_Join.f l0 (⟨#[10]⟩ : ByteArray)).bind fun t364 => (some t364)) = some r := h
  clear h
  replace H := Option.bind_eq_some_iff.mp H
  obtain ⟨t364, A20, H⟩ := H
  replace H : (some t364) = some r := H
  have A2 := Aside0.mk A20
  clear A20
  obtain rfl := Option.some.inj H
  go_enter Tryd.func30, Tryd.ntmps30
  go_wp2_with (first | ((with_reducible refine gate_callee (f := 62) rfl ?_); refine goesL_ (some 4) rfl rfl Tryd.func62 (by kernel_rfl) rfl #[.slice A0 l0.length c0, .string (⟨#[10]⟩ : ByteArray)] rfl (by (try simp only [List.map_toArray, List.map_cons, List.map_nil]); first | done | rfl | (simp only [List.length_drop, List.length_take]; rfl)) ?_; (with_reducible refine (strings_Join.calls _ _ l0 (⟨#[10]⟩ : ByteArray) t364 _ ?side1 ?side2 A2.out).mono ?_); (case side1 => repeat (first | exact HR0.out | (with_reducible refine Kd.C_alloc ?_ _) | (with_reducible refine Kd.C_drewN ?_ _) | (with_reducible refine Kd.C_drew ?_))); (case side2 => exact HC0.out); rintro e w3 ⟨rfl, hb⟩; refine ⟨_, rfl, ?_⟩; have n0_ := Aside0.mk (below_step (by repeat (first | (with_reducible first | exact HB.out | apply below_alloc | apply pw_below_drewN | apply below_drew1) | exact HB.out)) hb); clear HB; have HB := n0_; clear n0_; (try clear hb); (try clear hb2); (try clear hk); (try clear hi)))
  go_ret
  exact ⟨by first | rfl | (simp [errW_none, errW_some] <;> rfl) | (simp [*, errW_none, errW_some] <;> rfl), by repeat (first | (with_reducible first | exact HB.out | apply below_alloc | apply pw_below_drewN | apply below_drew1) | exact HB.out)⟩

-- NOT PRINTED: function 98 (strings_explode)

-- NOT PRINTED: function 87 (strings_genSplit)

end Go.Proofs.YtmddkjmcbddhiaaDoor.P
end
section
-- written by wip/tools/print2.py (a program of this session over the kit's print); not trusted: Lean checks it
namespace Go.Proofs.YtmddkjmcbddhiaaDoor.P
open Go.RowKit Go.Proofs.YtmddkjmcbddhiaaDoorW.PrintWords Go.Proofs.YtmddkjmcbddhiaaDoorW.PrintLast Go.Proofs.YtmddkjmcbddhiaaDoorW.PrintMore
attribute [local go_sem] max2_int min2_int max_two min_two max_three min_three max_four min_four   -- for this text's walks alone
set_option linter.unusedVariables false
set_option linter.unusedSimpArgs false

/-! ### function_Split: function 32 -/
def function_Split.f (a0 : ByteArray) : Option (List ByteArray) := (strings_Split.f a0 (⟨#[10]⟩ : ByteArray)).bind fun t369 => (some t369)
set_option maxHeartbeats 8000000 in
set_option maxRecDepth 100000 in
theorem function_Split.calls (a0 : ByteArray) (r : List ByteArray) (w : World) (hE_ : Env w) (h : function_Split.f a0 = some r) :
    Calls Tryd.prog 32 #[.string a0] w fun e w' => ∃ v0_ : Value, e = .returned (v0_) ∧ Kd.R Kd.string 9 w' w.heap.size (fun _ => True) v0_ r ∧ Below w.heap.size w w' := by
  have HB := Aside0.mk (Below.refl w.heap.size w)
  have HE_ := Aside0.mk hE_
  clear hE_
  have H : ((strings_Split.f a0 (⟨#[10]⟩ : ByteArray)).bind fun t369 => (some t369)) = some r := h
  clear h
  replace H := Option.bind_eq_some_iff.mp H
  obtain ⟨t369, A20, H⟩ := H
  replace H : (some t369) = some r := H
  have A2 := Aside0.mk A20
  clear A20
  obtain rfl := Option.some.inj H
  go_enter Tryd.func32, Tryd.ntmps32
  go_wp2_with (first | ((with_reducible refine gate_callee (f := 63) rfl ?_); refine goesL_ (some 4) rfl rfl Tryd.func63 (by kernel_rfl) rfl #[.string a0, .string (⟨#[10]⟩ : ByteArray)] rfl (by (try simp only [List.map_toArray, List.map_cons, List.map_nil]); first | done | rfl | (simp only [List.length_drop, List.length_take]; rfl)) ?_; (with_reducible refine (strings_Split.calls a0 (⟨#[10]⟩ : ByteArray) t369 _ ?side1 A2.out).mono ?_); (case side1 => exact HE_.out.below (by repeat (first | (with_reducible first | exact HB.out | apply below_alloc | apply pw_below_drewN | apply below_drew1) | exact HB.out))); rintro e w3 ⟨v370, rfl, ho0, hb⟩; refine ⟨_, rfl, ?_⟩; have n0_ := Aside0.mk (Kd.R_lower ho0 (below_size (by repeat (first | (with_reducible first | exact HB.out | apply below_alloc | apply pw_below_drewN | apply below_drew1) | exact HB.out)))); have n1_ := Aside0.mk (below_step (by repeat (first | (with_reducible first | exact HB.out | apply below_alloc | apply pw_below_drewN | apply below_drew1) | exact HB.out)) hb); clear HB; have HO371 := n0_; have HB := n1_; clear n0_ n1_; (try clear hb); (try clear hb2); (try clear hk); (try clear hi); (try clear ho0)))
  go_ret
  exact ⟨_, by first | rfl | (simp [errW_none, errW_some] <;> rfl) | (simp [*, errW_none, errW_some] <;> rfl), by (with_reducible repeat (first | apply Kd.R_alloc | apply Kd.R_drewN | apply Kd.R_drew)); exact HO371.out, by repeat (first | (with_reducible first | exact HB.out | apply below_alloc | apply pw_below_drewN | apply below_drew1) | exact HB.out)⟩

end Go.Proofs.YtmddkjmcbddhiaaDoor.P
end
section
namespace Go.Proofs.YtmddkjmcbddhiaaDoor.P
open Go.RowKit Go.Proofs.YtmddkjmcbddhiaaDoorW.PrintWords Go.Proofs.YtmddkjmcbddhiaaDoor.Sp
set_option linter.unusedVariables false
set_option linter.unusedSimpArgs false

theorem dec_at {s : ByteArray} {pos : Nat} {x : Int} {t : List Int} (h : signB x = true) (hd : s.data.toList.drop pos = utf8 (x :: t)) : pos < s.size ∧ Utf8.decode s pos = (x.toNat, (Lib.encodeRune x).length) ∧ s.data.toList.drop (pos + (Lib.encodeRune x).length) = utf8 t := by
  have h1 := congrArg List.length hd
  rw [List.length_drop, length_dataR, utf8_cons, List.length_append] at h1
  have h2 := enc_pos x
  exact ⟨by omega, by rw [← Lib.decodeL_drop, hd, utf8_cons, dec_enc h], by rw [← List.drop_drop, hd, utf8_cons, List.drop_left]⟩
theorem end_at {s : ByteArray} {pos : Nat} (hd : s.data.toList.drop pos = utf8 []) : ¬ pos < s.size := by
  intro hp
  have h1 := congrArg List.length hd
  rw [List.length_drop, length_dataR] at h1
  simp only [utf8, List.flatMap_nil, List.length_nil] at h1
  omega
theorem oddFrom_utf8 (s : ByteArray) : ∀ (ls : List Int) (b pos : Nat), ls.all signB = true → s.data.toList.drop pos = utf8 ls → s.size ≤ pos + b → (oddFrom s b pos < 0 ↔ ls.all (fun n => !oddR n) = true)
  | [], b, pos, _, hd, _ => by
    rw [oddFrom_end s b pos (end_at hd)]
    simp
  | x :: t, b, pos, h, hd, hb => by
    rw [List.all_cons, Bool.and_eq_true] at h
    obtain ⟨h1, h2, h3⟩ := dec_at h.1 hd
    have h4 := enc_pos x
    obtain ⟨b, rfl⟩ : ∃ m, b = m + 1 := ⟨b - 1, by omega⟩
    have hx := ((signB_iff x).1 h.1).1
    have e : ((x.toNat : Nat) : Int) = x := by omega
    rw [oddFrom, if_pos h1, h2]
    dsimp only
    rw [e, List.all_cons]
    cases ho : oddR x with
    | true =>
      rw [if_pos rfl]
      constructor
      · intro h5; omega
      · intro h5; simp at h5
    | false =>
      rw [if_neg (by simp), oddFrom_utf8 s t b _ h.2 h3 (by omega)]
      simp
theorem runeCountFrom_utf8 (s : ByteArray) : ∀ (ls : List Int) (b pos : Nat), ls.all signB = true → s.data.toList.drop pos = utf8 ls → s.size ≤ pos + b → Lib.runeCountFrom s b pos = ls.length
  | [], b, pos, _, hd, _ => by
    have h := end_at hd
    cases b with
    | zero => rfl
    | succ b => rw [Lib.runeCountFrom, if_neg h]; rfl
  | x :: t, b, pos, h, hd, hb => by
    rw [List.all_cons, Bool.and_eq_true] at h
    obtain ⟨h1, h2, h3⟩ := dec_at h.1 hd
    have h4 := enc_pos x
    obtain ⟨b, rfl⟩ : ∃ m, b = m + 1 := ⟨b - 1, by omega⟩
    rw [Lib.runeCountFrom, if_pos h1, h2]
    dsimp only
    rw [runeCountFrom_utf8 s t b _ h.2 h3 (by omega), List.length_cons]
    omega
theorem lineB_utf8 {s : ByteArray} {ls : List Int} (h : ls.all signB = true) (hs : s.data.toList = utf8 ls) : lineB s = (decide (ls.length ≤ 1000) && ls.all (fun n => !oddR n)) := by
  unfold lineB
  have h1 : Lib.validD s.data.toList = true := (valid_iff _).2 ⟨ls, h, hs⟩
  have h2 : Lib.runeCount s = ls.length := runeCountFrom_utf8 s ls _ 0 h (by rw [List.drop_zero]; exact hs) (by omega)
  have h3 := oddFrom_utf8 s ls s.size 0 h (by rw [List.drop_zero]; exact hs) (by omega)
  have h4 : decide (oddIdx s < 0) = ls.all (fun n => !oddR n) := by
    cases ha : ls.all (fun n => !oddR n) with
    | true => exact decide_eq_true (h3.2 ha)
    | false => exact decide_eq_false (fun hh => by have := h3.1 hh; rw [ha] at this; cases this)
  have h5 : decide ((Lib.runeCount s : Int) ≤ 1000) = decide (ls.length ≤ 1000) := by
    rw [h2]
    by_cases hl : ls.length ≤ 1000
    · rw [decide_eq_true hl, decide_eq_true (by omega)]
    · rw [decide_eq_false hl, decide_eq_false (by omega)]
  rw [h1, h4, h5, Bool.true_and]
theorem lineB_was {s : ByteArray} (h : lineB s = true) : ∃ ls, ls.all signB = true ∧ s.data.toList = utf8 ls ∧ ls.length ≤ 1000 ∧ ls.all (fun n => !oddR n) = true := by
  have h0 := h
  unfold lineB at h0
  rw [Bool.and_eq_true] at h0
  obtain ⟨ls, h1, h2⟩ := (valid_iff _).1 h0.1
  rw [lineB_utf8 h1 h2, Bool.and_eq_true, decide_eq_true_eq] at h
  exact ⟨ls, h1, h2, h.1, h.2⟩
theorem encZ_range {n : Int} (h : signB n = true) (h2 : 32 ≤ n) : ∀ z ∈ Lib.encodeRuneZ n, 32 ≤ z ∧ z ≤ 255 := by
  obtain ⟨h3, h4, h5⟩ := (signB_iff n).1 h
  intro z hz
  unfold Lib.encodeRuneZ at hz
  repeat' split at hz
  all_goals simp only [List.mem_cons, List.not_mem_nil, or_false] at hz
  all_goals omega
theorem no10 : ∀ {ls : List Int}, ls.all signB = true → ls.all (fun n => !oddR n) = true → (10 : UInt8) ∉ utf8 ls
  | [], _, _ => by simp [utf8]
  | x :: t, h, ho => by
    rw [List.all_cons, Bool.and_eq_true] at h ho
    rw [utf8_cons]
    intro hm
    rcases List.mem_append.1 hm with h1 | h1
    · unfold Lib.encodeRune at h1
      obtain ⟨z, hz, he⟩ := List.mem_map.1 h1
      have hx : 32 ≤ x := by
        have h2 := ho.1
        unfold oddR at h2
        simp only [Bool.not_or, Bool.and_eq_true, Bool.not_eq_true', decide_eq_false_iff_not] at h2
        omega
      obtain ⟨z1, z2⟩ := encZ_range h.1 hx z hz
      have h3 := congrArg UInt8.toNat he
      rw [tb (k := z.toNat) (by omega) (by omega)] at h3
      have e : (10 : UInt8).toNat = 10 := rfl
      omega
    · exact no10 h.2 ho.2 h1
theorem lineB_no10 {s : ByteArray} (h : lineB s = true) : (10 : UInt8) ∉ s.data.toList := by
  obtain ⟨ls, h1, h2, _, h3⟩ := lineB_was h
  rw [h2]
  exact no10 h1 h3

/-- A text cut at the line's end. -/
def spl : List UInt8 → List (List UInt8)
  | [] => [[]]
  | c :: t => if c = 10 then [] :: spl t else (match spl t with | [] => [[c]] | x :: xs => (c :: x) :: xs)
theorem spl_ne : ∀ l, spl l ≠ []
  | [] => by simp [spl]
  | c :: t => by
    rw [spl]
    split
    · simp
    · split <;> simp
theorem spl_cut : ∀ (p t : List UInt8), (10 : UInt8) ∉ p → spl (p ++ 10 :: t) = p :: spl t
  | [], t, _ => by rw [List.nil_append, spl, if_pos rfl]
  | c :: p, t, h => by
    have hc : ¬ c = 10 := fun e => h (by rw [e]; exact List.mem_cons_self ..)
    rw [List.cons_append, spl, if_neg hc, spl_cut p t (fun hm => h (List.mem_cons_of_mem _ hm))]
theorem spl_one : ∀ (p : List UInt8), (10 : UInt8) ∉ p → spl p = [p]
  | [], _ => rfl
  | c :: p, h => by
    have hc : ¬ c = 10 := fun e => h (by rw [e]; exact List.mem_cons_self ..)
    rw [spl, if_neg hc, spl_one p (fun hm => h (List.mem_cons_of_mem _ hm))]
theorem join_cons (x y : List UInt8) (t : List (List UInt8)) : Lib.join (x :: y :: t) [10] = x ++ 10 :: Lib.join (y :: t) [10] := by
  unfold Lib.join
  simp [List.intercalate]
theorem join_one (x : List UInt8) : Lib.join [x] [10] = x := by
  unfold Lib.join
  simp [List.intercalate]
theorem join_spl : ∀ l, Lib.join (spl l) [10] = l
  | [] => join_one []
  | c :: t => by
    have ih := join_spl t
    have hn := spl_ne t
    rw [spl]
    cases hs : spl t with
    | nil => exact absurd hs hn
    | cons x xs =>
      rw [hs] at ih
      split
      · rename_i e
        rw [join_cons, ih, e, List.nil_append]
      · cases xs with
        | nil => rw [join_one] at ih ⊢; rw [ih]
        | cons y ys => rw [join_cons] at ih ⊢; rw [List.cons_append, ih]
theorem spl_join : ∀ (ls : List (List UInt8)), ls ≠ [] → (∀ x ∈ ls, (10 : UInt8) ∉ x) → spl (Lib.join ls [10]) = ls
  | [], h, _ => absurd rfl h
  | [x], _, h => by rw [join_one]; exact spl_one x (h x (List.mem_cons_self ..))
  | x :: y :: t, _, h => by rw [join_cons, spl_cut _ _ (h x (List.mem_cons_self ..)), spl_join (y :: t) (by simp) (fun z hz => h z (List.mem_cons_of_mem _ hz))]
theorem spl_length : ∀ l, (spl l).length ≤ l.length + 1
  | [] => by simp [spl]
  | c :: t => by
    have ih := spl_length t
    rw [spl]
    split
    · simp only [List.length_cons]; omega
    · split
      · simp
      · rename_i x xs e
        rw [e] at ih
        simp only [List.length_cons] at ih ⊢
        omega
theorem join_length : ∀ (ls : List (List UInt8)) (n : Nat), (∀ x ∈ ls, x.length ≤ n) → (Lib.join ls [10]).length ≤ ls.length * (n + 1)
  | [], n, _ => by simp [Lib.join, List.intercalate]
  | [x], n, h => by have := h x (List.mem_cons_self ..); rw [join_one]; simp only [List.length_cons, List.length_nil]; omega
  | x :: y :: t, n, h => by
    have h1 := h x (List.mem_cons_self ..)
    have h2 := join_length (y :: t) n (fun z hz => h z (List.mem_cons_of_mem _ hz))
    rw [join_cons, List.length_append, List.length_cons, List.length_cons, Nat.succ_mul]
    omega
theorem spl_split : ∀ (n : Nat) (s : List UInt8), s.length ≤ n → Lib.splitK [10] 0 (Lib.count s [10]) s = spl s := by
  intro n
  induction n with
  | zero =>
    intro s hn
    have : s = [] := by cases s with | nil => rfl | cons => simp at hn
    subst this
    rfl
  | succ n ih =>
    intro s hn
    have hi := Lib.index_one s 10
    by_cases hm : Lib.index s [10] = -1
    · rw [Lib.count_miss hm, Lib.splitK]
      rw [hi] at hm
      refine (spl_one s (fun h => ?_)).symm
      obtain ⟨k, hk, he⟩ := List.getElem_of_mem h
      exact Lib.indexByte_none hm k (by rw [List.getElem?_eq_getElem hk, he])
    · have hge := Lib.index_ge s [10]
      obtain ⟨i, hi2⟩ : ∃ i : Nat, Lib.index s [10] = (i : Int) := ⟨(Lib.index s [10]).toNat, by omega⟩
      have hc := Lib.count_hit (by simp) hi2
      have hb := Lib.indexByte_some (hi.symm.trans hi2)
      have hlt : i < s.length := (List.getElem?_eq_some_iff.1 hb.1).1
      have h10 : s[i] = 10 := (List.getElem?_eq_some_iff.1 hb.1).2
      rw [hc, Nat.add_comm 1, Lib.splitK, if_neg (by rw [hi2]; simp), hi2]
      simp only [Int.toNat_natCast, Nat.add_zero, List.length_cons, List.length_nil, Nat.zero_add]
      rw [ih _ (by rw [List.length_drop]; omega)]
      have hs : s = s.take i ++ 10 :: s.drop (i + 1) := by
        rw [← h10, ← List.drop_eq_getElem_cons hlt, List.take_append_drop]
      have hno : (10 : UInt8) ∉ s.take i := by
        intro h
        obtain ⟨k, hk, he⟩ := List.getElem_of_mem h
        rw [List.length_take] at hk
        refine hb.2 k (by omega) ?_
        rw [List.getElem?_eq_getElem (by omega)]
        rw [List.getElem_take] at he
        rw [he]
      conv => rhs; rw [hs]
      rw [spl_cut _ _ hno]
theorem toBytes_data (u : List UInt8) : (⟨u.toArray⟩ : ByteArray).data.toList = u := rfl
/-- A text of bytes. -/
def txt (u : List UInt8) : ByteArray := ⟨u.toArray⟩
theorem txt_data (u : List UInt8) : (txt u).data.toList = u := rfl
theorem txt_of (s : ByteArray) : txt s.data.toList = s := rfl
theorem bys_txt (l : List (List UInt8)) : bys (l.map txt) = l := by
  unfold bys
  rw [List.map_map]
  exact (List.map_congr_left (fun x _ => rfl)).trans (List.map_id l)
theorem of_bys {l : List ByteArray} {m : List (List UInt8)} (h : bys l = m) : l = m.map txt := by
  rw [← h]
  unfold bys
  rw [List.map_map]
  exact ((List.map_congr_left (fun x _ => rfl)).trans (List.map_id l)).symm
theorem fsplit_f (s : ByteArray) (hs : s.size < 4294967281) : function_Split.f s = some ((spl s.data.toList).map txt) := by
  unfold function_Split.f strings_Split.f
  rw [if_pos ⟨hs, by decide⟩, Option.bind_some]
  congr 1
  exact of_bys ((Lib.splitB_data ⟨#[10]⟩ 0 _ s).trans (spl_split _ _ (Nat.le_refl _)))
theorem fjoin_f (l : List ByteArray) (h : (Lib.join (bys l) [10]).length ≤ 140737488355328) (h2 : l.length ≤ 140737488355328) : function_Join.f l = some (txt (Lib.join (bys l) [10])) := by
  unfold function_Join.f strings_Join.f
  rw [if_pos ⟨h, h2⟩]
  rfl
end Go.Proofs.YtmddkjmcbddhiaaDoor.P
end
