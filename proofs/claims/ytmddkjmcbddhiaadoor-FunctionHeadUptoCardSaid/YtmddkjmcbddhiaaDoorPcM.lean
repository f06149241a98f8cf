/-
  Plain: what header.Parse tells: nothing, or a right header whose text is what was read. No memory in sight.
  P34
  What the reference 15's cut and split come to: where a text first stands in another one, and the parts between. No memory in sight.
  Plain: header.Parse guesses a right header of its text as it was. No memory in sight.
  Plain: where a sign, or the arrow, first stands in texts that are made of names. No memory in sight.
  The walk of the reference 15's guess: the header that a text may be. Condition: the text has no more than 2^40 bytes.
  Plain: the reference's guess is a right header of its text as it was. No memory in sight.
-/
import Derived.Test.YtmddkjmcbddhiaaDoorGParseM
import Derived.Test.YtmddkjmcbddhiaaDoorP0M
import Derived.Test.YtmddkjmcbddhiaaDoorHdM
import Derived.Deep.DeepCutAuto
section
namespace Go.Proofs.YtmddkjmcbddhiaaDoor.P
open Go.RowKit Go.Proofs.YtmddkjmcbddhiaaDoorW.PrintWords Go.Proofs.YtmddkjmcbddhiaaDoor.Sp
set_option linter.unusedVariables false
set_option linter.unusedSimpArgs false

/-- Every part of what has been guessed is no longer than n. -/
structure RSz (n : Nat) (R : Raw) : Prop where
  a : R.a.size ≤ n
  b : R.b.size ≤ n
  c : R.c.size ≤ n
  d : R.d.size ≤ n
  e : R.e.size ≤ n
  f : R.f.size ≤ n
  ls : lsum R.ls ≤ n
theorem wordA_size (s : ByteArray) : (wordA s).size ≤ s.size := by
  unfold wordA
  rw [ByteArray.size_extract]
  omega
theorem wordAB_size (s : ByteArray) : (wordA s).size + (wordB s).size = s.size := by
  have h := nameLen_le s.data.toList
  rw [length_data] at h
  unfold wordA wordB
  rw [ByteArray.size_extract, ByteArray.size_extract]
  omega
theorem lsum_snoc (l : List ByteArray) (x : ByteArray) : lsum (l ++ [x]) = lsum l + (x.size + 1) := by
  simp [lsum]
theorem locLoop_size : ∀ (k : Nat) (s : ByteArray) (l : List ByteArray) (n : Nat), lsum l + s.size ≤ n → lsum (locLoop k s l).2 ≤ n
  | 0, s, l, n, h => by unfold locLoop; exact Nat.le_trans (Nat.le_add_right _ _) h
  | k + 1, s, l, n, h => by
    unfold locLoop
    split
    · rename_i hk
      refine locLoop_size k _ _ n ?_
      have h1 := skipB_less hk (by decide)
      have h2 := wordAB_size (skipB s semiS)
      rw [lsum_snoc]
      omega
    · exact Nat.le_trans (Nat.le_add_right _ _) h
theorem st4_size {n : Nat} {s a b c d e f : ByteArray} (hs : s.size ≤ n) (ha : a.size ≤ n) (hb : b.size ≤ n) (hc : c.size ≤ n) (hd : d.size ≤ n) (he : e.size ≤ n) (hf : f.size ≤ n) : RSz n (st4 s a b c d e f) :=
  ⟨ha, hb, hc, hd, he, hf, locLoop_size _ _ _ _ (by simpa [lsum] using hs)⟩
theorem wb_size {n : Nat} {s p : ByteArray} (hs : s.size ≤ n) : (wordB (skipB s p)).size ≤ n := Nat.le_trans (wordB_size _) (Nat.le_trans (skipB_size _ _) hs)
theorem wa_size {n : Nat} {s p : ByteArray} (hs : s.size ≤ n) : (wordA (skipB s p)).size ≤ n := Nat.le_trans (wordA_size _) (Nat.le_trans (skipB_size _ _) hs)
theorem st3_size {n : Nat} {s a b c d e f : ByteArray} (hs : s.size ≤ n) (ha : a.size ≤ n) (hb : b.size ≤ n) (hc : c.size ≤ n) (hd : d.size ≤ n) (he : e.size ≤ n) (hf : f.size ≤ n) : RSz n (st3 s a b c d e f) := by
  unfold st3
  split
  · exact st4_size (wb_size hs) ha hc hd (wa_size hs) he hf
  · exact st4_size hs ha hb hc hd he hf
theorem st2_size {n : Nat} {s a b c d e f : ByteArray} (hs : s.size ≤ n) (ha : a.size ≤ n) (hb : b.size ≤ n) (hc : c.size ≤ n) (hd : d.size ≤ n) (he : e.size ≤ n) (hf : f.size ≤ n) : RSz n (st2 s a b c d e f) := by
  unfold st2
  split
  · exact st3_size (wb_size hs) ha hb hc (wa_size hs) he hf
  · exact st3_size hs ha hb hc hd he hf
theorem op1_size (s : ByteArray) : (op1 s).size ≤ s.size := Nat.le_trans (skipB_size _ _) (wordB_size _)
theorem opN_size (s : ByteArray) : (opN s).size ≤ s.size := Nat.le_trans (wordA_size _) (op1_size s)
theorem opG_size (s : ByteArray) : (opG s nilS).size ≤ s.size := by
  unfold opG
  split
  · exact Nat.le_trans (wordA_size _) (Nat.le_trans (skipB_size _ _) (Nat.le_trans (wordB_size _) (op1_size s)))
  · exact Nat.zero_le _
theorem nil_size {n : Nat} : nilS.size ≤ n := Nat.zero_le _
theorem st1_size {n : Nat} {first s a : ByteArray} (hs : s.size ≤ n) (hf : first.size ≤ n) (ha : a.size ≤ n) : RSz n (st1 first s a) := by
  have h1 : ∀ p, (skipB s p).size ≤ n := fun p => Nat.le_trans (skipB_size _ _) hs
  unfold st1
  split
  · exact st2_size (Nat.le_trans (opR_size _) (h1 _)) ha nil_size (Nat.le_trans (opN_size _) (h1 _)) nil_size (Nat.le_trans (wordA_size _) (h1 _)) (Nat.le_trans (opG_size _) (h1 _))
  · split
    · exact st2_size (Nat.le_trans (opR_size _) (h1 _)) ha hf (Nat.le_trans (opN_size _) (h1 _)) nil_size (Nat.le_trans (wordA_size _) (h1 _)) (Nat.le_trans (opG_size _) (h1 _))
    · exact st2_size hs ha nil_size hf nil_size nil_size nil_size
theorem st0_size (s : ByteArray) : RSz s.size (st0 s) := by
  have h1 := wordB_size s
  unfold st0
  split
  · exact st1_size (wb_size h1) (wa_size h1) (wordA_size s)
  · exact st1_size h1 (wordA_size s) nil_size
theorem RSz.sized {n : Nat} {R : Raw} (h : RSz n R) (hn : n ≤ 1099511627776) : HSized R.a R.b R.c R.d R.e R.f R.ls := by
  obtain ⟨h1, h2, h3, h4, h5, h6, h7⟩ := h
  have := lsum_length R.ls
  exact ⟨by omega, by omega⟩
theorem header_Text_f {a b c d e f : ByteArray} {l : List ByteArray} (h : HSized a b c d e f l) : header_Text.f a b c d e f l = some (if hdrOk a.data.toList b.data.toList c.data.toList d.data.toList e.data.toList f.data.toList (bys l) = true then ⟨(hdrText a.data.toList b.data.toList c.data.toList d.data.toList e.data.toList f.data.toList (bys l)).toArray⟩ else ⟨#[]⟩) := by
  unfold header_Text.f
  rw [if_pos ⟨h.sum, h.len⟩]
  split <;> rfl
/-- Whether a header is right, and its text. -/
def Raw.ok (R : Raw) : Bool := hdrOk R.a.data.toList R.b.data.toList R.c.data.toList R.d.data.toList R.e.data.toList R.f.data.toList (bys R.ls)
def Raw.text (R : Raw) : List UInt8 := hdrText R.a.data.toList R.b.data.toList R.c.data.toList R.d.data.toList R.e.data.toList R.f.data.toList (bys R.ls)
theorem Raw.text_f {R : Raw} (h : HSized R.a R.b R.c R.d R.e R.f R.ls) : header_Text.f R.a R.b R.c R.d R.e R.f R.ls = some (if R.ok = true then ⟨R.text.toArray⟩ else ⟨#[]⟩) := header_Text_f h
/-- Does a text that is read say a header? -/
def reads (s : ByteArray) : Bool := decide ((st0 s).rest.data.toList = []) && (!decide (s.data.toList = []) && ((st0 s).ok && decide ((st0 s).text = s.data.toList)))
theorem header_Parse_f (s : ByteArray) (hs : s.size ≤ 1099511627776) : header_Parse.f s = some (if reads s = true then ((st0 s).a, (st0 s).b, (st0 s).c, (st0 s).d, (st0 s).e, (st0 s).f, (st0 s).ls, true) else (nilS, nilS, nilS, nilS, nilS, nilS, [], false)) := by
  have hz := (st0_size s).sized hs
  unfold header_Parse.f reads
  rw [if_pos hs, Raw.text_f hz]
  by_cases h1 : (st0 s).rest.data.toList = []
  · by_cases h2 : s.data.toList = []
    · rw [if_neg (fun hh => hh.2 h2)]
      simp [h2]
    · rw [if_pos ⟨h1, h2⟩]
      cases hk : (st0 s).ok with
      | true =>
        by_cases h3 : (st0 s).text = s.data.toList
        · simp [h1, h2, h3]
        · simp [h1, h2, h3]
      | false =>
        have h4 : ¬ ([] : List UInt8) = s.data.toList := fun e => h2 e.symm
        simp [h4]
  · rw [if_neg (fun hh => h1 hh.1)]
    simp [h1]
theorem reads_iff {s : ByteArray} : reads s = true ↔ (st0 s).rest.data.toList = [] ∧ ¬ s.data.toList = [] ∧ (st0 s).ok = true ∧ (st0 s).text = s.data.toList := by
  unfold reads
  simp
theorem hdrOk_name {r lf nm rt f g : List UInt8} {ls : List (List UInt8)} (h : hdrOk r lf nm rt f g ls = true) : isName nm = true := by
  unfold hdrOk at h
  simp only [Bool.and_eq_true, List.all_append, List.all_cons, mayB, Bool.or_eq_true] at h
  obtain ⟨⟨⟨⟨⟨h1, h2⟩, _⟩, _⟩, _⟩, _⟩ := h
  have h3 := h2.1.2.2.1
  rcases h3 with h3 | h3
  · cases nm with
    | nil => simp at h1
    | cons => simp at h3
  · exact h3
end Go.Proofs.YtmddkjmcbddhiaaDoor.P
end
section
-- written by wip/tools/print2.py (a program of this session over the kit's print); not trusted: Lean checks it
namespace Go.Proofs.YtmddkjmcbddhiaaDoor.P
open Go.RowKit Go.Proofs.YtmddkjmcbddhiaaDoorW.PrintWords Go.Proofs.YtmddkjmcbddhiaaDoorW.PrintLast Go.Proofs.YtmddkjmcbddhiaaDoorW.PrintMore
attribute [local go_sem] max2_int min2_int max_two min_two max_three min_three max_four min_four   -- for this text's walks alone
set_option linter.unusedVariables false
set_option linter.unusedSimpArgs false

/-! ### deckleref15_cut: function 95 -/
def deckleref15_cut.l0 : Nat → ByteArray → ByteArray → Int → Option (ByteArray × ByteArray × Bool)
  | 0, _, _, _ => none
  | k + 1, x0, x1, x7 => if (wrap64 (x7 + (x1.size : Int))) ≤ (x0.size : Int) then (if 0 ≤ x7 then (if x7 ≤ (wrap64 (x7 + (x1.size : Int))) then (if (x0.extract (x7 : Int).toNat ((wrap64 (x7 + (x1.size : Int))) : Int).toNat).toList = x1.toList then (if x7 ≤ (x0.size : Int) then (if 0 ≤ (wrap64 (x7 + (x1.size : Int))) then (some (x0.extract 0 (x7 : Int).toNat, x0.extract ((wrap64 (x7 + (x1.size : Int))) : Int).toNat x0.size, true)) else (none)) else (none)) else (deckleref15_cut.l0 k x0 x1 (wrap64 (x7 + 1)))) else (none)) else (none)) else (some (x0, (⟨#[]⟩ : ByteArray), false))
def deckleref15_cut.f (k : Nat) (a0 : ByteArray) (a1 : ByteArray) : Option (ByteArray × ByteArray × Bool) := deckleref15_cut.l0 k a0 a1 0
theorem deckleref15_cut.mono_l : ∀ k, (∀ y0 y1 y2, LeO (deckleref15_cut.l0 k y0 y1 y2) (deckleref15_cut.l0 (k + 1) y0 y1 y2))
  | 0 => fun _ _ _ r h => by simp [deckleref15_cut.l0] at h
  | k + 1 => by
    have ih0 := deckleref15_cut.mono_l k
    · intro y0 y1 y2
      unfold deckleref15_cut.l0
      repeat' first
      | (with_reducible exact ih0 _ _ _)
      | (with_reducible exact LeO.refl _)
      | (with_reducible exact LeO.none _)
      | (with_reducible refine LeO.ite ?_ ?_)
      | (with_reducible refine LeO.bind ?_ (fun _ => ?_))
      | exact ih0 _ _ _
      | exact LeO.none _
      | refine LeO.ite ?_ ?_
      | refine LeO.bind ?_ (fun _ => ?_)
theorem deckleref15_cut.mono : ∀ a0 a1 k, LeO (deckleref15_cut.f k a0 a1) (deckleref15_cut.f (k + 1) a0 a1) := by
  intro a0 a1 k
  have ih0 := deckleref15_cut.mono_l k
  unfold deckleref15_cut.f
  repeat' first
      | (with_reducible exact ih0 _ _ _)
      | (with_reducible exact LeO.refl _)
      | (with_reducible exact LeO.none _)
      | (with_reducible refine LeO.ite ?_ ?_)
      | (with_reducible refine LeO.bind ?_ (fun _ => ?_))
      | exact ih0 _ _ _
      | exact LeO.none _
      | refine LeO.ite ?_ ?_
      | refine LeO.bind ?_ (fun _ => ?_)
set_option maxHeartbeats 8000000 in
set_option maxRecDepth 100000 in
theorem deckleref15_cut.calls (k : Nat) (a0 : ByteArray) (a1 : ByteArray) (r1 : ByteArray) (r2 : ByteArray) (r3 : Bool) (w : World) (h : deckleref15_cut.f k a0 a1 = some (r1, r2, r3)) :
    Calls Tryd.prog 95 #[.string a0, .string a1] w fun e w' => e = .returned (.tuple #[.string r1, .string r2, .bool r3]) ∧ Drawn0 w w' := by
  have H : (deckleref15_cut.l0 k a0 a1 0) = some (r1, r2, r3) := h
  clear h
  have H' := Aside0.mk H
  clear H
  go_enter Tryd.func95, Tryd.ntmps95
  go_wp2
  repeat (go_quiet (fail); try go_wp2)
  go_loopg [7] k (fun kq v7 w' => ∃ (x7_1 : Int), v7 = .int .i64 x7_1 ∧ Aside0 (deckleref15_cut.l0 kq a0 a1 x7_1 = some (r1, r2, r3)) ∧ Aside0 (kq ≤ k) ∧ Drawn0 w w')
  case atStart => exact ⟨(0), (by first | rfl | (simp; done) | (simp [*]; done)), H', ⟨Nat.le_refl _⟩, by repeat (first | exact Drawn0.refl _ | apply Drawn0.step)⟩
  case round =>
    clear H'
    try clear p2
    obtain ⟨x7_1, rfl, HA, HK1, ⟨m1, rfl⟩⟩ := hrel
    cases gk with
    | zero => exact absurd HA.out (by simp [deckleref15_cut.l0])
    | succ k1 =>
      have H := HA.out
      clear HA
      simp only [deckleref15_cut.l0] at H
      by_cases c3 : (wrap64 (x7_1 + (a1.size : Int))) ≤ (a0.size : Int)
      · rw [if_pos c3] at H
        have c3b0 : decide ((wrap64 (x7_1 + (a1.size : Int))) ≤ (a0.size : Int)) = true := decide_eq_true c3
        clear c3
        by_cases c4 : 0 ≤ x7_1
        · rw [if_pos c4] at H
          have c4b0 := eq_true c4
          have c4b1 : decide (0 ≤ x7_1) = true := decide_eq_true c4
          clear c4
          by_cases c5 : x7_1 ≤ (wrap64 (x7_1 + (a1.size : Int)))
          · rw [if_pos c5] at H
            have c5b0 := eq_true c5
            have c5b1 : decide (x7_1 ≤ (wrap64 (x7_1 + (a1.size : Int)))) = true := decide_eq_true c5
            have c6b0 := eq_true (of_decide_eq_true (by first | (with_reducible assumption) | assumption) : (wrap64 (x7_1 + (a1.size : Int))) ≤ (a0.size : Int))
            by_cases c7 : (a0.extract (x7_1 : Int).toNat ((wrap64 (x7_1 + (a1.size : Int))) : Int).toNat).toList = a1.toList
            · rw [if_pos c7] at H
              have c7b0 : ((a0.extract (x7_1 : Int).toNat ((wrap64 (x7_1 + (a1.size : Int))) : Int).toNat).toList == a1.toList) = true := beq_iff_eq.mpr c7
              have c7b1 : ((a0.extract (x7_1 : Int).toNat ((wrap64 (x7_1 + (a1.size : Int))) : Int).toNat).toList != a1.toList) = false := bne_eq_false_iff_eq.mpr c7
              clear c7
              have c8b0 := eq_true (of_decide_eq_true (by first | (with_reducible assumption) | assumption) : 0 ≤ x7_1)
              by_cases c9 : x7_1 ≤ (a0.size : Int)
              · rw [if_pos c9] at H
                have c9b0 := eq_true c9
                have c9b1 : decide (x7_1 ≤ (a0.size : Int)) = true := decide_eq_true c9
                clear c9
                obtain ⟨ji10, hji10⟩ : ∃ j_ : Int, (wrap64 (x7_1 + (a1.size : Int))) = j_ := ⟨_, rfl⟩
                replace H : (if 0 ≤ (ji10) then (some (a0.extract 0 (x7_1 : Int).toNat, a0.extract ((ji10) : Int).toNat a0.size, true)) else (none)) = some (r1, r2, r3) := by first | (rw [hji10] at H; exact H) | (simp only [hji10] at H ⊢; exact H)
                (try rw [hji10] at c3b0)
                (try rw [hji10] at c5b0)
                (try rw [hji10] at c5b1)
                (try rw [hji10] at c5)
                (try rw [hji10] at c7b0)
                (try rw [hji10] at c7b1)
                have hji10w : (IntKind.i64.wrap (x7_1 + (a1.size : Int))) = ji10 := (i64_w _).trans hji10
                by_cases c11 : 0 ≤ (ji10)
                · rw [if_pos c11] at H
                  have c11b0 := eq_true c11
                  have c11b1 : decide (0 ≤ (ji10)) = true := decide_eq_true c11
                  clear c11
                  have c12b0 := eq_true (of_decide_eq_true (by first | (with_reducible assumption) | assumption) : (ji10) ≤ (a0.size : Int))
                  simp only [Option.some.injEq, Prod.mk.injEq] at H
                  obtain ⟨rfl, rfl, rfl⟩ := H
                  go_wp2
                  repeat (go_quiet (fail); try go_wp2)
                  go_ret3
                  exact ⟨by first | rfl | (simp; done) | (simp only [← hji10] <;> (first | rfl | simp)) | (simp [*]; done), by repeat (first | exact Drawn0.refl _ | apply Drawn0.step)⟩
                · rw [if_neg c11] at H
                  exact absurd H (by simp)
              · rw [if_neg c9] at H
                exact absurd H (by simp)
            · rw [if_neg c7] at H
              have c7b0 : ((a0.extract (x7_1 : Int).toNat ((wrap64 (x7_1 + (a1.size : Int))) : Int).toNat).toList == a1.toList) = false := beq_eq_false_iff_ne.mpr c7
              have c7b1 : ((a0.extract (x7_1 : Int).toNat ((wrap64 (x7_1 + (a1.size : Int))) : Int).toNat).toList != a1.toList) = true := bne_iff_ne.mpr c7
              have H' := Aside0.mk H
              clear H
              go_wp2
              repeat (go_quiet (fail); try go_wp2)
              go_roundg k1
              case measure => have := HK1.out; omega
              case rel => exact ⟨(wrap64 (x7_1 + 1)), (by first | rfl | (simp; done) | (simp [*]; done)), H', ⟨by have := HK1.out; omega⟩, by repeat (first | exact Drawn0.refl _ | apply Drawn0.step)⟩
          · rw [if_neg c5] at H
            exact absurd H (by simp)
        · rw [if_neg c4] at H
          exact absurd H (by simp)
      · rw [if_neg c3] at H
        have c3b0 : decide ((wrap64 (x7_1 + (a1.size : Int))) ≤ (a0.size : Int)) = false := decide_eq_false c3
        clear c3
        simp only [Option.some.injEq, Prod.mk.injEq] at H
        obtain ⟨rfl, rfl, rfl⟩ := H
        go_wp2
        repeat (go_quiet (fail); try go_wp2)
        go_ret3
        exact ⟨by first | rfl | (simp; done) | (simp [*]; done), by repeat (first | exact Drawn0.refl _ | apply Drawn0.step)⟩

/-! ### deckleref15_split: function 94 -/
def deckleref15_split.l0 : Nat → ByteArray → ByteArray → List ByteArray → Option (List ByteArray)
  | 0, _, _, _ => none
  | k + 1, x0, x1, x5 => (deckleref15_cut.f k x0 x1).bind fun bt389 => (if x5.length < 8796093022208 then ((some (x5 ++ [bt389.1] : List ByteArray)).bind fun y392 => (if bt389.2.2 = true then (deckleref15_split.l0 k bt389.2.1 x1 y392) else (some y392))) else (none))
def deckleref15_split.f (k : Nat) (a0 : ByteArray) (a1 : ByteArray) : Option (List ByteArray) := deckleref15_split.l0 k a0 a1 ([] : List ByteArray)
theorem deckleref15_split.mono_l : ∀ k, (∀ y0 y1 y2, LeO (deckleref15_split.l0 k y0 y1 y2) (deckleref15_split.l0 (k + 1) y0 y1 y2))
  | 0 => fun _ _ _ r h => by simp [deckleref15_split.l0] at h
  | k + 1 => by
    have ih0 := deckleref15_split.mono_l k
    · intro y0 y1 y2
      unfold deckleref15_split.l0
      repeat' first
      | (with_reducible exact ih0 _ _ _)
      | (with_reducible exact deckleref15_cut.mono _ _ _)
      | (with_reducible exact LeO.refl _)
      | (with_reducible exact LeO.none _)
      | (with_reducible refine LeO.ite ?_ ?_)
      | (with_reducible refine LeO.bind ?_ (fun _ => ?_))
      | exact ih0 _ _ _
      | exact deckleref15_cut.mono _ _ _
      | exact LeO.none _
      | refine LeO.ite ?_ ?_
      | refine LeO.bind ?_ (fun _ => ?_)
theorem deckleref15_split.mono : ∀ a0 a1 k, LeO (deckleref15_split.f k a0 a1) (deckleref15_split.f (k + 1) a0 a1) := by
  intro a0 a1 k
  have ih0 := deckleref15_split.mono_l k
  unfold deckleref15_split.f
  repeat' first
      | (with_reducible exact ih0 _ _ _)
      | (with_reducible exact deckleref15_cut.mono _ _ _)
      | (with_reducible exact LeO.refl _)
      | (with_reducible exact LeO.none _)
      | (with_reducible refine LeO.ite ?_ ?_)
      | (with_reducible refine LeO.bind ?_ (fun _ => ?_))
      | exact ih0 _ _ _
      | exact deckleref15_cut.mono _ _ _
      | exact LeO.none _
      | refine LeO.ite ?_ ?_
      | refine LeO.bind ?_ (fun _ => ?_)
set_option maxHeartbeats 8000000 in
set_option maxRecDepth 100000 in
theorem deckleref15_split.calls (k : Nat) (a0 : ByteArray) (a1 : ByteArray) (r : List ByteArray) (w : World) (h : deckleref15_split.f k a0 a1 = some r) :
    Calls Tryd.prog 94 #[.string a0, .string a1] w fun e w' => ∃ v0_ : Value, e = .returned (v0_) ∧ Kd.R Kd.string 9 w' w.heap.size (fun _ => True) v0_ r ∧ Below w.heap.size w w' := by
  have HB := Aside0.mk (Below.refl w.heap.size w)
  have H : (deckleref15_split.l0 k a0 a1 ([] : List ByteArray)) = some r := h
  clear h
  have H' := Aside0.mk H
  clear H
  go_enter Tryd.func94, Tryd.ntmps94
  go_wp2
  go_loopg [0, 5] k (fun kq v0 v5 w' => ∃ (x0_1 : ByteArray) (x5_1 : List ByteArray), v0 = .string x0_1 ∧ Aside0 (deckleref15_split.l0 kq x0_1 a1 x5_1 = some r) ∧ Aside0 (kq ≤ k) ∧ Aside0 (Kd.R Kd.string 9 w' w.heap.size (fun _ => True) v5 x5_1) ∧ Aside0 (Below w.heap.size w w'))
  case atStart => exact ⟨(a0), (([] : List ByteArray)), (by first | rfl | (simp; done) | (simp [*]; done)), H', ⟨Nat.le_refl _⟩, ⟨by first | exact Kd.R_nil _ _ _ _ _ | exact Kd.N_nil _ _ _ _ _ | exact Kd.V_nil _ _ _ _ _ | exact Kd.Q_nil _ _ _ _ _ | exact Kd.S_nil _ _ _ _ _⟩, ⟨by repeat (first | (with_reducible first | exact HB.out | apply below_alloc | apply pw_below_drewN | apply below_drew1) | exact HB.out)⟩⟩
  case round =>
    clear H'
    try clear p2
    obtain ⟨x0_1, x5_1, rfl, HA, HK1, HO_5, HB⟩ := hrel
    cases gk with
    | zero => exact absurd HA.out (by simp [deckleref15_split.l0])
    | succ k1 =>
      have H := HA.out
      clear HA
      simp only [deckleref15_split.l0] at H
      replace H := Option.bind_eq_some_iff.mp H
      obtain ⟨⟨t389, t390, t391⟩, A30, H⟩ := H
      replace H : (if x5_1.length < 8796093022208 then ((some (x5_1 ++ [t389] : List ByteArray)).bind fun y392 => (if t391 = true then (deckleref15_split.l0 k1 t390 a1 y392) else (some y392))) else (none)) = some r := H
      have A3 := Aside0.mk A30
      clear A30
      by_cases c4 : x5_1.length < 8796093022208
      · rw [if_pos c4] at H
        have LMc4 := Aside0.mk c4
        clear c4
        obtain ⟨y392, hy392⟩ : ∃ y_ : List ByteArray, y_ = (x5_1 ++ [t389]) := ⟨_, rfl⟩
        replace H : (if t391 = true then (deckleref15_split.l0 k1 t390 a1 y392) else (some y392)) = some r := by first | (rw [hy392]; with_reducible exact H) | (have H2_ := (Option.bind_some _ _).symm.trans H; rw [hy392]; with_reducible exact H2_) | (have H2_ := (Option.bind_some _ _).symm.trans H; with_reducible exact H2_) | with_reducible exact H | (rw [hy392]; exact H) | exact H
        have Ny392 := Aside0.mk hy392
        clear hy392
        by_cases c5 : t391 = true
        · subst c5
          have H1 : (deckleref15_split.l0 k1 t390 a1 y392) = some r := by rw [if_pos rfl] at H; exact H
          clear H
          have H := H1
          clear H1
          have H' := Aside0.mk H
          clear H
          go_wp2_with (first | ((with_reducible refine gate_callee (f := 95) rfl ?_); refine goesL_ (some 12) rfl rfl Tryd.func95 (by kernel_rfl) rfl #[.string x0_1, .string a1] rfl (by (try simp only [List.map_toArray, List.map_cons, List.map_nil]); first | done | rfl | (simp only [List.length_drop, List.length_take]; rfl)) ?_; (with_reducible refine (deckleref15_cut.calls k1 x0_1 a1 t389 t390 true _ A3.out).mono ?_); rintro e w' ⟨rfl, ⟨nd, rfl⟩⟩; refine ⟨_, rfl, ?_⟩) | ((with_reducible refine gate_builtin (b := .append) (xs := #[.tmp 16, .tmp 18]) rfl ?_); at_builtin; refine Kd.R_append Kd.string (w0 := w) w.heap.size rfl (.tmp 16) (.tmp 18) 33 9 (.string ⟨#[]⟩) 16 rfl Tryd.underlying33 info9 rfl (by decide) (by omega) u5 x5_1 t389 [.string t389] (fun _ => True) (fun _ => False) rfl rfl ?aP (fun _ hk => hk.elim) ?aF ?aO ?aB ?aS ?aL ?_; (case aP => exact rfl); (case aB => exact (by repeat (first | (with_reducible first | exact HB.out | apply below_alloc | apply pw_below_drewN | apply below_drew1) | exact HB.out))); (case aF => exact (fun _ _ => trivial)); (case aO => exact (by (with_reducible repeat (first | apply Kd.R_alloc | apply Kd.R_drewN | apply Kd.R_drew)); exact HO_5.out)); (case aS => exact (below_size (by repeat (first | (with_reducible first | exact HB.out | apply below_alloc | apply pw_below_drewN | apply below_drew1) | exact HB.out)))); (case aL => have := LMc4.out; omega); intro v393 w6 ho hb hg hat; rw [← Ny392.out] at ho; have n0_ := Aside0.mk (hb); have n1_ := Aside0.mk (ho); clear HB; clear HO_5; have HB := n0_; have HO394 := n1_; clear n0_ n1_; clear ho hb hg hat))
          go_roundg k1
          case measure => have := HK1.out; omega
          case rel => exact ⟨(t390), (y392), (by first | rfl | (simp; done) | (simp [*]; done)), H', ⟨by have := HK1.out; omega⟩, ⟨by (with_reducible repeat (first | apply Kd.R_alloc | apply Kd.R_drewN | apply Kd.R_drew)); exact HO394.out⟩, ⟨by repeat (first | (with_reducible first | exact HB.out | apply below_alloc | apply pw_below_drewN | apply below_drew1) | exact HB.out)⟩⟩
        · replace c5 := Bool.eq_false_iff.mpr c5
          subst c5
          have H1 : (some y392) = some r := by rw [if_neg (show ¬ (false = true) by decide)] at H; exact H
          clear H
          have H := H1
          clear H1
          obtain rfl := Option.some.inj H
          go_wp2_with (first | ((with_reducible refine gate_callee (f := 95) rfl ?_); refine goesL_ (some 12) rfl rfl Tryd.func95 (by kernel_rfl) rfl #[.string x0_1, .string a1] rfl (by (try simp only [List.map_toArray, List.map_cons, List.map_nil]); first | done | rfl | (simp only [List.length_drop, List.length_take]; rfl)) ?_; (with_reducible refine (deckleref15_cut.calls k1 x0_1 a1 t389 t390 false _ A3.out).mono ?_); rintro e w' ⟨rfl, ⟨nd, rfl⟩⟩; refine ⟨_, rfl, ?_⟩) | ((with_reducible refine gate_builtin (b := .append) (xs := #[.tmp 16, .tmp 18]) rfl ?_); at_builtin; refine Kd.R_append Kd.string (w0 := w) w.heap.size rfl (.tmp 16) (.tmp 18) 33 9 (.string ⟨#[]⟩) 16 rfl Tryd.underlying33 info9 rfl (by decide) (by omega) u5 x5_1 t389 [.string t389] (fun _ => True) (fun _ => False) rfl rfl ?aP (fun _ hk => hk.elim) ?aF ?aO ?aB ?aS ?aL ?_; (case aP => exact rfl); (case aB => exact (by repeat (first | (with_reducible first | exact HB.out | apply below_alloc | apply pw_below_drewN | apply below_drew1) | exact HB.out))); (case aF => exact (fun _ _ => trivial)); (case aO => exact (by (with_reducible repeat (first | apply Kd.R_alloc | apply Kd.R_drewN | apply Kd.R_drew)); exact HO_5.out)); (case aS => exact (below_size (by repeat (first | (with_reducible first | exact HB.out | apply below_alloc | apply pw_below_drewN | apply below_drew1) | exact HB.out)))); (case aL => have := LMc4.out; omega); intro v393 w7 ho hb hg hat; rw [← Ny392.out] at ho; have n0_ := Aside0.mk (hb); have n1_ := Aside0.mk (ho); clear HB; clear HO_5; have HB := n0_; have HO394 := n1_; clear n0_ n1_; clear ho hb hg hat))
          go_ret
          exact ⟨_, by first | rfl | (simp [errW_none, errW_some] <;> rfl) | (simp [*, errW_none, errW_some] <;> rfl), by (with_reducible repeat (first | apply Kd.R_alloc | apply Kd.R_drewN | apply Kd.R_drew)); exact HO394.out, by repeat (first | (with_reducible first | exact HB.out | apply below_alloc | apply pw_below_drewN | apply below_drew1) | exact HB.out)⟩
      · rw [if_neg c4] at H
        exact absurd H (by simp)

end Go.Proofs.YtmddkjmcbddhiaaDoor.P
end
section
namespace Go.Proofs.YtmddkjmcbddhiaaDoor.P
open Go.RowKit Go.Proofs.YtmddkjmcbddhiaaDoorW.PrintWords Go.Proofs.YtmddkjmcbddhiaaDoor.Sp
set_option linter.unusedVariables false
set_option linter.unusedSimpArgs false

/-- What stands ahead of the first p, what behind it, and whether there is one. -/
def cutL (p : List UInt8) : List UInt8 → List UInt8 × List UInt8 × Bool
  | [] => ([], [], false)
  | c :: t => if p <+: c :: t then ([], (c :: t).drop p.length, true) else (c :: (cutL p t).1, (cutL p t).2.1, (cutL p t).2.2)
def cutA (s p : ByteArray) : ByteArray := ⟨(cutL p.data.toList s.data.toList).1.toArray⟩
def cutB (s p : ByteArray) : ByteArray := ⟨(cutL p.data.toList s.data.toList).2.1.toArray⟩
def cutK (s p : ByteArray) : Bool := (cutL p.data.toList s.data.toList).2.2
theorem ba_ext {a b : ByteArray} (h : a.data.toList = b.data.toList) : a = b := by
  cases a; cases b
  simp only [ByteArray.mk.injEq]
  exact Array.toList_inj.1 h
theorem cutL_short {p : List UInt8} : ∀ {l : List UInt8}, l.length < p.length → cutL p l = (l, [], false)
  | [], _ => rfl
  | c :: t, h => by
    have hn : ¬ p <+: c :: t := fun hh => by have := hh.length_le; omega
    have ht : t.length < p.length := by simp at h; omega
    simp only [cutL, if_neg hn, cutL_short ht]
theorem cutL_len (p : List UInt8) : ∀ l : List UInt8, (cutL p l).1.length + (cutL p l).2.1.length ≤ l.length ∧ ((cutL p l).2.2 = true → (cutL p l).1.length + p.length + (cutL p l).2.1.length = l.length)
  | [] => by simp [cutL]
  | c :: t => by
    have ih := cutL_len p t
    unfold cutL
    split
    · rename_i h
      have := h.length_le
      refine ⟨by simp, fun _ => ?_⟩
      simp only [List.length_nil, List.length_drop]
      omega
    · refine ⟨by simp only [List.length_cons]; omega, fun hk => ?_⟩
      have := ih.2 hk
      simp only [List.length_cons]
      omega
theorem ext_mid (s : ByteArray) (i n : Nat) : (s.extract i (i + n)).toList = (s.data.toList.drop i).take n := by
  rw [ByteArray.toList_eq]
  simp [List.drop_take]
theorem take_eq_iff {p l : List UInt8} : l.take p.length = p ↔ p <+: l := by
  constructor
  · intro h; exact h ▸ List.take_prefix _ _
  · intro h; exact (List.prefix_iff_eq_take.1 h).symm

theorem wrap_sum {a b : Nat} (h : a + b ≤ 9223372036854775807) : wrap64 ((a : Int) + (b : Int)) = ((a + b : Nat) : Int) := by
  unfold wrap64
  omega
theorem cut_ev (s p : ByteArray) (hp : 0 < p.size) (hs : s.size ≤ 1099511627776) (hps : p.size ≤ 1099511627776) : Ev (fun k => deckleref15_cut.f k s p) (cutA s p, cutB s p, cutK s p) := by
  have hlp := length_data p
  have hls := length_data s
  have key : ∀ d i : Nat, s.size ≤ i + d → i ≤ s.size → Ev (fun k => deckleref15_cut.l0 k s p (i : Int)) (⟨(s.data.toList.take i ++ (cutL p.data.toList (s.data.toList.drop i)).1).toArray⟩, ⟨(cutL p.data.toList (s.data.toList.drop i)).2.1.toArray⟩, (cutL p.data.toList (s.data.toList.drop i)).2.2) := by
    intro d
    induction d with
    | zero =>
      intro i hd hi
      have e : i = s.size := by omega
      refine Ev.step (f := fun _ => some _) (fun k => ?_) (Ev.now _)
      rw [deckleref15_cut.l0, wrap_sum (a := i) (b := p.size) (by omega), if_neg (by omega), cutL_short (by rw [List.length_drop]; omega)]
      simp only [Option.some.injEq, Prod.mk.injEq, and_true]
      refine ba_ext ?_
      simp
    | succ d ih =>
      intro i hd hi
      by_cases h1 : i + p.size ≤ s.size
      · have hlt : i < s.data.toList.length := by omega
        have hdr : s.data.toList.drop i = s.data.toList[i] :: s.data.toList.drop (i + 1) := List.drop_eq_getElem_cons hlt
        by_cases h2 : p.data.toList <+: s.data.toList.drop i
        · refine Ev.step (f := fun _ => some _) (fun k => ?_) (Ev.now _)
          have h3 : (s.extract i (i + p.size)).toList = p.toList := by
            rw [ext_mid, ByteArray.toList_eq, ← hlp]
            exact take_eq_iff.2 h2
          have h4 : cutL p.data.toList (s.data.toList.drop i) = ([], (s.data.toList.drop i).drop p.data.toList.length, true) := by
            rw [hdr] at h2 ⊢
            simp only [cutL, if_pos h2]
          rw [deckleref15_cut.l0, wrap_sum (a := i) (b := p.size) (by omega), if_pos (by omega), if_pos (by omega), if_pos (by omega)]
          simp only [Int.toNat_natCast]
          rw [if_pos h3, if_pos (by omega), if_pos (by omega), h4]
          simp only [Option.some.injEq, Prod.mk.injEq, and_true]
          refine ⟨ba_ext ?_, ba_ext ?_⟩
          · rw [ext_take_data]; simp
          · rw [extract_data]; simp [hlp, Nat.add_comm]
        · have h3 : ¬ (s.extract i (i + p.size)).toList = p.toList := by
            rw [ext_mid, ByteArray.toList_eq, ← hlp]
            exact fun h => h2 (take_eq_iff.1 h)
          have h4 : cutL p.data.toList (s.data.toList.drop i) = (s.data.toList[i] :: (cutL p.data.toList (s.data.toList.drop (i + 1))).1, (cutL p.data.toList (s.data.toList.drop (i + 1))).2.1, (cutL p.data.toList (s.data.toList.drop (i + 1))).2.2) := by
            rw [hdr] at h2 ⊢
            simp only [cutL, if_neg h2]
          refine Ev.step (fun k => ?_) (by rw [h4]; have := ih (i + 1) (by omega) (by omega); rw [List.take_add_one, List.getElem?_eq_getElem hlt] at this; simpa using this)
          rw [deckleref15_cut.l0, wrap_sum (a := i) (b := p.size) (by omega), if_pos (by omega), if_pos (by omega), if_pos (by omega)]
          simp only [Int.toNat_natCast]
          rw [if_neg h3, wrap_nat (m := i + 1) (by omega) (by omega)]
          simp
      · refine Ev.step (f := fun _ => some _) (fun k => ?_) (Ev.now _)
        rw [deckleref15_cut.l0, wrap_sum (a := i) (b := p.size) (by omega), if_neg (by omega), cutL_short (by rw [List.length_drop]; omega)]
        simp only [Option.some.injEq, Prod.mk.injEq, and_true]
        refine ba_ext ?_
        simp
  have h := key s.size 0 (by omega) (by omega)
  simpa [deckleref15_cut.f, cutA, cutB, cutK] using h

/-- The parts between. -/
def splitB (p : ByteArray) : Nat → ByteArray → List ByteArray
  | 0, s => [s]
  | n + 1, s => if cutK s p = true then cutA s p :: splitB p n (cutB s p) else [cutA s p]
theorem cutB_less {s p : ByteArray} (hp : 0 < p.size) (h : cutK s p = true) : (cutB s p).size < s.size := by
  have h1 := (cutL_len p.data.toList s.data.toList).2 h
  have e1 := length_data p
  have e2 := length_data s
  have e3 : (cutB s p).size = (cutL p.data.toList s.data.toList).2.1.length := by simp [cutB, ByteArray.size]
  omega
theorem cutB_le (s p : ByteArray) : (cutB s p).size ≤ s.size := by
  have h1 := (cutL_len p.data.toList s.data.toList).1
  have e2 := length_data s
  have e3 : (cutB s p).size = (cutL p.data.toList s.data.toList).2.1.length := by simp [cutB, ByteArray.size]
  omega
theorem cutA_le (s p : ByteArray) : (cutA s p).size ≤ s.size := by
  have h1 := (cutL_len p.data.toList s.data.toList).1
  have e2 := length_data s
  have e3 : (cutA s p).size = (cutL p.data.toList s.data.toList).1.length := by simp [cutA, ByteArray.size]
  omega
theorem split_ev (p : ByteArray) (hp : 0 < p.size) (hps : p.size ≤ 1099511627776) : ∀ (n : Nat) (s : ByteArray) (acc : List ByteArray), s.size ≤ n → s.size ≤ 1099511627776 → acc.length + n ≤ 1099511627776 →
    Ev (fun k => deckleref15_split.l0 k s p acc) (acc ++ splitB p (n + 1) s) := by
  intro n
  induction n with
  | zero =>
    intro s acc h1 h2 h3
    obtain ⟨K, hK⟩ := cut_ev s p hp h2 hps
    have hk : cutK s p = false := by
      cases h : cutK s p with
      | false => rfl
      | true => have := cutB_less hp h; omega
    refine ⟨K + 1, fun k hk2 => ?_⟩
    obtain ⟨m, rfl⟩ : ∃ m, k = m + 1 := ⟨k - 1, by omega⟩
    simp only [deckleref15_split.l0, hK m (by omega), Option.bind_some, if_pos (show acc.length < 8796093022208 by omega), hk, splitB, Bool.false_eq_true, if_false]
  | succ n ih =>
    intro s acc h1 h2 h3
    obtain ⟨K, hK⟩ := cut_ev s p hp h2 hps
    cases hk : cutK s p with
    | false =>
      refine ⟨K + 1, fun k hk2 => ?_⟩
      obtain ⟨m, rfl⟩ : ∃ m, k = m + 1 := ⟨k - 1, by omega⟩
      simp only [deckleref15_split.l0, hK m (by omega), Option.bind_some, if_pos (show acc.length < 8796093022208 by omega), hk, splitB, Bool.false_eq_true, if_false]
    | true =>
      have hl := cutB_less hp hk
      obtain ⟨K2, hK2⟩ := ih (cutB s p) (acc ++ [cutA s p]) (by omega) (by omega) (by rw [List.length_append, List.length_singleton]; omega)
      refine ⟨K + K2 + 1, fun k hk2 => ?_⟩
      obtain ⟨m, rfl⟩ : ∃ m, k = m + 1 := ⟨k - 1, by omega⟩
      simp only [deckleref15_split.l0, hK m (by omega), Option.bind_some, if_pos (show acc.length < 8796093022208 by omega), hk, if_true]
      refine (hK2 m (by omega)).trans ?_
      have e : splitB p (n + 1 + 1) s = cutA s p :: splitB p (n + 1) (cutB s p) := by
        rw [splitB.eq_2 p s (n + 1), if_pos hk]
      rw [e]
      simp
/-- The parts of a text. -/
def parts (s p : ByteArray) : List ByteArray := splitB p (s.size + 1) s
theorem split_f (s p : ByteArray) (hp : 0 < p.size) (hps : p.size ≤ 1099511627776) (hs : s.size ≤ 1099511627776) : Ev (fun k => deckleref15_split.f k s p) (parts s p) := by
  have h := split_ev p hp hps s.size s [] (Nat.le_refl _) hs (by simpa using hs)
  simpa [deckleref15_split.f, parts] using h
theorem parts_cons (s p : ByteArray) : ∃ t, parts s p = cutA s p :: t := by
  unfold parts splitB
  split <;> exact ⟨_, rfl⟩
end Go.Proofs.YtmddkjmcbddhiaaDoor.P
end
section
namespace Go.Proofs.YtmddkjmcbddhiaaDoor.P
open Go.RowKit Go.Proofs.YtmddkjmcbddhiaaDoorW.PrintWords Go.Proofs.YtmddkjmcbddhiaaDoor.Sp
set_option linter.unusedVariables false
set_option linter.unusedSimpArgs false

/-- A sign that stands between names. -/
def sepB (c : UInt8) : Prop := c = 32 ∨ c = 40 ∨ c = 41 ∨ c = 59
theorem gW_sep {c : UInt8} (t : List UInt8) (h : sepB c) : gW (c :: t) = 0 ∧ bgW (c :: t) = 0 := by
  rcases h with rfl | rfl | rfl | rfl <;> (constructor <;> simp [gW, gN, bgW, bgN, letN, at8])
theorem gW_gets (t : List UInt8) : gW (226 :: 134 :: 144 :: t) = 0 ∧ bgW (226 :: 134 :: 144 :: t) = 0 := by
  constructor <;> simp [gW, gN, bgW, bgN, letN, at8]
theorem name_sep {x : List UInt8} {c : UInt8} (h : isName x = true) (hc : sepB c) (t : List UInt8) (u : List UInt8) : ¬ x ++ t = c :: u := by
  intro e
  have h1 := ((isName_iff x).1 h).1
  match x, h1, e with
  | [], h1, _ => exact h1 bgW_nil
  | a :: y, h1, e =>
    simp only [List.cons_append, List.cons.injEq] at e
    rw [e.1] at h1
    exact h1 (gW_sep y hc).2
theorem word_name {s x : ByteArray} {t : List UInt8} (hs : s.data.toList = x.data.toList ++ t) (hx : isName x.data.toList = true) (ht : gW t = 0) : wordA s = x ∧ (wordB s).data.toList = t := by
  have hn := nameLen_name hx ht
  unfold wordA wordB
  rw [hs, hn]
  refine ⟨ba_ext ?_, ?_⟩
  · rw [ext_take_data, hs]; simp
  · rw [extract_data, hs]; simp
theorem word_none {s : ByteArray} (h : bgW s.data.toList = 0) : wordA s = nilS ∧ (wordB s).data.toList = s.data.toList := by
  have hn := nameLen_zero h
  unfold wordA wordB
  rw [hn]
  refine ⟨ba_ext ?_, ?_⟩
  · rw [ext_take_data]; simp
  · rw [extract_data]; simp
theorem skip_yes {s p : ByteArray} {t : List UInt8} (hs : s.data.toList = p.data.toList ++ t) : skipA s p = true ∧ (skipB s p).data.toList = t := by
  have h1 : skipA s p = true := decide_eq_true ⟨t, hs.symm⟩
  refine ⟨h1, ?_⟩
  unfold skipB
  rw [if_pos h1, extract_data, hs, ← length_data p]
  simp
theorem skip_no {s p : ByteArray} (h : ¬ p.data.toList <+: s.data.toList) : skipA s p = false := decide_eq_false h
theorem pre1 {c d : UInt8} {p t : List UInt8} (h : c ≠ d) : ¬ c :: p <+: d :: t := fun hh => h (List.cons_prefix_cons.1 hh).1
/-- The locals' text. -/
def locs (ls : List ByteArray) : List UInt8 := (bys ls).flatMap (fun s => 59 :: s)
theorem locs_cons (x : ByteArray) (ls : List ByteArray) : locs (x :: ls) = 59 :: (x.data.toList ++ locs ls) := by simp [locs, bys]
theorem gW_locs (ls : List ByteArray) : gW (locs ls) = 0 ∧ bgW (locs ls) = 0 := by
  cases ls with
  | nil => exact ⟨gW_nil, bgW_nil⟩
  | cons x t => rw [locs_cons]; exact gW_sep _ (.inr (.inr (.inr rfl)))
theorem locs_no (ls : List ByteArray) {c : UInt8} {p : List UInt8} (hc : c ≠ 59) : ¬ c :: p <+: locs ls := by
  cases ls with
  | nil => intro h; simp [locs, bys] at h
  | cons x t => rw [locs_cons]; exact pre1 hc
theorem locLoop_all : ∀ (ls : List ByteArray) (k : Nat) (s : ByteArray) (acc : List ByteArray), (∀ x ∈ ls, isName x.data.toList = true) → s.data.toList = locs ls → s.size < k → locLoop k s acc = (nilS, acc ++ ls)
  | _, 0, s, acc, _, _, hk => by omega
  | [], k + 1, s, acc, _, hs, hk => by
    have h1 : s = nilS := ba_ext hs
    have h2 : skipA nilS semiS = false := by decide
    rw [h1, locLoop, h2]
    simp
  | x :: t, k + 1, s, acc, hn, hs, hk => by
    rw [locs_cons] at hs
    obtain ⟨h1, h2⟩ := skip_yes (s := s) (p := semiS) (t := x.data.toList ++ locs t) hs
    obtain ⟨h3, h4⟩ := word_name h2 (hn x (List.mem_cons_self ..)) (gW_locs t).1
    have h5 := skipB_less h1 (by decide)
    have h6 := wordB_size (skipB s semiS)
    rw [locLoop, if_pos h1, h3, locLoop_all t k _ _ (fun y hy => hn y (List.mem_cons_of_mem _ hy)) h4 (by omega)]
    simp

/-- What a right header's names are. -/
structure HOk (R : Raw) : Prop where
  a : R.a.data.toList = [] ∨ isName R.a.data.toList = true
  b : R.b.data.toList = [] ∨ isName R.b.data.toList = true
  c : isName R.c.data.toList = true
  d : R.d.data.toList = [] ∨ isName R.d.data.toList = true
  e : R.e.data.toList = [] ∨ isName R.e.data.toList = true
  f : R.f.data.toList = [] ∨ isName R.f.data.toList = true
  ls : ∀ x ∈ R.ls, isName x.data.toList = true
  rt : R.d.data.toList = [] → R.b.data.toList = [] ∧ R.e.data.toList = []
  g : R.e.data.toList = [] → R.f.data.toList = []
theorem mayB_iff {l : List UInt8} : mayB l = true ↔ l = [] ∨ isName l = true := by
  unfold mayB
  rw [Bool.or_eq_true, List.isEmpty_iff]
theorem Raw.hok {R : Raw} (h : R.ok = true) : HOk R := by
  have hc := hdrOk_name (show hdrOk R.a.data.toList R.b.data.toList R.c.data.toList R.d.data.toList R.e.data.toList R.f.data.toList (bys R.ls) = true from h)
  unfold Raw.ok hdrOk at h
  simp only [Bool.and_eq_true, List.all_append, List.all_cons, mayB_iff] at h
  obtain ⟨⟨⟨⟨⟨h1, h2⟩, h3⟩, h4⟩, h5⟩, _⟩ := h
  obtain ⟨⟨ha, hb, _, hd, he, hf, _⟩, hls⟩ := h2
  refine ⟨ha, hb, hc, hd, he, hf, fun x hx => ?_, fun hz => ?_, fun hz => ?_⟩
  · have hx2 : x.data.toList ∈ bys R.ls := List.mem_map_of_mem hx
    rcases mayB_iff.1 (List.all_eq_true.1 hls _ hx2) with h6 | h6
    · have h7 := List.all_eq_true.1 h3 _ hx2
      rw [h6] at h7
      simp at h7
    · exact h6
  · rw [hz] at h4
    simpa using h4
  · rw [hz] at h5
    simpa using h5

theorem st4_all {s : ByteArray} {ls : List ByteArray} (a b c d e f : ByteArray) (hn : ∀ x ∈ ls, isName x.data.toList = true) (hs : s.data.toList = locs ls) : st4 s a b c d e f = ⟨nilS, a, b, c, d, e, f, ls⟩ := by
  unfold st4
  rw [locLoop_all ls (s.size + 1) s [] hn hs (Nat.lt_succ_self _)]
  simp
theorem st3_locs {s : ByteArray} {ls : List ByteArray} (a b c d e f : ByteArray) (hn : ∀ x ∈ ls, isName x.data.toList = true) (hs : s.data.toList = locs ls) : st3 s a b c d e f = ⟨nilS, a, b, c, d, e, f, ls⟩ := by
  unfold st3
  rw [if_neg, st4_all a b c d e f hn hs]
  intro h
  have := of_decide_eq_true h.2
  rw [hs] at this
  exact locs_no ls (by decide) this
/-- What stands behind the name, or the brackets. -/
def rtl (rt : ByteArray) (ls : List ByteArray) : List UInt8 := (if rt.data.toList = [] then [] else 32 :: rt.data.toList) ++ locs ls
theorem gW_rtl (rt : ByteArray) (ls : List ByteArray) : gW (rtl rt ls) = 0 ∧ bgW (rtl rt ls) = 0 := by
  unfold rtl
  split
  · exact gW_locs ls
  · exact gW_sep _ (.inl rfl)
theorem rtl_no {rt : ByteArray} {ls : List ByteArray} {c : UInt8} {p : List UInt8} (h1 : c ≠ 32) (h2 : c ≠ 59) : ¬ c :: p <+: rtl rt ls := by
  unfold rtl
  split
  · exact locs_no ls h2
  · exact pre1 h1
/-- Behind a name alone, or the brackets: what is right, and the locals. -/
theorem st2_tail {s rt : ByteArray} {ls : List ByteArray} (a b c e f : ByteArray) (hrt : rt.data.toList = [] ∨ isName rt.data.toList = true) (hn : ∀ x ∈ ls, isName x.data.toList = true)
    (hs : s.data.toList = rtl rt ls) : st2 s a b c nilS e f = ⟨nilS, a, b, c, rt, e, f, ls⟩ := by
  unfold st2
  unfold rtl at hs
  rcases hrt with h | h
  · rw [if_pos h, List.nil_append] at hs
    have h1 : skipA s gapS = false := skip_no (by rw [hs]; exact locs_no ls (by decide))
    have h2 : rt = nilS := ba_ext h
    rw [h1, if_neg (by simp), st3_locs a b c nilS e f hn hs, h2]
  · rw [if_neg (isName_ne h)] at hs
    obtain ⟨h1, h2⟩ := skip_yes (s := s) (p := gapS) (t := rt.data.toList ++ locs ls) (by rw [hs]; rfl)
    obtain ⟨h3, h4⟩ := word_name h2 h (gW_locs ls).1
    rw [if_pos h1, h3, st3_locs a b c rt e f hn h4]
/-- Of a name with one at its left. -/
theorem st2_left {s nm rt : ByteArray} {ls : List ByteArray} (a c : ByteArray) (hnm : isName nm.data.toList = true) (hrt : isName rt.data.toList = true) (hn : ∀ x ∈ ls, isName x.data.toList = true)
    (hs : s.data.toList = 32 :: (nm.data.toList ++ rtl rt ls)) : st2 s a nilS c nilS nilS nilS = ⟨nilS, a, c, nm, rt, nilS, nilS, ls⟩ := by
  obtain ⟨h1, h2⟩ := skip_yes (s := s) (p := gapS) (t := nm.data.toList ++ rtl rt ls) (by rw [hs]; rfl)
  obtain ⟨h3, h4⟩ := word_name h2 hnm (gW_rtl rt ls).1
  have h5 : rtl rt ls = 32 :: (rt.data.toList ++ locs ls) := by unfold rtl; rw [if_neg (isName_ne hrt)]; rfl
  rw [h5] at h4
  obtain ⟨h6, h7⟩ := skip_yes (s := wordB (skipB s gapS)) (p := gapS) (t := rt.data.toList ++ locs ls) (by rw [h4]; rfl)
  obtain ⟨h8, h9⟩ := word_name h7 hrt (gW_locs ls).1
  unfold st2
  rw [if_pos h1, h3]
  unfold st3
  rw [if_pos ⟨rfl, h6⟩, h8, st4_all a c nm rt nilS nilS hn h9]
/-- What stands in brackets. -/
theorem op_all {s f nm g : ByteArray} {t : List UInt8} (hf : isName f.data.toList = true) (hnm : isName nm.data.toList = true) (hg : g.data.toList = [] ∨ isName g.data.toList = true)
    (hs : s.data.toList = f.data.toList ++ 32 :: (nm.data.toList ++ ((if g.data.toList = [] then [] else 32 :: g.data.toList) ++ 41 :: t))) :
    opF s = f ∧ opN s = nm ∧ opG s nilS = g ∧ (opR s).data.toList = t := by
  obtain ⟨h1, h2⟩ := word_name hs hf (gW_sep _ (.inl rfl)).1
  obtain ⟨h3, h4⟩ := skip_yes (s := wordB s) (p := gapS) (by rw [h2]; rfl)
  have hst : gW ((if g.data.toList = [] then [] else 32 :: g.data.toList) ++ 41 :: t) = 0 := by
    split
    · exact (gW_sep _ (.inr (.inr (.inl rfl)))).1
    · exact (gW_sep _ (.inl rfl)).1
  obtain ⟨h5, h6⟩ := word_name h4 hnm hst
  have e2 : (op2 s).data.toList = (if g.data.toList = [] then [] else 32 :: g.data.toList) ++ 41 :: t := by unfold op2 op1; exact h6
  refine ⟨by unfold opF; exact h1, by unfold opN op1; exact h5, ?_, ?_⟩
  · rcases hg with hg | hg
    · rw [if_pos hg, List.nil_append] at e2
      have h7 : skipA (op2 s) gapS = false := skip_no (by rw [e2]; exact pre1 (by decide))
      unfold opG
      rw [h7, if_neg (by simp)]
      exact (ba_ext hg).symm
    · rw [if_neg (isName_ne hg)] at e2
      obtain ⟨h7, h8⟩ := skip_yes (s := op2 s) (p := gapS) (t := g.data.toList ++ 41 :: t) (by rw [e2]; rfl)
      obtain ⟨h9, _⟩ := word_name h8 hg (gW_sep _ (.inr (.inr (.inl rfl)))).1
      unfold opG
      rw [if_pos h7, h9]
  · have e3 : (op3 s).data.toList = 41 :: t := by
      rcases hg with hg | hg
      · rw [if_pos hg, List.nil_append] at e2
        have h7 : skipA (op2 s) gapS = false := skip_no (by rw [e2]; exact pre1 (by decide))
        unfold op3
        rw [h7, if_neg (by simp), e2]
      · rw [if_neg (isName_ne hg)] at e2
        obtain ⟨h7, h8⟩ := skip_yes (s := op2 s) (p := gapS) (t := g.data.toList ++ 41 :: t) (by rw [e2]; rfl)
        obtain ⟨_, h9⟩ := word_name h8 hg (gW_sep _ (.inr (.inr (.inl rfl)))).1
        unfold op3
        rw [if_pos h7, h9]
    unfold opR
    exact (skip_yes (s := op3 s) (p := ⟨#[41]⟩) (t := t) (by rw [e3]; rfl)).2
/-- The name, or the brackets. -/
def mid (nm f g : List UInt8) : List UInt8 := if f = [] then nm else 40 :: (f ++ 32 :: (nm ++ ((if g = [] then [] else 32 :: g) ++ [41])))
theorem text_eq (R : Raw) : R.text = putS R.a.data.toList [226, 134, 144] ++ (putS R.b.data.toList [32] ++ (mid R.c.data.toList R.e.data.toList R.f.data.toList ++ rtl R.d R.ls)) := by
  unfold Raw.text hdrText mid rtl locs
  by_cases h : R.e.data.toList = []
  · simp [h]
  · simp [h]
theorem pre_no {c d : UInt8} {p l : List UInt8} (h : ∀ t, l ≠ c :: t) : ¬ c :: p <+: l := fun ⟨t, e⟩ => h (p ++ t) e.symm
theorem name_no {x : List UInt8} (h : isName x = true) {c : UInt8} (hc : sepB c) (u p : List UInt8) : ¬ c :: p <+: x ++ u := fun ⟨t, e⟩ => name_sep h hc u (p ++ t) e.symm
theorem st1_all {R : Raw} (h : HOk R) (s a : ByteArray) (hs : s.data.toList = putS R.b.data.toList [32] ++ (mid R.c.data.toList R.e.data.toList R.f.data.toList ++ rtl R.d R.ls)) :
    st1 (wordA s) (wordB s) a = ⟨nilS, a, R.b, R.c, R.d, R.e, R.f, R.ls⟩ ∧ ¬ getsS.data.toList <+: (wordB s).data.toList := by
  by_cases he : R.e.data.toList = []
  · have he2 : R.e = nilS := ba_ext he
    have hf2 : R.f = nilS := ba_ext (h.g he)
    have hm : mid R.c.data.toList R.e.data.toList R.f.data.toList = R.c.data.toList := by unfold mid; rw [if_pos he]
    rw [hm] at hs
    rcases h.b with hb | hb
    · have hb2 : R.b = nilS := ba_ext hb
      rw [hb, putS, if_pos rfl, List.nil_append] at hs
      obtain ⟨h1, h2⟩ := word_name hs h.c (gW_rtl R.d R.ls).1
      refine ⟨?_, by rw [h2]; exact rtl_no (by decide) (by decide)⟩
      have h3 : skipA (wordB s) gapOpenS = false := by
        refine skip_no ?_
        rw [h2]
        unfold rtl
        rcases h.d with hd | hd
        · rw [if_pos hd, List.nil_append]; exact locs_no _ (by decide)
        · rw [if_neg (isName_ne hd)]
          intro hh
          exact name_no hd (.inr (.inl rfl)) (locs R.ls) [] (List.cons_prefix_cons.1 hh).2
      unfold st1
      rw [h1, if_neg (fun hh => isName_ne h.c hh.1), h3, if_neg (by simp), st2_tail a nilS R.c nilS nilS h.d h.ls h2, hb2, he2, hf2]
    · have hd : isName R.d.data.toList = true := by
        rcases h.d with hd | hd
        · exact absurd (h.rt hd).1 (isName_ne hb)
        · exact hd
      have hs2 : s.data.toList = R.b.data.toList ++ 32 :: (R.c.data.toList ++ rtl R.d R.ls) := by
        rw [hs]; unfold putS; rw [if_neg (isName_ne hb)]; simp
      obtain ⟨h1, h2⟩ := word_name hs2 hb (gW_sep _ (.inl rfl)).1
      refine ⟨?_, by rw [h2]; exact pre1 (by decide)⟩
      have h3 : skipA (wordB s) gapOpenS = false := by
        refine skip_no ?_
        rw [h2]
        intro hh
        exact name_no h.c (.inr (.inl rfl)) (rtl R.d R.ls) [] (List.cons_prefix_cons.1 hh).2
      unfold st1
      rw [h1, if_neg (fun hh => isName_ne hb hh.1), h3, if_neg (by simp), st2_left a R.b h.c hd h.ls h2, he2, hf2]
  · have hen : isName R.e.data.toList = true := by
      rcases h.e with h1 | h1
      · exact absurd h1 he
      · exact h1
    have hm : mid R.c.data.toList R.e.data.toList R.f.data.toList ++ rtl R.d R.ls = 40 :: (R.e.data.toList ++ 32 :: (R.c.data.toList ++ ((if R.f.data.toList = [] then [] else 32 :: R.f.data.toList) ++ 41 :: rtl R.d R.ls))) := by
      unfold mid
      rw [if_neg he]
      simp
    rw [hm] at hs
    rcases h.b with hb | hb
    · have hb2 : R.b = nilS := ba_ext hb
      rw [hb, putS, if_pos rfl, List.nil_append] at hs
      obtain ⟨h1, h2⟩ := word_none (s := s) (by rw [hs]; exact (gW_sep _ (.inr (.inl rfl))).2)
      rw [hs] at h2
      refine ⟨?_, by rw [h2]; exact pre1 (by decide)⟩
      obtain ⟨h3, h4⟩ := skip_yes (s := wordB s) (p := openS) (t := R.e.data.toList ++ 32 :: (R.c.data.toList ++ ((if R.f.data.toList = [] then [] else 32 :: R.f.data.toList) ++ 41 :: rtl R.d R.ls))) (by rw [h2]; rfl)
      obtain ⟨h5, h6, h7, h8⟩ := op_all hen h.c h.f h4
      unfold st1
      rw [h1, if_pos ⟨rfl, h3⟩, h5, h6, h7, st2_tail a nilS R.c R.e R.f h.d h.ls h8, hb2]
    · have hs2 : s.data.toList = R.b.data.toList ++ 32 :: 40 :: (R.e.data.toList ++ 32 :: (R.c.data.toList ++ ((if R.f.data.toList = [] then [] else 32 :: R.f.data.toList) ++ 41 :: rtl R.d R.ls))) := by
        rw [hs]; unfold putS; rw [if_neg (isName_ne hb)]; simp
      obtain ⟨h1, h2⟩ := word_name hs2 hb (gW_sep _ (.inl rfl)).1
      refine ⟨?_, by rw [h2]; exact pre1 (by decide)⟩
      obtain ⟨h3, h4⟩ := skip_yes (s := wordB s) (p := gapOpenS) (t := R.e.data.toList ++ 32 :: (R.c.data.toList ++ ((if R.f.data.toList = [] then [] else 32 :: R.f.data.toList) ++ 41 :: rtl R.d R.ls))) (by rw [h2]; rfl)
      obtain ⟨h5, h6, h7, h8⟩ := op_all hen h.c h.f h4
      unfold st1
      rw [h1, if_neg (fun hh => isName_ne hb hh.1), if_pos h3, h5, h6, h7, st2_tail a R.b R.c R.e R.f h.d h.ls h8]

/-- A right header is guessed of its text as it was, and nothing is left. -/
theorem st0_text {R : Raw} (h : R.ok = true) {s : ByteArray} (hs : s.data.toList = R.text) : st0 s = ⟨nilS, R.a, R.b, R.c, R.d, R.e, R.f, R.ls⟩ := by
  have hk := Raw.hok h
  rw [text_eq] at hs
  rcases hk.a with ha | ha
  · have ha2 : R.a = nilS := ba_ext ha
    rw [ha, putS, if_pos rfl, List.nil_append] at hs
    obtain ⟨h1, h2⟩ := st1_all hk s nilS hs
    unfold st0
    rw [skip_no h2, if_neg (by simp), h1, ha2]
  · have hs2 : s.data.toList = R.a.data.toList ++ (226 :: 134 :: 144 :: (putS R.b.data.toList [32] ++ (mid R.c.data.toList R.e.data.toList R.f.data.toList ++ rtl R.d R.ls))) := by
      rw [hs, putS, if_neg (isName_ne ha)]; simp
    obtain ⟨h1, h2⟩ := word_name hs2 ha (gW_gets _).1
    obtain ⟨h3, h4⟩ := skip_yes (s := wordB s) (p := getsS) (t := putS R.b.data.toList [32] ++ (mid R.c.data.toList R.e.data.toList R.f.data.toList ++ rtl R.d R.ls)) (by rw [h2]; rfl)
    obtain ⟨h5, _⟩ := st1_all hk (skipB (wordB s) getsS) R.a h4
    unfold st0
    rw [if_pos h3, h1, h5]
theorem mid_ne {nm f g : List UInt8} (h : nm ≠ []) : mid nm f g ≠ [] := by
  unfold mid
  split
  · exact h
  · simp
theorem text_ne {R : Raw} (h : R.ok = true) : R.text ≠ [] := by
  have hk := Raw.hok h
  rw [text_eq]
  have := mid_ne (f := R.e.data.toList) (g := R.f.data.toList) (isName_ne hk.c)
  simp [this]
/-- What is right is read. -/
theorem reads_text {R : Raw} (h : R.ok = true) {s : ByteArray} (hs : s.data.toList = R.text) : reads s = true := by
  rw [reads_iff, st0_text h hs]
  exact ⟨rfl, by rw [hs]; exact text_ne h, h, hs.symm⟩
end Go.Proofs.YtmddkjmcbddhiaaDoor.P
end
section
namespace Go.Proofs.YtmddkjmcbddhiaaDoor.P
open Go.RowKit Go.Proofs.YtmddkjmcbddhiaaDoorW.PrintWords Go.Proofs.YtmddkjmcbddhiaaDoor.Sp
set_option linter.unusedVariables false
set_option linter.unusedSimpArgs false

theorem u8_of {a : UInt8} {n : Nat} (h : a.toNat = n) (hn : n < 256) : a = UInt8.ofNat n := by
  rw [← h]
  exact (UInt8.ofNat_toNat).symm
/-- The signs of a name. -/
theorem sign_cases {l : List UInt8} (h : gW l ≠ 0) : (∃ a t, l = a :: t ∧ gW l = 1 ∧ ¬ sepB a ∧ a ≠ 226) ∨ (∃ t, l = 194 :: 175 :: t ∧ gW l = 2) ∨ (∃ t, l = 226 :: 136 :: 134 :: t ∧ gW l = 3) ∨ (∃ t, l = 226 :: 141 :: 153 :: t ∧ gW l = 3) := by
  have one : ∀ (a : UInt8) (t : List UInt8), (48 ≤ a.toNat ∧ a.toNat ≤ 57) ∨ letN a.toNat = true → ¬ sepB a ∧ a ≠ 226 := by
    intro a t ha
    have hb : (48 ≤ a.toNat ∧ a.toNat ≤ 57) ∨ (65 ≤ a.toNat ∧ a.toNat ≤ 122) := ha.imp id letN_pos
    refine ⟨fun hs => ?_, fun e => by rw [e] at hb; revert hb; decide⟩
    rcases hs with rfl | rfl | rfl | rfl <;> (revert hb; decide)
  unfold gW gN bgN at h ⊢
  match l, h with
  | [], h => simp [letN, at8] at h
  | a :: t, h =>
    have e0 : at8 (a :: t) 0 = a.toNat := rfl
    rw [e0] at h ⊢
    by_cases hd : 48 ≤ a.toNat ∧ a.toNat ≤ 57
    · rw [if_pos hd]
      exact .inl ⟨a, t, rfl, rfl, one a t (.inl hd)⟩
    · rw [if_neg hd] at h ⊢
      by_cases h2 : a.toNat = 194 ∧ 1 < (a :: t).length ∧ at8 (a :: t) 1 = 175
      · rw [if_pos h2]
        match t, h2 with
        | [], h2 => simp at h2
        | b :: u, h2 =>
          obtain rfl := u8_of h2.1 (by decide)
          obtain rfl := u8_of (show b.toNat = 175 from h2.2.2) (by decide)
          exact .inr (.inl ⟨u, rfl, rfl⟩)
      · rw [if_neg h2] at h ⊢
        by_cases hl : letN a.toNat = true
        · rw [if_pos hl]
          exact .inl ⟨a, t, rfl, rfl, one a t (.inr hl)⟩
        · rw [if_neg hl] at h ⊢
          by_cases h3 : a.toNat = 226 ∧ 2 < (a :: t).length ∧ (at8 (a :: t) 1 = 136 ∧ at8 (a :: t) 2 = 134 ∨ at8 (a :: t) 1 = 141 ∧ at8 (a :: t) 2 = 153)
          · rw [if_pos h3]
            match t, h3 with
            | [], h3 => simp at h3
            | [b], h3 => simp at h3
            | b :: c :: u, h3 =>
              obtain rfl := u8_of h3.1 (by decide)
              rcases h3.2.2 with ⟨h4, h5⟩ | ⟨h4, h5⟩
              · obtain rfl := u8_of (show b.toNat = 136 from h4) (by decide)
                obtain rfl := u8_of (show c.toNat = 134 from h5) (by decide)
                exact .inr (.inr (.inl ⟨u, rfl, rfl⟩))
              · obtain rfl := u8_of (show b.toNat = 141 from h4) (by decide)
                obtain rfl := u8_of (show c.toNat = 153 from h5) (by decide)
                exact .inr (.inr (.inr ⟨u, rfl, rfl⟩))
          · rw [if_neg h3] at h
            exact absurd rfl h

/-- Behind x, whatever stands there: p does not stand at a place of x. -/
def freeOf (p x : List UInt8) : Prop := ∀ i, i < x.length → ∀ q, ¬ p <+: x.drop i ++ q
theorem freeOf_nil (p : List UInt8) : freeOf p [] := fun i hi => by simp at hi
theorem freeOf_append {p x y : List UInt8} (hx : freeOf p x) (hy : freeOf p y) : freeOf p (x ++ y) := by
  intro i hi q
  by_cases h : i < x.length
  · rw [List.drop_append_of_le_length (by omega), List.append_assoc]
    exact hx i h _
  · rw [List.drop_append, List.drop_eq_nil_of_le (by omega), List.nil_append]
    exact hy (i - x.length) (by rw [List.length_append] at hi; omega) q
theorem freeOf_cons {p x : List UInt8} {c : UInt8} (hc : ∀ q, ¬ p <+: c :: (x ++ q)) (hx : freeOf p x) : freeOf p (c :: x) := by
  intro i hi q
  cases i with
  | zero => exact hc q
  | succ i => exact hx i (by simpa using hi) q
theorem cutL_at {p : List UInt8} : ∀ {x : List UInt8} (q : List UInt8), p ≠ [] → freeOf p x → cutL p (x ++ (p ++ q)) = (x, q, true)
  | [], q, hp, _ => by
    cases p with
    | nil => exact absurd rfl hp
    | cons c t =>
      have h : c :: t <+: c :: (t ++ q) := ⟨q, rfl⟩
      simp only [List.nil_append, List.cons_append, cutL, if_pos h]
      simp
  | c :: x, q, hp, hx => by
    have h : ¬ p <+: c :: (x ++ (p ++ q)) := hx 0 (Nat.succ_pos _) _
    have hx2 : freeOf p x := fun i hi r => hx (i + 1) (by simpa using hi) r
    simp only [List.cons_append, cutL, if_neg h, cutL_at q hp hx2]
theorem cutL_none {p : List UInt8} : ∀ {x : List UInt8}, freeOf p x → cutL p x = (x, [], false)
  | [], _ => rfl
  | c :: x, hx => by
    have h : ¬ p <+: c :: x := by have := hx 0 (Nat.succ_pos _) []; simpa using this
    have hx2 : freeOf p x := fun i hi r => hx (i + 1) (by simpa using hi) r
    simp only [cutL, if_neg h, cutL_none hx2]
/-- Neither a sign between names nor the arrow stands in a name. -/
theorem name_free (p : List UInt8) (hp : (∃ c, p = [c] ∧ sepB c) ∨ p = [226, 134, 144]) : ∀ (n : Nat) (l : List UInt8), l.length ≤ n → gl l = l.length → freeOf p l := by
  intro n
  induction n with
  | zero =>
    intro l h1 _
    cases l with
    | nil => exact freeOf_nil p
    | cons => simp at h1
  | succ n ih =>
    intro l h1 h2
    by_cases hz : gW l = 0
    · rw [gl_zero hz] at h2
      cases l with
      | nil => exact freeOf_nil p
      | cons => simp at h2
    · have h4 := gl_step hz
      have h5 := gW_le l
      have h6 := ih (l.drop (gW l)) (by rw [List.length_drop]; omega) (by rw [List.length_drop]; omega)
      rcases sign_cases hz with ⟨a, t, rfl, hw, ha, hb⟩ | ⟨t, rfl, hw⟩ | ⟨t, rfl, hw⟩ | ⟨t, rfl, hw⟩
      · rw [hw] at h6
        refine freeOf_cons (fun q => ?_) h6
        rcases hp with ⟨c, rfl, hc⟩ | rfl
        · exact pre1 (fun e => ha (e ▸ hc))
        · exact pre1 (fun e => hb e.symm)
      all_goals rw [hw] at h6
      · refine freeOf_cons (fun q => ?_) (freeOf_cons (fun q => ?_) h6)
        all_goals rcases hp with ⟨c, rfl, hc⟩ | rfl
        all_goals first
          | exact pre1 (by decide)
          | (refine pre1 (fun e => ?_); subst e; rcases hc with h | h | h | h <;> exact absurd h (by decide))
      · refine freeOf_cons (fun q => ?_) (freeOf_cons (fun q => ?_) (freeOf_cons (fun q => ?_) h6))
        all_goals rcases hp with ⟨c, rfl, hc⟩ | rfl
        all_goals first
          | exact pre1 (by decide)
          | (intro h; have := List.cons_prefix_cons.1 (List.cons_prefix_cons.1 h).2; exact absurd this.1 (by decide))
          | (refine pre1 (fun e => ?_); subst e; rcases hc with h | h | h | h <;> exact absurd h (by decide))
      · refine freeOf_cons (fun q => ?_) (freeOf_cons (fun q => ?_) (freeOf_cons (fun q => ?_) h6))
        all_goals rcases hp with ⟨c, rfl, hc⟩ | rfl
        all_goals first
          | exact pre1 (by decide)
          | (intro h; have := List.cons_prefix_cons.1 (List.cons_prefix_cons.1 h).2; exact absurd this.1 (by decide))
          | (refine pre1 (fun e => ?_); subst e; rcases hc with h | h | h | h <;> exact absurd h (by decide))
theorem isName_free {x : List UInt8} (h : x = [] ∨ isName x = true) (p : List UInt8) (hp : (∃ c, p = [c] ∧ sepB c) ∨ p = [226, 134, 144]) : freeOf p x := by
  rcases h with rfl | h
  · exact freeOf_nil p
  · exact name_free p hp x.length x (Nat.le_refl _) ((isName_iff x).1 h).2.1
end Go.Proofs.YtmddkjmcbddhiaaDoor.P
end
section
namespace Go.Proofs.YtmddkjmcbddhiaaDoor.P
open Go.RowKit Go.Proofs.YtmddkjmcbddhiaaDoorW.PrintWords Go.Proofs.YtmddkjmcbddhiaaDoor.Sp
set_option linter.unusedVariables false
set_option linter.unusedSimpArgs false

theorem at_world {P : Program} {f : FuncId} {args : Array Value} {w : World} {Q : Ending → World → Prop} (h : ∀ V, V = w → Calls P f args V Q) : Calls P f args w Q := h w rfl
theorem cut_walk (s p : ByteArray) (w : World) (hp : Aside0 (0 < p.size)) (hs : Aside0 (s.size ≤ 1099511627776)) (hps : Aside0 (p.size ≤ 1099511627776)) :
    Calls Tryd.prog 95 #[.string s, .string p] w fun e w' => e = .returned (.tuple #[.string (cutA s p), .string (cutB s p), .bool (cutK s p)]) ∧ Below w.heap.size w w' := by
  obtain ⟨k, hk⟩ := (cut_ev s p hp.out hs.out hps.out).rounds
  refine (deckleref15_cut.calls k s p _ _ _ w hk).mono ?_
  rintro e w' ⟨rfl, hd⟩
  exact ⟨rfl, hd.below⟩
theorem at_code {P : Program} {c : Code} {Q : Exit → Act → World → Prop} {a : Act} {w : World} (h : ∀ V, V = w → Code.wp P c Q a V) : Code.wp P c Q a w := h w rfl
theorem split_walk (s p : ByteArray) (w : World) (hp : Aside0 (0 < p.size)) (hs : Aside0 (s.size ≤ 1099511627776)) (hps : Aside0 (p.size ≤ 1099511627776)) :
    Calls Tryd.prog 94 #[.string s, .string p] w fun e w' => ∃ (g c : Nat), e = .returned (.slice (some ⟨g, 0, none⟩) (parts s p).length c) ∧ Kd.R Kd.string 9 w' w.heap.size (fun _ => True) (.slice (some ⟨g, 0, none⟩) (parts s p).length c) (parts s p) ∧ Below w.heap.size w w' ∧ w.heap.size ≤ g := by
  obtain ⟨k, hk⟩ := (split_f s p hp.out hps.out hs.out).rounds
  refine (deckleref15_split.calls k s p _ w hk).mono ?_
  rintro e w' ⟨v, rfl, hr, hb⟩
  obtain ⟨t, ht⟩ := parts_cons s p
  obtain ⟨g, c, rfl, hg, _⟩ := Kd.R_form hr (by rw [ht]; exact Nat.succ_pos _)
  exact ⟨g, c, rfl, hr, hb, hg⟩
theorem R_cellN {w : World} {base g cap : Nat} {ok : Nat → Prop} {xs : List ByteArray} (h : Kd.R Kd.string 9 w base ok (.slice (some ⟨g, 0, none⟩) xs.length cap) xs) (j : Nat) (x : ByteArray) (hj : xs[j]? = some x) : w.cell? ⟨g, j, none⟩ = some (.string x) := by
  obtain ⟨hl, hx⟩ := List.getElem?_eq_some_iff.1 hj
  obtain ⟨ad, e, hc⟩ := Kd.at_string (Kd.R_reads' h).2.2 (j : Int) (by omega) (by omega)
  obtain rfl := Option.some.inj e
  rw [rdOf_at xs j hl, hx] at hc
  have ea : (⟨g, 0, none⟩ : Addr).add (j : Int).toNat = ⟨g, j, none⟩ := by
    rw [Int.toNat_natCast]
    unfold Addr.add
    split <;> simp_all
  rw [ea] at hc
  exact hc

def gx (p : ByteArray) : ByteArray := if cutK p getsS = true then cutB p getsS else cutA p getsS
def gres (p : ByteArray) : ByteArray := if cutK p getsS = true then cutA p getsS else nilS
abbrev endS : ByteArray := ⟨#[41]⟩
def gMid (x : ByteArray) : ByteArray := cutA (cutB x openS) endS
def gRight (x : ByteArray) : ByteArray := cutB (cutB (cutB x openS) endS) gapS
def gLeft (x : ByteArray) : ByteArray := cutA (cutA x openS) gapS
def guess2 (res : ByteArray) (ws ls : List ByteArray) : Raw := if 2 < ws.length then ⟨nilS, res, ws.getD 0 nilS, ws.getD 1 nilS, ws.getD 2 nilS, nilS, nilS, ls⟩ else ⟨nilS, res, nilS, ws.getD 0 nilS, ws.getD 1 nilS, nilS, nilS, ls⟩
def guess1 (res x : ByteArray) (ls : List ByteArray) : Raw :=
  if cutK x openS = true then ⟨nilS, res, gLeft x, (parts (gMid x) gapS).getD 1 nilS, gRight x, (parts (gMid x) gapS).getD 0 nilS, (parts (gMid x) gapS).getD 2 nilS, ls⟩
  else guess2 res (parts x gapS) ls
/-- The header that a text may be. -/
def guessP (s : ByteArray) : Raw := guess1 (gres (cutA s semiS)) (gx (cutA s semiS)) (parts s semiS).tail
def deckleref15_guess.f (s : ByteArray) : Option (ByteArray × ByteArray × ByteArray × ByteArray × ByteArray × ByteArray × List ByteArray) :=
  if s.size ≤ 1099511627776 then some ((guessP s).a, (guessP s).b, (guessP s).c, (guessP s).d, (guessP s).e, (guessP s).f, (guessP s).ls) else none

/-- What the walk carries. -/
structure Gs (w : World) (a b c d e f : ByteArray) (v : Value) (ls : List ByteArray) (x : World) : Prop where
  r : HBlk w.heap.size nilS nilS nilS nilS nilS nilS (.slice none 0 0) x
  h : HBlk (w.heap.size + 1) a b c d e f v x
  l : Kd.V Kd.string 9 x w.heap.size (fun k => w.heap.size + 2 ≤ k) v ls
  b : Below w.heap.size w x
theorem Gs.below {w x y : World} {a b c d e f : ByteArray} {v : Value} {ls : List ByteArray} (g : Gs w a b c d e f v ls x) (hb : Below x.heap.size x y) : Gs w a b c d e f v ls y :=
  ⟨blk_below g.r hb, blk_below g.h hb, Kd.V_below g.l hb, g.b.trans (hb.mono g.b.size)⟩
theorem Gs.set {w x : World} {a b c d e f a' b' c' d' e' f' : ByteArray} {v : Value} {ls : List ByteArray} (g : Gs w a b c d e f v ls x) (j : Nat) (u : Value) (h : HBlk (w.heap.size + 1) a' b' c' d' e' f' v (x.setCell ⟨w.heap.size + 1, j, none⟩ u)) : Gs w a' b' c' d' e' f' v ls (x.setCell ⟨w.heap.size + 1, j, none⟩ u) :=
  ⟨(Below.heap_setCell x ⟨w.heap.size + 1, j, none⟩ u w.heap.size (by show w.heap.size ≠ w.heap.size + 1; omega)).trans g.r, h, Kd.V_far g.l (fun k hk => by show k ≠ w.heap.size + 1; omega) u, below_set g.b (by omega)⟩

set_option maxHeartbeats 16000000 in
set_option maxRecDepth 100000 in
theorem guess_walk (s : ByteArray) (w : World) (R : Raw) (hR : Aside0 (guessP s = R)) (hs : Aside0 (s.size ≤ 1099511627776)) :
    Calls Tryd.prog 84 #[.string s] w fun en w' => ∃ v6_ : Value, en = .returned (.agg #[.string R.a, .string R.b, .string R.c, .string R.d, .string R.e, .string R.f, v6_]) ∧ Kd.V Kd.string 9 w' w.heap.size (fun k => w.heap.size ≤ k) v6_ R.ls ∧ Below w.heap.size w w' := by
  have hu := Tryd.underlying42
  obtain ⟨ls, hps⟩ := parts_cons s semiS
  rw [guessP, hps, List.tail_cons] at hR
  go_enter Tryd.func84, Tryd.ntmps84
  go_wp2_with fail
  refine at_world fun V hV => ?_
  have h1 : HBlk w.heap.size nilS nilS nilS nilS nilS nilS (.slice none 0 0) V := by
    rw [hV]
    exact (Below.heap_alloc _ _ _ (by simp)).trans (heap_alloc_new _ _)
  have h2 : HBlk (w.heap.size + 1) nilS nilS nilS nilS nilS nilS (.slice none 0 0) V := by
    rw [hV]
    exact heap_new_at _ _ _ (by simp)
  have h3 : Below w.heap.size w V := by rw [hV]; exact ((Below.refl _ _).alloc (Nat.le_refl _) _).alloc (by simp) _
  have hsz : V.heap.size = w.heap.size + 2 := by rw [hV]; simp
  clear hV
  refine (split_walk s semiS V ⟨by decide⟩ hs ⟨by decide⟩).mono ?_
  rintro en w1 ⟨g, c, rfl, hP, hb, hg⟩
  rw [hps] at hP ⊢
  have hc0 := R_cellN hP 0 (cutA s semiS) rfl
  have hle := (Kd.R_reads' hP).2.1
  have hF2 : Kd.F Kd.string w1 (fun k => w.heap.size + 2 ≤ k) (if c = 1 then some ⟨g, 0, none⟩ else some ⟨g, 1, none⟩) ls.length ls := by
    have hz := Kd.F_cut (m := 1) (Kd.R_F (Kd.R_reok rfl hP (ok := fun k => w.heap.size + 2 ≤ k) (fun k hk => by have := Kd.R_base hP k hk; omega))) (by simp) hle
    exact hz
  have hV2 : Kd.V Kd.string 9 w1 w.heap.size (fun k => w.heap.size + 2 ≤ k) (.slice (if c = 1 then some ⟨g, 0, none⟩ else some ⟨g, 1, none⟩) ls.length (c - 1)) ls := Kd.V_mk (by simp at hle; omega) hF2
  have hb2 := hb
  rw [hsz] at hg
  have hG : Gs w nilS nilS nilS nilS nilS nilS (.slice none 0 0) ls w1 → True := fun _ => trivial
  have k1 := blk_below h1 hb
  have k2 := blk_below h2 hb
  have k3 := h3.trans (hb.mono h3.size)
  have hc1 := (blk_cell k2 6).trans rfl
  have hf1 := blk_frozen k2 6
  have K1 := Aside0.mk k1
  have K2 := Aside0.mk k2
  have K3 := Aside0.mk k3
  have KV := Aside0.mk hV2
  have HL := Aside0.mk hle
  have HP := Aside0.mk hP
  have HG := Aside0.mk hg
  have HSZ := Aside0.mk hsz
  clear hsz hb2 hG h1 h2 h3 hb hF2 hV2 k1 k2 k3 hc0 hP hg
  have hc2 : 1 ≤ c := by have := HL.out; simp at this; omega
  have hl2 : ls.length + 1 ≤ c := by have := HL.out; simpa using this
  clear hle
  go_upto_region 4 with fail
  obtain ⟨X, hX⟩ : ∃ X, X = (if c = 1 then some (⟨g, 0, none⟩ : Addr) else some ⟨g, 1, none⟩) := ⟨_, rfl⟩
  obtain ⟨cc, hcc⟩ : ∃ cc, cc = c - 1 := ⟨_, rfl⟩
  rw [← hX, ← hcc] at KV ⊢
  obtain ⟨w2, hw2⟩ : ∃ w2, w2 = w1.setCell ⟨w.heap.size + 1, 6, none⟩ (.slice X ls.length cc) := ⟨_, rfl⟩
  rw [← hw2]
  have G : Aside0 (Gs w nilS nilS nilS nilS nilS nilS (.slice X ls.length cc) ls w2) := ⟨by
    rw [hw2]
    exact ⟨(Below.heap_setCell w1 ⟨w.heap.size + 1, 6, none⟩ (.slice X ls.length cc) w.heap.size (by show w.heap.size ≠ w.heap.size + 1; omega)).trans K1.out, HBlk.set6 (show HBlk (w.heap.size + 1) nilS nilS nilS nilS nilS nilS (.slice none 0 0) w1 from K2.out) (.slice X ls.length cc), Kd.V_far KV.out (fun k hk => by show k ≠ w.heap.size + 1; omega) (.slice X ls.length cc), below_set K3.out (by omega)⟩⟩
  have hc0 : w2.cell? ⟨g, 0, none⟩ = some (.string (cutA s semiS)) := by
    rw [hw2]
    exact R_cellN (Kd.R_far (Kd.R_reok rfl HP.out (ok := fun k => w.heap.size + 2 ≤ k) (fun k hk => by have := Kd.R_base HP.out k hk; have := HSZ.out; omega)) (p := ⟨w.heap.size + 1, 6, none⟩) (fun k hk => by show k ≠ w.heap.size + 1; omega) (.slice X ls.length cc)) 0 _ rfl
  have HS0 : Aside0 ((cutA s semiS).size ≤ 1099511627776) := ⟨Nat.le_trans (cutA_le _ _) hs.out⟩
  obtain ⟨p0, hp0⟩ : ∃ p, p = cutA s semiS := ⟨_, rfl⟩
  rw [← hp0] at hc0 HS0 hR hps
  have hp1 := Aside0.mk hp0
  have hps1 := Aside0.mk hps
  clear hp0 hps hw2 K1 K2 K3 KV HL HP HG hX hcc hc1 hf1
  go_wp2_with fail
  refine (cut_walk p0 getsS w2 ⟨by decide⟩ HS0 ⟨by decide⟩).mono ?_
  rintro en w3 ⟨rfl, hb⟩
  replace G := Aside0.mk (G.out.below hb)
  clear hb hc0
  go_upto_if 29 with fail
  go_cut [5, 7] (fun s5 s7 wx => ∃ res x : ByteArray, s5 = .string x ∧ Aside0 (guess1 res x ls = R) ∧ Aside0 (x.size ≤ 1099511627776) ∧ Aside0 (Gs w res nilS nilS nilS nilS nilS (.slice X ls.length cc) ls wx))
  case first =>
    have hc := (blk_cell G.out.h 0).trans rfl
    have hf := blk_frozen G.out.h 0
    cases hk : cutK p0 getsS with
    | true =>
      have hR1 : Aside0 (guess1 (cutA p0 getsS) (cutB p0 getsS) ls = R) := ⟨by rw [← hR.out, gres, gx, if_pos hk, if_pos hk]⟩
      clear hk
      go_wp2_with fail
      go_meet
      exact ⟨_, _, rfl, hR1, ⟨Nat.le_trans (cutB_le _ _) HS0.out⟩, ⟨G.out.set 0 _ (G.out.h.set0 _)⟩⟩
    | false =>
      have hR1 : Aside0 (guess1 nilS (cutA p0 getsS) ls = R) := ⟨by rw [← hR.out, gres, gx, if_neg (by simp [hk]), if_neg (by simp [hk])]⟩
      clear hk
      go_wp2_with fail
      go_meet
      exact ⟨_, _, rfl, hR1, ⟨Nat.le_trans (cutA_le _ _) HS0.out⟩, G⟩
  case rest =>
  obtain ⟨res, x, rfl, hR1, HX, G⟩ := hcut
  clear hR
  go_wp2_with fail
  refine (cut_walk x openS _ ⟨by decide⟩ HX ⟨by decide⟩).mono ?_
  rintro en w4 ⟨rfl, hb⟩
  replace G := Aside0.mk (G.out.below hb)
  clear hb
  cases hk : cutK x openS with
  | true =>
    go_wp2_with fail
    refine (cut_walk (cutB x openS) endS _ ⟨by decide⟩ ⟨Nat.le_trans (cutB_le _ _) HX.out⟩ ⟨by decide⟩).mono ?_
    rintro en w5 ⟨rfl, hb⟩
    replace G := Aside0.mk (G.out.below hb)
    clear hb
    go_wp2_with fail
    have HM : Aside0 ((gMid x).size ≤ 1099511627776) := ⟨Nat.le_trans (cutA_le _ _) (Nat.le_trans (cutB_le _ _) HX.out)⟩
    refine (split_walk (gMid x) gapS w5 ⟨by decide⟩ HM ⟨by decide⟩).mono ?_
    rintro en w6 ⟨g2, c2, rfl, hP, hb, hg⟩
    have hgne : w.heap.size + 1 < g2 := Nat.lt_of_lt_of_le (blk_lt G.out.h) hg
    replace G := Aside0.mk (G.out.below hb)
    have hRk : Aside0 (R = ⟨nilS, res, gLeft x, (parts (gMid x) gapS).getD 1 nilS, gRight x, (parts (gMid x) gapS).getD 0 nilS, (parts (gMid x) gapS).getD 2 nilS, ls⟩) := ⟨by rw [← hR1.out, guess1, if_pos hk]⟩
    obtain ⟨wt, hwt⟩ := parts_cons (gMid x) gapS
    rw [hwt] at hP hRk ⊢
    obtain ⟨q0, hq0⟩ : ∃ q, q = cutA (gMid x) gapS := ⟨_, rfl⟩
    rw [← hq0] at hP hRk ⊢
    have hn1 : g2 ≠ w.heap.size + 1 := by omega
    have hn2 : w.heap.size + 1 ≠ g2 := by omega
    have hc0 := R_cellN hP 0 q0 rfl
    have hle := (Kd.R_reads' hP).2.1
    have HQ := Aside0.mk hq0
    have HWT := Aside0.mk hwt
    clear hb hg hgne hwt hk hq0
    have hb2 := (blk_cell G.out.h 2).trans rfl
    have hb4 := (blk_cell G.out.h 4).trans rfl
    have hb5 := (blk_cell G.out.h 5).trans rfl
    have hf2 := blk_frozen G.out.h 2
    have hf4 := blk_frozen G.out.h 4
    have hf5 := blk_frozen G.out.h 5
    cases wt with
    | nil =>
      have HP := Aside0.mk hP
      clear hP
      go_wp2_with fail
      refine at_world fun V hV => ?_
      replace G : Aside0 (Gs w res nilS nilS nilS q0 nilS (.slice X ls.length cc) ls V) := ⟨by rw [hV]; exact (G.out.set 4 (.string q0) (G.out.h.set4 q0))⟩
      clear hV hc0 hb2 hb4 hb5 hf2 hf4 hf5
      refine (cut_walk (cutA x openS) gapS V ⟨by decide⟩ ⟨Nat.le_trans (cutA_le _ _) HX.out⟩ ⟨by decide⟩).mono ?_
      rintro en w7 ⟨rfl, hb⟩
      replace G := Aside0.mk (G.out.below hb)
      clear hb
      have hb1 := (blk_cell G.out.h 1).trans rfl
      have hf1 := blk_frozen G.out.h 1
      go_wp2_with fail
      refine at_world fun V2 hV => ?_
      replace G : Aside0 (Gs w res (gLeft x) nilS nilS q0 nilS (.slice X ls.length cc) ls V2) := ⟨by rw [hV]; exact G.out.set 1 _ (G.out.h.set1 _)⟩
      clear hV hb1 hf1
      refine (cut_walk (cutB (cutB x openS) endS) gapS V2 ⟨by decide⟩ ⟨Nat.le_trans (cutB_le _ _) (Nat.le_trans (cutB_le _ _) HX.out)⟩ ⟨by decide⟩).mono ?_
      rintro en w8 ⟨rfl, hb⟩
      replace G := Aside0.mk (G.out.below hb)
      clear hb
      have hRR : R = ⟨nilS, res, gLeft x, nilS, gRight x, q0, nilS, ls⟩ := hRk.out
      subst hRR
      have hu0 := (blk_cell G.out.h 0).trans rfl
      have hu1 := (blk_cell G.out.h 1).trans rfl
      have hu2 := (blk_cell G.out.h 2).trans rfl
      have hu3 := (blk_cell G.out.h 3).trans rfl
      have hu4 := (blk_cell G.out.h 4).trans rfl
      have hu5 := (blk_cell G.out.h 5).trans rfl
      have hu6 := (blk_cell G.out.h 6).trans rfl
      have hx0 := (blk_cell G.out.r 0).trans rfl
      have hy0 := blk_frozen G.out.r 0
      have hz0 := blk_frozen G.out.h 0
      have hx1 := (blk_cell G.out.r 1).trans rfl
      have hy1 := blk_frozen G.out.r 1
      have hz1 := blk_frozen G.out.h 1
      have hx2 := (blk_cell G.out.r 2).trans rfl
      have hy2 := blk_frozen G.out.r 2
      have hz2 := blk_frozen G.out.h 2
      have hx3 := (blk_cell G.out.r 3).trans rfl
      have hy3 := blk_frozen G.out.r 3
      have hz3 := blk_frozen G.out.h 3
      have hx4 := (blk_cell G.out.r 4).trans rfl
      have hy4 := blk_frozen G.out.r 4
      have hz4 := blk_frozen G.out.h 4
      have hx5 := (blk_cell G.out.r 5).trans rfl
      have hy5 := blk_frozen G.out.r 5
      have hz5 := blk_frozen G.out.h 5
      have hx6 := (blk_cell G.out.r 6).trans rfl
      have hy6 := blk_frozen G.out.r 6
      have hz6 := blk_frozen G.out.h 6
      go_wp2_with fail
      refine bodyPost_ret (results_cell_row rfl _ _ w.heap.size 42 #[.string res, .string (gLeft x), .string nilS, .string (gRight x), .string q0, .string nilS, .slice X ls.length cc] (0, 0) _ rfl (HBlk.setAll (G.out.set 3 (.string (gRight x)) (G.out.h.set3 (gRight x))).r res (gLeft x) nilS (gRight x) q0 nilS (.slice X ls.length cc)) hu rfl (by kernel_rfl)) rfl ?_
      refine ⟨_, rfl, ?_, ?_⟩
      · refine Kd.V_mono (ok := fun k => w.heap.size + 2 ≤ k) ?_ (fun k hk => by omega)
        (with_reducible repeat (refine Kd.V_far ?_ (fun k hk => by show k ≠ w.heap.size; omega) _))
        exact (G.out.set 3 (.string (gRight x)) (G.out.h.set3 (gRight x))).l
      · (with_reducible repeat (refine below_set ?_ (Nat.le_refl _)))
        exact (G.out.set 3 (.string (gRight x)) (G.out.h.set3 (gRight x))).b
    | cons q1 wt =>
      cases wt with
      | nil =>
        have hcw1 := R_cellN hP 1 q1 rfl
        have HP := Aside0.mk hP
        clear hP
        go_wp2_with fail
        refine at_world fun V hV => ?_
        replace G : Aside0 (Gs w res nilS q1 nilS q0 nilS (.slice X ls.length cc) ls V) := ⟨by rw [hV]; exact ((G.out.set 4 (.string q0) (G.out.h.set4 q0)).set 2 (.string q1) ((G.out.h.set4 q0).set2 q1))⟩
        clear hV hc0 hb2 hb4 hb5 hf2 hf4 hf5 hcw1
        refine (cut_walk (cutA x openS) gapS V ⟨by decide⟩ ⟨Nat.le_trans (cutA_le _ _) HX.out⟩ ⟨by decide⟩).mono ?_
        rintro en w7 ⟨rfl, hb⟩
        replace G := Aside0.mk (G.out.below hb)
        clear hb
        have hb1 := (blk_cell G.out.h 1).trans rfl
        have hf1 := blk_frozen G.out.h 1
        go_wp2_with fail
        refine at_world fun V2 hV => ?_
        replace G : Aside0 (Gs w res (gLeft x) q1 nilS q0 nilS (.slice X ls.length cc) ls V2) := ⟨by rw [hV]; exact G.out.set 1 _ (G.out.h.set1 _)⟩
        clear hV hb1 hf1
        refine (cut_walk (cutB (cutB x openS) endS) gapS V2 ⟨by decide⟩ ⟨Nat.le_trans (cutB_le _ _) (Nat.le_trans (cutB_le _ _) HX.out)⟩ ⟨by decide⟩).mono ?_
        rintro en w8 ⟨rfl, hb⟩
        replace G := Aside0.mk (G.out.below hb)
        clear hb
        have hRR : R = ⟨nilS, res, gLeft x, q1, gRight x, q0, nilS, ls⟩ := hRk.out
        subst hRR
        have hu0 := (blk_cell G.out.h 0).trans rfl
        have hu1 := (blk_cell G.out.h 1).trans rfl
        have hu2 := (blk_cell G.out.h 2).trans rfl
        have hu3 := (blk_cell G.out.h 3).trans rfl
        have hu4 := (blk_cell G.out.h 4).trans rfl
        have hu5 := (blk_cell G.out.h 5).trans rfl
        have hu6 := (blk_cell G.out.h 6).trans rfl
        have hx0 := (blk_cell G.out.r 0).trans rfl
        have hy0 := blk_frozen G.out.r 0
        have hz0 := blk_frozen G.out.h 0
        have hx1 := (blk_cell G.out.r 1).trans rfl
        have hy1 := blk_frozen G.out.r 1
        have hz1 := blk_frozen G.out.h 1
        have hx2 := (blk_cell G.out.r 2).trans rfl
        have hy2 := blk_frozen G.out.r 2
        have hz2 := blk_frozen G.out.h 2
        have hx3 := (blk_cell G.out.r 3).trans rfl
        have hy3 := blk_frozen G.out.r 3
        have hz3 := blk_frozen G.out.h 3
        have hx4 := (blk_cell G.out.r 4).trans rfl
        have hy4 := blk_frozen G.out.r 4
        have hz4 := blk_frozen G.out.h 4
        have hx5 := (blk_cell G.out.r 5).trans rfl
        have hy5 := blk_frozen G.out.r 5
        have hz5 := blk_frozen G.out.h 5
        have hx6 := (blk_cell G.out.r 6).trans rfl
        have hy6 := blk_frozen G.out.r 6
        have hz6 := blk_frozen G.out.h 6
        go_wp2_with fail
        refine bodyPost_ret (results_cell_row rfl _ _ w.heap.size 42 #[.string res, .string (gLeft x), .string q1, .string (gRight x), .string q0, .string nilS, .slice X ls.length cc] (0, 0) _ rfl (HBlk.setAll (G.out.set 3 (.string (gRight x)) (G.out.h.set3 (gRight x))).r res (gLeft x) q1 (gRight x) q0 nilS (.slice X ls.length cc)) hu rfl (by kernel_rfl)) rfl ?_
        refine ⟨_, rfl, ?_, ?_⟩
        · refine Kd.V_mono (ok := fun k => w.heap.size + 2 ≤ k) ?_ (fun k hk => by omega)
          (with_reducible repeat (refine Kd.V_far ?_ (fun k hk => by show k ≠ w.heap.size; omega) _))
          exact (G.out.set 3 (.string (gRight x)) (G.out.h.set3 (gRight x))).l
        · (with_reducible repeat (refine below_set ?_ (Nat.le_refl _)))
          exact (G.out.set 3 (.string (gRight x)) (G.out.h.set3 (gRight x))).b
      | cons q2 wt =>
        have hcw1 := R_cellN hP 1 q1 rfl
        have hcw2 := R_cellN hP 2 q2 rfl
        have HP := Aside0.mk hP
        clear hP
        go_wp2_with fail
        refine at_world fun V hV => ?_
        replace G : Aside0 (Gs w res nilS q1 nilS q0 q2 (.slice X ls.length cc) ls V) := ⟨by rw [hV]; exact (((G.out.set 4 (.string q0) (G.out.h.set4 q0)).set 2 (.string q1) ((G.out.h.set4 q0).set2 q1)).set 5 (.string q2) (((G.out.h.set4 q0).set2 q1).set5 q2))⟩
        clear hV hc0 hb2 hb4 hb5 hf2 hf4 hf5 hcw1 hcw2
        refine (cut_walk (cutA x openS) gapS V ⟨by decide⟩ ⟨Nat.le_trans (cutA_le _ _) HX.out⟩ ⟨by decide⟩).mono ?_
        rintro en w7 ⟨rfl, hb⟩
        replace G := Aside0.mk (G.out.below hb)
        clear hb
        have hb1 := (blk_cell G.out.h 1).trans rfl
        have hf1 := blk_frozen G.out.h 1
        go_wp2_with fail
        refine at_world fun V2 hV => ?_
        replace G : Aside0 (Gs w res (gLeft x) q1 nilS q0 q2 (.slice X ls.length cc) ls V2) := ⟨by rw [hV]; exact G.out.set 1 _ (G.out.h.set1 _)⟩
        clear hV hb1 hf1
        refine (cut_walk (cutB (cutB x openS) endS) gapS V2 ⟨by decide⟩ ⟨Nat.le_trans (cutB_le _ _) (Nat.le_trans (cutB_le _ _) HX.out)⟩ ⟨by decide⟩).mono ?_
        rintro en w8 ⟨rfl, hb⟩
        replace G := Aside0.mk (G.out.below hb)
        clear hb
        have hRR : R = ⟨nilS, res, gLeft x, q1, gRight x, q0, q2, ls⟩ := hRk.out
        subst hRR
        have hu0 := (blk_cell G.out.h 0).trans rfl
        have hu1 := (blk_cell G.out.h 1).trans rfl
        have hu2 := (blk_cell G.out.h 2).trans rfl
        have hu3 := (blk_cell G.out.h 3).trans rfl
        have hu4 := (blk_cell G.out.h 4).trans rfl
        have hu5 := (blk_cell G.out.h 5).trans rfl
        have hu6 := (blk_cell G.out.h 6).trans rfl
        have hx0 := (blk_cell G.out.r 0).trans rfl
        have hy0 := blk_frozen G.out.r 0
        have hz0 := blk_frozen G.out.h 0
        have hx1 := (blk_cell G.out.r 1).trans rfl
        have hy1 := blk_frozen G.out.r 1
        have hz1 := blk_frozen G.out.h 1
        have hx2 := (blk_cell G.out.r 2).trans rfl
        have hy2 := blk_frozen G.out.r 2
        have hz2 := blk_frozen G.out.h 2
        have hx3 := (blk_cell G.out.r 3).trans rfl
        have hy3 := blk_frozen G.out.r 3
        have hz3 := blk_frozen G.out.h 3
        have hx4 := (blk_cell G.out.r 4).trans rfl
        have hy4 := blk_frozen G.out.r 4
        have hz4 := blk_frozen G.out.h 4
        have hx5 := (blk_cell G.out.r 5).trans rfl
        have hy5 := blk_frozen G.out.r 5
        have hz5 := blk_frozen G.out.h 5
        have hx6 := (blk_cell G.out.r 6).trans rfl
        have hy6 := blk_frozen G.out.r 6
        have hz6 := blk_frozen G.out.h 6
        go_wp2_with fail
        refine bodyPost_ret (results_cell_row rfl _ _ w.heap.size 42 #[.string res, .string (gLeft x), .string q1, .string (gRight x), .string q0, .string q2, .slice X ls.length cc] (0, 0) _ rfl (HBlk.setAll (G.out.set 3 (.string (gRight x)) (G.out.h.set3 (gRight x))).r res (gLeft x) q1 (gRight x) q0 q2 (.slice X ls.length cc)) hu rfl (by kernel_rfl)) rfl ?_
        refine ⟨_, rfl, ?_, ?_⟩
        · refine Kd.V_mono (ok := fun k => w.heap.size + 2 ≤ k) ?_ (fun k hk => by omega)
          (with_reducible repeat (refine Kd.V_far ?_ (fun k hk => by show k ≠ w.heap.size; omega) _))
          exact (G.out.set 3 (.string (gRight x)) (G.out.h.set3 (gRight x))).l
        · (with_reducible repeat (refine below_set ?_ (Nat.le_refl _)))
          exact (G.out.set 3 (.string (gRight x)) (G.out.h.set3 (gRight x))).b
  | false =>
    go_wp2_with fail
    refine (split_walk x gapS _ ⟨by decide⟩ HX ⟨by decide⟩).mono ?_
    rintro en w6 ⟨g2, c2, rfl, hP, hb, hg⟩
    have hgne : w.heap.size + 1 < g2 := Nat.lt_of_lt_of_le (blk_lt G.out.h) hg
    replace G := Aside0.mk (G.out.below hb)
    have hRk : Aside0 (R = guess2 res (parts x gapS) ls) := ⟨by rw [← hR1.out, guess1, if_neg (by simp [hk])]⟩
    obtain ⟨wt, hwt⟩ := parts_cons x gapS
    rw [hwt] at hP hRk ⊢
    obtain ⟨q0, hq0⟩ : ∃ q, q = cutA x gapS := ⟨_, rfl⟩
    rw [← hq0] at hP hRk ⊢
    have hn1 : g2 ≠ w.heap.size + 1 := by omega
    have hn2 : w.heap.size + 1 ≠ g2 := by omega
    have hc0 := R_cellN hP 0 q0 rfl
    have hle := (Kd.R_reads' hP).2.1
    have HQ := Aside0.mk hq0
    have HWT := Aside0.mk hwt
    clear hb hg hgne hwt hk hq0
    have hu0 := (blk_cell G.out.h 0).trans rfl
    have hu1 := (blk_cell G.out.h 1).trans rfl
    have hu2 := (blk_cell G.out.h 2).trans rfl
    have hu3 := (blk_cell G.out.h 3).trans rfl
    have hu4 := (blk_cell G.out.h 4).trans rfl
    have hu5 := (blk_cell G.out.h 5).trans rfl
    have hu6 := (blk_cell G.out.h 6).trans rfl
    have hx0 := (blk_cell G.out.r 0).trans rfl
    have hy0 := blk_frozen G.out.r 0
    have hz0 := blk_frozen G.out.h 0
    have hx1 := (blk_cell G.out.r 1).trans rfl
    have hy1 := blk_frozen G.out.r 1
    have hz1 := blk_frozen G.out.h 1
    have hx2 := (blk_cell G.out.r 2).trans rfl
    have hy2 := blk_frozen G.out.r 2
    have hz2 := blk_frozen G.out.h 2
    have hx3 := (blk_cell G.out.r 3).trans rfl
    have hy3 := blk_frozen G.out.r 3
    have hz3 := blk_frozen G.out.h 3
    have hx4 := (blk_cell G.out.r 4).trans rfl
    have hy4 := blk_frozen G.out.r 4
    have hz4 := blk_frozen G.out.h 4
    have hx5 := (blk_cell G.out.r 5).trans rfl
    have hy5 := blk_frozen G.out.r 5
    have hz5 := blk_frozen G.out.h 5
    have hx6 := (blk_cell G.out.r 6).trans rfl
    have hy6 := blk_frozen G.out.r 6
    have hz6 := blk_frozen G.out.h 6
    cases wt with
    | nil =>
      have HP := Aside0.mk hP
      clear hP
      have hRR : R = ⟨nilS, res, nilS, q0, nilS, nilS, nilS, ls⟩ := hRk.out
      subst hRR
      go_wp2_with fail
      refine bodyPost_ret (results_cell_row rfl _ _ w.heap.size 42 #[.string res, .string nilS, .string q0, .string nilS, .string nilS, .string nilS, .slice X ls.length cc] (0, 0) _ rfl (HBlk.setAll (G.out.set 2 (.string q0) (G.out.h.set2 q0)).r res nilS q0 nilS nilS nilS (.slice X ls.length cc)) hu rfl (by kernel_rfl)) rfl ?_
      refine ⟨_, rfl, ?_, ?_⟩
      · refine Kd.V_mono (ok := fun k => w.heap.size + 2 ≤ k) ?_ (fun k hk => by omega)
        (with_reducible repeat (refine Kd.V_far ?_ (fun k hk => by show k ≠ w.heap.size; omega) _))
        exact (G.out.set 2 (.string q0) (G.out.h.set2 q0)).l
      · (with_reducible repeat (refine below_set ?_ (Nat.le_refl _)))
        exact (G.out.set 2 (.string q0) (G.out.h.set2 q0)).b
    | cons q1 wt =>
      cases wt with
      | nil =>
        have hcw1 := R_cellN hP 1 q1 rfl
        have HP := Aside0.mk hP
        clear hP
        have hRR : R = ⟨nilS, res, nilS, q0, q1, nilS, nilS, ls⟩ := hRk.out
        subst hRR
        go_wp2_with fail
        refine bodyPost_ret (results_cell_row rfl _ _ w.heap.size 42 #[.string res, .string nilS, .string q0, .string q1, .string nilS, .string nilS, .slice X ls.length cc] (0, 0) _ rfl (HBlk.setAll ((G.out.set 2 (.string q0) (G.out.h.set2 q0)).set 3 (.string q1) ((G.out.h.set2 q0).set3 q1)).r res nilS q0 q1 nilS nilS (.slice X ls.length cc)) hu rfl (by kernel_rfl)) rfl ?_
        refine ⟨_, rfl, ?_, ?_⟩
        · refine Kd.V_mono (ok := fun k => w.heap.size + 2 ≤ k) ?_ (fun k hk => by omega)
          (with_reducible repeat (refine Kd.V_far ?_ (fun k hk => by show k ≠ w.heap.size; omega) _))
          exact ((G.out.set 2 (.string q0) (G.out.h.set2 q0)).set 3 (.string q1) ((G.out.h.set2 q0).set3 q1)).l
        · (with_reducible repeat (refine below_set ?_ (Nat.le_refl _)))
          exact ((G.out.set 2 (.string q0) (G.out.h.set2 q0)).set 3 (.string q1) ((G.out.h.set2 q0).set3 q1)).b
      | cons q2 wt =>
        have hcw1 := R_cellN hP 1 q1 rfl
        have hcw2 := R_cellN hP 2 q2 rfl
        have HP := Aside0.mk hP
        clear hP
        have hRR : R = ⟨nilS, res, q0, q1, q2, nilS, nilS, ls⟩ := hRk.out
        subst hRR
        go_upto_if 96 with fail
        refine at_code fun V hV => ?_
        have hbk : V.heap[g2]? = w6.heap[g2]? := by
          rw [hV]
          exact (Below.heap_setCell _ ⟨w.heap.size + 1, 3, none⟩ _ g2 hn1).trans (Below.heap_setCell _ ⟨w.heap.size + 1, 2, none⟩ _ g2 hn1)
        replace hc0 := (World.cell?_of_block (a := ⟨g2, 0, none⟩) hbk).trans hc0
        replace hcw1 := (World.cell?_of_block (a := ⟨g2, 1, none⟩) hbk).trans hcw1
        replace hcw2 := (World.cell?_of_block (a := ⟨g2, 2, none⟩) hbk).trans hcw2
        have G2 : Aside0 (Gs w res nilS q0 q1 nilS nilS (.slice X ls.length cc) ls V) := ⟨by rw [hV]; exact ((G.out.set 2 (.string q0) (G.out.h.set2 q0)).set 3 (.string q1) ((G.out.h.set2 q0).set3 q1))⟩
        clear G hV hbk hu0 hu1 hu2 hu3 hu4 hu5 hu6 hx0 hx1 hx2 hx3 hx4 hx5 hx6 hy0 hy1 hy2 hy3 hy4 hy5 hy6 hz0 hz1 hz2 hz3 hz4 hz5 hz6
        have hd1 := (blk_cell G2.out.h 1).trans rfl
        have hd2 := (blk_cell G2.out.h 2).trans rfl
        have hd3 := (blk_cell G2.out.h 3).trans rfl
        have hf1 := blk_frozen G2.out.h 1
        have hf2 := blk_frozen G2.out.h 2
        have hf3 := blk_frozen G2.out.h 3
        go_upto_region 28 with fail
        refine at_code fun V3 hV => ?_
        have G : Aside0 (Gs w res q0 q1 q2 nilS nilS (.slice X ls.length cc) ls V3) := ⟨by rw [hV]; exact ((G2.out.set 1 (.string q0) (G2.out.h.set1 q0)).set 2 (.string q1) ((G2.out.h.set1 q0).set2 q1)).set 3 (.string q2) (((G2.out.h.set1 q0).set2 q1).set3 q2)⟩
        clear G2 hV hd1 hd2 hd3 hf1 hf2 hf3 hc0 hcw1 hcw2
        have hu0 := (blk_cell G.out.h 0).trans rfl
        have hu1 := (blk_cell G.out.h 1).trans rfl
        have hu2 := (blk_cell G.out.h 2).trans rfl
        have hu3 := (blk_cell G.out.h 3).trans rfl
        have hu4 := (blk_cell G.out.h 4).trans rfl
        have hu5 := (blk_cell G.out.h 5).trans rfl
        have hu6 := (blk_cell G.out.h 6).trans rfl
        have hx0 := (blk_cell G.out.r 0).trans rfl
        have hy0 := blk_frozen G.out.r 0
        have hz0 := blk_frozen G.out.h 0
        have hx1 := (blk_cell G.out.r 1).trans rfl
        have hy1 := blk_frozen G.out.r 1
        have hz1 := blk_frozen G.out.h 1
        have hx2 := (blk_cell G.out.r 2).trans rfl
        have hy2 := blk_frozen G.out.r 2
        have hz2 := blk_frozen G.out.h 2
        have hx3 := (blk_cell G.out.r 3).trans rfl
        have hy3 := blk_frozen G.out.r 3
        have hz3 := blk_frozen G.out.h 3
        have hx4 := (blk_cell G.out.r 4).trans rfl
        have hy4 := blk_frozen G.out.r 4
        have hz4 := blk_frozen G.out.h 4
        have hx5 := (blk_cell G.out.r 5).trans rfl
        have hy5 := blk_frozen G.out.r 5
        have hz5 := blk_frozen G.out.h 5
        have hx6 := (blk_cell G.out.r 6).trans rfl
        have hy6 := blk_frozen G.out.r 6
        have hz6 := blk_frozen G.out.h 6
        go_wp2_with fail
        refine bodyPost_ret (results_cell_row rfl _ _ w.heap.size 42 #[.string res, .string q0, .string q1, .string q2, .string nilS, .string nilS, .slice X ls.length cc] (0, 0) _ rfl (HBlk.setAll G.out.r res q0 q1 q2 nilS nilS (.slice X ls.length cc)) hu rfl (by kernel_rfl)) rfl ?_
        refine ⟨_, rfl, ?_, ?_⟩
        · refine Kd.V_mono (ok := fun k => w.heap.size + 2 ≤ k) ?_ (fun k hk => by omega)
          (with_reducible repeat (refine Kd.V_far ?_ (fun k hk => by show k ≠ w.heap.size; omega) _))
          exact G.out.l
        · (with_reducible repeat (refine below_set ?_ (Nat.le_refl _)))
          exact G.out.b
theorem deckleref15_guess.calls (a0 : ByteArray) (r1 r2 r3 r4 r5 r6 : ByteArray) (r7 : List ByteArray) (w : World) (h : deckleref15_guess.f a0 = some (r1, r2, r3, r4, r5, r6, r7)) :
    Calls Tryd.prog 84 #[.string a0] w fun en w' => ∃ v6_ : Value, en = .returned (.agg #[.string r1, .string r2, .string r3, .string r4, .string r5, .string r6, v6_]) ∧ Kd.V Kd.string 9 w' w.heap.size (fun k => w.heap.size ≤ k) v6_ r7 ∧ Below w.heap.size w w' := by
  unfold deckleref15_guess.f at h
  split at h
  · rename_i hs
    simp only [Option.some.injEq, Prod.mk.injEq] at h
    obtain ⟨rfl, rfl, rfl, rfl, rfl, rfl, rfl⟩ := h
    exact guess_walk a0 w _ ⟨rfl⟩ ⟨hs⟩
  · cases h
end Go.Proofs.YtmddkjmcbddhiaaDoor.P
end
section
namespace Go.Proofs.YtmddkjmcbddhiaaDoor.P
open Go.RowKit Go.Proofs.YtmddkjmcbddhiaaDoorW.PrintWords Go.Proofs.YtmddkjmcbddhiaaDoor.Sp
set_option linter.unusedVariables false
set_option linter.unusedSimpArgs false

theorem cutB_at {s p : ByteArray} {x q : List UInt8} (hs : s.data.toList = x ++ (p.data.toList ++ q)) (hp : p.data.toList ≠ []) (hx : freeOf p.data.toList x) : cutA s p = ⟨x.toArray⟩ ∧ (cutB s p).data.toList = q ∧ cutK s p = true := by
  unfold cutA cutB cutK
  rw [hs, cutL_at q hp hx]
  simp
theorem cutB_none {s p : ByteArray} (hx : freeOf p.data.toList s.data.toList) : cutA s p = s ∧ cutK s p = false := by
  unfold cutA cutK
  rw [cutL_none hx]
  exact ⟨ba_ext (by simp), rfl⟩
theorem splitB_join {p : ByteArray} {c : UInt8} (hp : p.data.toList = [c]) : ∀ (l : List ByteArray) (n : Nat) (s x : ByteArray), freeOf [c] x.data.toList → (∀ y ∈ l, freeOf [c] y.data.toList) →
    s.data.toList = x.data.toList ++ l.flatMap (fun y => c :: y.data.toList) → s.size < n → splitB p n s = x :: l
  | _, 0, s, x, _, _, _, hn => by omega
  | [], n + 1, s, x, hx, _, hs, hn => by
    have e : s = x := ba_ext (by simpa using hs)
    obtain ⟨h1, h2⟩ := cutB_none (s := s) (p := p) (by rw [hp, e]; exact hx)
    rw [splitB, h2, h1, e]
    simp
  | y :: l, n + 1, s, x, hx, hl, hs, hn => by
    obtain ⟨h1, h2, h3⟩ := cutB_at (s := s) (p := p) (x := x.data.toList) (q := y.data.toList ++ l.flatMap (fun y => c :: y.data.toList)) (by rw [hs, hp]; simp) (by rw [hp]; simp) (by rw [hp]; exact hx)
    have hlt : (cutB s p).size < s.size := cutB_less (by rw [← length_data, hp]; exact Nat.succ_pos _) h3
    have e : (⟨x.data.toList.toArray⟩ : ByteArray) = x := ba_ext (by simp)
    rw [splitB, if_pos h3, h1, e, splitB_join hp l n (cutB s p) y (hl y (List.mem_cons_self ..)) (fun z hz => hl z (List.mem_cons_of_mem _ hz)) h2 (by omega)]
theorem parts_join {s p x : ByteArray} {c : UInt8} (l : List ByteArray) (hp : p.data.toList = [c]) (hx : freeOf [c] x.data.toList) (hl : ∀ y ∈ l, freeOf [c] y.data.toList) (hs : s.data.toList = x.data.toList ++ l.flatMap (fun y => c :: y.data.toList)) : parts s p = x :: l :=
  splitB_join hp l _ s x hx hl hs (Nat.lt_succ_self _)

theorem free_sep {p x : List UInt8} {c : UInt8} (hp : (∃ d, p = [d] ∧ d ≠ c) ∨ p = [226, 134, 144]) (hc : c ≠ 226) (hx : freeOf p x) : freeOf p (c :: x) := by
  refine freeOf_cons (fun q => ?_) hx
  rcases hp with ⟨d, rfl, hd⟩ | rfl
  · exact pre1 hd
  · exact pre1 (fun e => hc e.symm)
theorem free_put {p x : List UInt8} (hx : freeOf p x) (hs : freeOf p [32]) : freeOf p (putS x [32]) := by
  unfold putS
  split
  · exact freeOf_nil p
  · exact freeOf_append hx hs
theorem free_one {p : List UInt8} {c : UInt8} (hp : (∃ d, p = [d] ∧ d ≠ c) ∨ p = [226, 134, 144]) (hc : c ≠ 226) : freeOf p [c] := free_sep hp hc (freeOf_nil p)
/-- What is at the right of the name. -/
def rtp (rt : ByteArray) : List UInt8 := if rt.data.toList = [] then [] else 32 :: rt.data.toList
theorem rtl_eq (rt : ByteArray) (ls : List ByteArray) : rtl rt ls = rtp rt ++ locs ls := rfl
theorem free_rtp {p : List UInt8} {rt : ByteArray} (hp : (∃ d, p = [d] ∧ d ≠ 32) ∨ p = [226, 134, 144]) (h : freeOf p rt.data.toList) : freeOf p (rtp rt) := by
  unfold rtp
  split
  · exact freeOf_nil p
  · exact free_sep hp (by decide) h
theorem free_mid {p : List UInt8} {nm f g : List UInt8} (hp : (∃ d, p = [d] ∧ d ≠ 32 ∧ d ≠ 40 ∧ d ≠ 41) ∨ p = [226, 134, 144]) (h1 : freeOf p nm) (h2 : freeOf p f) (h3 : freeOf p g) : freeOf p (mid nm f g) := by
  have p32 : (∃ d, p = [d] ∧ d ≠ 32) ∨ p = [226, 134, 144] := hp.imp (fun ⟨d, e, a, _, _⟩ => ⟨d, e, a⟩) id
  have p40 : (∃ d, p = [d] ∧ d ≠ 40) ∨ p = [226, 134, 144] := hp.imp (fun ⟨d, e, _, a, _⟩ => ⟨d, e, a⟩) id
  have p41 : (∃ d, p = [d] ∧ d ≠ 41) ∨ p = [226, 134, 144] := hp.imp (fun ⟨d, e, _, _, a⟩ => ⟨d, e, a⟩) id
  unfold mid
  split
  · exact h1
  · refine free_sep p40 (by decide) (freeOf_append h2 (free_sep p32 (by decide) (freeOf_append h1 (freeOf_append ?_ (free_one p41 (by decide))))))
    split
    · exact freeOf_nil p
    · exact free_sep p32 (by decide) h3

/-- What the reference makes of what stands behind the arrow. -/
theorem guess1_all {R : Raw} (h : HOk R) (res x : ByteArray) (hx : x.data.toList = putS R.b.data.toList [32] ++ (mid R.c.data.toList R.e.data.toList R.f.data.toList ++ rtp R.d)) :
    guess1 res x R.ls = ⟨nilS, res, R.b, R.c, R.d, R.e, R.f, R.ls⟩ := by
  have o : ∀ {y : List UInt8}, (y = [] ∨ isName y = true) → ∀ c, sepB c → freeOf [c] y := fun hy c hc => isName_free hy [c] (.inl ⟨c, rfl, hc⟩)
  have s32 : sepB 32 := .inl rfl
  have s40 : sepB 40 := .inr (.inl rfl)
  have s41 : sepB 41 := .inr (.inr (.inl rfl))
  have hcn : R.c.data.toList = [] ∨ isName R.c.data.toList = true := .inr h.c
  by_cases he : R.e.data.toList = []
  · have he2 : R.e = nilS := ba_ext he
    have hf2 : R.f = nilS := ba_ext (h.g he)
    have hm : mid R.c.data.toList R.e.data.toList R.f.data.toList = R.c.data.toList := by unfold mid; rw [if_pos he]
    rw [hm] at hx
    have hk : cutK x openS = false := by
      refine (cutB_none (s := x) (p := openS) ?_).2
      rw [hx]
      exact freeOf_append (free_put (o h.b 40 s40) (free_one (.inl ⟨40, rfl, by decide⟩) (by decide))) (freeOf_append (o hcn 40 s40) (free_rtp (.inl ⟨40, rfl, by decide⟩) (o h.d 40 s40)))
    unfold guess1
    rw [hk, if_neg (by simp)]
    rcases h.b with hb | hb
    · have hb2 : R.b = nilS := ba_ext hb
      rw [hb, putS, if_pos rfl, List.nil_append] at hx
      rcases h.d with hd | hd
      · have hd2 : R.d = nilS := ba_ext hd
        have hp := parts_join (s := x) (p := gapS) (x := R.c) (c := 32) [] rfl (o hcn 32 s32) (fun y hy => by cases hy) (by rw [hx, rtp, if_pos hd]; rfl)
        rw [hp, guess2, if_neg (by simp), hb2, hd2, he2, hf2]
        rfl
      · have hp := parts_join (s := x) (p := gapS) (x := R.c) (c := 32) [R.d] rfl (o hcn 32 s32) (fun y hy => by rw [List.mem_singleton.1 hy]; exact o (.inr hd) 32 s32) (by rw [hx, rtp, if_neg (isName_ne hd)]; simp)
        rw [hp, guess2, if_neg (by simp), hb2, he2, hf2]
        rfl
    · have hd : isName R.d.data.toList = true := by
        rcases h.d with hd | hd
        · exact absurd (h.rt hd).1 (isName_ne hb)
        · exact hd
      have hp := parts_join (s := x) (p := gapS) (x := R.b) (c := 32) [R.c, R.d] rfl (o (.inr hb) 32 s32) (fun y hy => by
        rcases List.mem_cons.1 hy with rfl | hy
        · exact o hcn 32 s32
        · rw [List.mem_singleton.1 hy]; exact o (.inr hd) 32 s32) (by rw [hx, rtp, if_neg (isName_ne hd), putS, if_neg (isName_ne hb)]; simp)
      rw [hp, guess2, if_pos (by simp), he2, hf2]
      rfl
  · have hen : isName R.e.data.toList = true := h.e.resolve_left he
    have hd : isName R.d.data.toList = true := h.d.resolve_left (fun hd => he (h.rt hd).2)
    obtain ⟨G, hG⟩ : ∃ G : List UInt8, G = (if R.f.data.toList = [] then [] else 32 :: R.f.data.toList) := ⟨_, rfl⟩
    have hm : mid R.c.data.toList R.e.data.toList R.f.data.toList = 40 :: (R.e.data.toList ++ 32 :: (R.c.data.toList ++ (G ++ [41]))) := by unfold mid; rw [if_neg he, hG]
    obtain ⟨h1, h2, h3⟩ := cutB_at (s := x) (p := openS) (x := putS R.b.data.toList [32]) (q := R.e.data.toList ++ 32 :: (R.c.data.toList ++ (G ++ 41 :: rtp R.d))) (by rw [hx, hm]; simp) (by simp) (free_put (o h.b 40 s40) (free_one (.inl ⟨40, rfl, by decide⟩) (by decide)))
    have hGf : freeOf [41] G := by
      rw [hG]
      split
      · exact freeOf_nil _
      · exact free_sep (.inl ⟨41, rfl, by decide⟩) (by decide) (o h.f 41 s41)
    obtain ⟨h4, h5, _⟩ := cutB_at (s := cutB x openS) (p := endS) (x := R.e.data.toList ++ 32 :: (R.c.data.toList ++ G)) (q := rtp R.d) (by rw [h2]; simp) (by simp)
      (freeOf_append (o h.e 41 s41) (free_sep (.inl ⟨41, rfl, by decide⟩) (by decide) (freeOf_append (o hcn 41 s41) hGf)))
    obtain ⟨_, h6, _⟩ := cutB_at (s := cutB (cutB x openS) endS) (p := gapS) (x := []) (q := R.d.data.toList) (by rw [h5, rtp, if_neg (isName_ne hd)]; rfl) (by simp) (freeOf_nil _)
    have hr : gRight x = R.d := ba_ext h6
    have hl : gLeft x = R.b := by
      unfold gLeft
      rw [h1]
      rcases h.b with hb | hb
      · rw [hb, putS, if_pos rfl]
        exact ((cutB_none (s := ⟨([] : List UInt8).toArray⟩) (p := gapS) (freeOf_nil _)).1).trans (ba_ext hb.symm)
      · have hq := (cutB_at (s := ⟨(putS R.b.data.toList [32]).toArray⟩) (p := gapS) (x := R.b.data.toList) (q := []) (by rw [putS, if_neg (isName_ne hb)]; simp) (by simp) (o (.inr hb) 32 s32)).1
        exact hq
    have hmd : (gMid x).data.toList = R.e.data.toList ++ 32 :: (R.c.data.toList ++ G) := by
      unfold gMid
      rw [h4]
    unfold guess1
    rw [if_pos h3, hr, hl]
    rcases h.f with hf | hf
    · have hf2 : R.f = nilS := ba_ext hf
      rw [hf, if_pos rfl] at hG
      have hp := parts_join (s := gMid x) (p := gapS) (x := R.e) (c := 32) [R.c] rfl (o h.e 32 s32) (fun y hy => by rw [List.mem_singleton.1 hy]; exact o hcn 32 s32) (by rw [hmd, hG]; simp)
      rw [hp, hf2]
      rfl
    · rw [if_neg (isName_ne hf)] at hG
      have hp := parts_join (s := gMid x) (p := gapS) (x := R.e) (c := 32) [R.c, R.f] rfl (o h.e 32 s32) (fun y hy => by
        rcases List.mem_cons.1 hy with rfl | hy
        · exact o hcn 32 s32
        · rw [List.mem_singleton.1 hy]; exact o (.inr hf) 32 s32) (by rw [hmd, hG]; simp)
      rw [hp]
      rfl

/-- A right header is guessed of its text as it was. -/
theorem guess_text {R : Raw} (h : R.ok = true) {s : ByteArray} (hs : s.data.toList = R.text) : guessP s = ⟨nilS, R.a, R.b, R.c, R.d, R.e, R.f, R.ls⟩ := by
  have hk := Raw.hok h
  have o : ∀ {y : List UInt8}, (y = [] ∨ isName y = true) → freeOf [59] y := fun hy => isName_free hy [59] (.inl ⟨59, rfl, .inr (.inr (.inr rfl))⟩)
  have q : ∀ {y : List UInt8}, (y = [] ∨ isName y = true) → freeOf [226, 134, 144] y := fun hy => isName_free hy _ (.inr rfl)
  have hcn : R.c.data.toList = [] ∨ isName R.c.data.toList = true := .inr hk.c
  rw [text_eq, rtl_eq] at hs
  obtain ⟨T, hT⟩ : ∃ T : List UInt8, T = putS R.b.data.toList [32] ++ (mid R.c.data.toList R.e.data.toList R.f.data.toList ++ rtp R.d) := ⟨_, rfl⟩
  have hTf : freeOf [59] T := by
    rw [hT]
    exact freeOf_append (free_put (o hk.b) (free_one (.inl ⟨59, rfl, by decide⟩) (by decide))) (freeOf_append (free_mid (.inl ⟨59, rfl, by decide, by decide, by decide⟩) (o hcn) (o hk.e) (o hk.f)) (free_rtp (.inl ⟨59, rfl, by decide⟩) (o hk.d)))
  have hTa : freeOf [226, 134, 144] T := by
    rw [hT]
    exact freeOf_append (free_put (q hk.b) (free_one (.inr rfl) (by decide))) (freeOf_append (free_mid (.inr rfl) (q hcn) (q hk.e) (q hk.f)) (free_rtp (.inr rfl) (q hk.d)))
  have hAf : freeOf [59] (putS R.a.data.toList [226, 134, 144]) := by
    unfold putS
    split
    · exact freeOf_nil _
    · exact freeOf_append (o hk.a) (freeOf_cons (fun _ => pre1 (by decide)) (freeOf_cons (fun _ => pre1 (by decide)) (freeOf_cons (fun _ => pre1 (by decide)) (freeOf_nil _))))
  have hp := parts_join (s := s) (p := semiS) (x := ⟨(putS R.a.data.toList [226, 134, 144] ++ T).toArray⟩) (c := 59) R.ls rfl (freeOf_append hAf hTf) (fun y hy => o (.inr (hk.ls y hy))) (by
    rw [hs, hT, locs]
    simp [bys, List.flatMap_map])
  obtain ⟨t, ht⟩ := parts_cons s semiS
  have e0 : cutA s semiS = ⟨(putS R.a.data.toList [226, 134, 144] ++ T).toArray⟩ := by
    rw [ht] at hp
    exact (List.cons.inj hp).1
  unfold guessP
  rw [hp, List.tail_cons, e0]
  rcases hk.a with ha | ha
  · have ha2 : R.a = nilS := ba_ext ha
    rw [ha, putS, if_pos rfl, List.nil_append]
    obtain ⟨h1, h2⟩ := cutB_none (s := ⟨T.toArray⟩) (p := getsS) hTa
    rw [gres, gx, h2, if_neg (by simp), if_neg (by simp), h1, guess1_all hk nilS _ hT, ha2]
  · obtain ⟨h1, h2, h3⟩ := cutB_at (s := ⟨(putS R.a.data.toList [226, 134, 144] ++ T).toArray⟩) (p := getsS) (x := R.a.data.toList) (q := T) (by rw [putS, if_neg (isName_ne ha)]; simp) (by simp) (q (.inr ha))
    have e1 : (⟨R.a.data.toList.toArray⟩ : ByteArray) = R.a := ba_ext (by simp)
    rw [gres, gx, if_pos h3, if_pos h3, h1, e1, guess1_all hk R.a _ (h2.trans hT)]
end Go.Proofs.YtmddkjmcbddhiaaDoor.P
end
