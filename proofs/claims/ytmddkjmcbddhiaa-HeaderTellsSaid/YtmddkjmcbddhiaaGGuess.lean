/-
  The walk of the reference 15's guess: the header that a text may be. Condition: the text has no more than 2^40 bytes.
-/
import Derived.Test.YtmddkjmcbddhiaaGCut
import Derived.Test.YtmddkjmcbddhiaaGSmall15
import Derived.Deep.DeepCutAuto
namespace Go.Proofs.Ytmddkjmcbddhiaa.P
open Go.RowKit Go.Proofs.YtmddkjmcbddhiaaW.PrintWords Go.Proofs.Ytmddkjmcbddhiaa.Sp
set_option linter.unusedVariables false
set_option linter.unusedSimpArgs false

theorem cut_walk (s p : ByteArray) (w : World) (hp : Aside0 (0 < p.size)) (hs : Aside0 (s.size ≤ 1099511627776)) (hps : Aside0 (p.size ≤ 1099511627776)) :
    Calls Try.prog 52 #[.string s, .string p] w fun e w' => e = .returned (.tuple #[.string (cutA s p), .string (cutB s p), .bool (cutK s p)]) ∧ Below w.heap.size w w' := by
  obtain ⟨k, hk⟩ := (cut_ev s p hp.out hs.out hps.out).rounds
  refine (deckleref15_cut.calls k s p _ _ _ w hk).mono ?_
  rintro e w' ⟨rfl, hd⟩
  exact ⟨rfl, hd.below⟩
theorem at_code {P : Program} {c : Code} {Q : Exit → Act → World → Prop} {a : Act} {w : World} (h : ∀ V, V = w → Code.wp P c Q a V) : Code.wp P c Q a w := h w rfl
theorem split_walk (s p : ByteArray) (w : World) (hp : Aside0 (0 < p.size)) (hs : Aside0 (s.size ≤ 1099511627776)) (hps : Aside0 (p.size ≤ 1099511627776)) :
    Calls Try.prog 51 #[.string s, .string p] w fun e w' => ∃ (g c : Nat), e = .returned (.slice (some ⟨g, 0, none⟩) (parts s p).length c) ∧ Kd.R Kd.string 9 w' w.heap.size (fun _ => True) (.slice (some ⟨g, 0, none⟩) (parts s p).length c) (parts s p) ∧ Below w.heap.size w w' ∧ w.heap.size ≤ g := by
  obtain ⟨k, hk⟩ := (split_f s p hp.out hps.out hs.out).rounds
  refine (deckleref15_split.calls k s p _ w hk).mono ?_
  rintro e w' ⟨v, rfl, hr, hb⟩
  obtain ⟨t, ht⟩ := parts_cons s p
  obtain ⟨g, c, rfl, hg, _⟩ := Kd.R_form hr (by rw [ht]; exact Nat.succ_pos _)
  exact ⟨g, c, rfl, hr, hb, hg⟩
theorem R_cellN {w : World} {base g cap : Nat} {ok : Nat → Prop} {xs : List ByteArray} (h : Kd.R Kd.string 9 w base ok (.slice (some ⟨g, 0, none⟩) xs.length cap) xs) (j : Nat) (x : ByteArray) (hj : xs[j]? = some x) : w.cell? ⟨g, j, none⟩ = some (.string x) := by
  obtain ⟨hl, hx⟩ := List.getElem?_eq_some_iff.1 hj
  obtain ⟨ad, e, hc⟩ := Kd.at_string (Kd.R_reads' h).2.2 (j : Int) (by omega) (by omega)
  obtain rfl := Option.some.inj e
  rw [rdOf_at xs j hl, hx] at hc
  have ea : (⟨g, 0, none⟩ : Addr).add (j : Int).toNat = ⟨g, j, none⟩ := by
    rw [Int.toNat_natCast]
    unfold Addr.add
    split <;> simp_all
  rw [ea] at hc
  exact hc

def gx (p : ByteArray) : ByteArray := if cutK p getsS = true then cutB p getsS else cutA p getsS
def gres (p : ByteArray) : ByteArray := if cutK p getsS = true then cutA p getsS else nilS
abbrev endS : ByteArray := ⟨#[41]⟩
def gMid (x : ByteArray) : ByteArray := cutA (cutB x openS) endS
def gRight (x : ByteArray) : ByteArray := cutB (cutB (cutB x openS) endS) gapS
def gLeft (x : ByteArray) : ByteArray := cutA (cutA x openS) gapS
def guess2 (res : ByteArray) (ws ls : List ByteArray) : Raw := if 2 < ws.length then ⟨nilS, res, ws.getD 0 nilS, ws.getD 1 nilS, ws.getD 2 nilS, nilS, nilS, ls⟩ else ⟨nilS, res, nilS, ws.getD 0 nilS, ws.getD 1 nilS, nilS, nilS, ls⟩
def guess1 (res x : ByteArray) (ls : List ByteArray) : Raw :=
  if cutK x openS = true then ⟨nilS, res, gLeft x, (parts (gMid x) gapS).getD 1 nilS, gRight x, (parts (gMid x) gapS).getD 0 nilS, (parts (gMid x) gapS).getD 2 nilS, ls⟩
  else guess2 res (parts x gapS) ls
/-- The header that a text may be. -/
def guessP (s : ByteArray) : Raw := guess1 (gres (cutA s semiS)) (gx (cutA s semiS)) (parts s semiS).tail
def deckleref15_guess.f (s : ByteArray) : Option (ByteArray × ByteArray × ByteArray × ByteArray × ByteArray × ByteArray × List ByteArray) :=
  if s.size ≤ 1099511627776 then some ((guessP s).a, (guessP s).b, (guessP s).c, (guessP s).d, (guessP s).e, (guessP s).f, (guessP s).ls) else none

/-- What the walk carries. -/
structure Gs (w : World) (a b c d e f : ByteArray) (v : Value) (ls : List ByteArray) (x : World) : Prop where
  r : HBlk w.heap.size nilS nilS nilS nilS nilS nilS (.slice none 0 0) x
  h : HBlk (w.heap.size + 1) a b c d e f v x
  l : Kd.V Kd.string 9 x w.heap.size (fun k => w.heap.size + 2 ≤ k) v ls
  b : Below w.heap.size w x
theorem Gs.below {w x y : World} {a b c d e f : ByteArray} {v : Value} {ls : List ByteArray} (g : Gs w a b c d e f v ls x) (hb : Below x.heap.size x y) : Gs w a b c d e f v ls y :=
  ⟨blk_below g.r hb, blk_below g.h hb, Kd.V_below g.l hb, g.b.trans (hb.mono g.b.size)⟩
theorem Gs.set {w x : World} {a b c d e f a' b' c' d' e' f' : ByteArray} {v : Value} {ls : List ByteArray} (g : Gs w a b c d e f v ls x) (j : Nat) (u : Value) (h : HBlk (w.heap.size + 1) a' b' c' d' e' f' v (x.setCell ⟨w.heap.size + 1, j, none⟩ u)) : Gs w a' b' c' d' e' f' v ls (x.setCell ⟨w.heap.size + 1, j, none⟩ u) :=
  ⟨(Below.heap_setCell x ⟨w.heap.size + 1, j, none⟩ u w.heap.size (by show w.heap.size ≠ w.heap.size + 1; omega)).trans g.r, h, Kd.V_far g.l (fun k hk => by show k ≠ w.heap.size + 1; omega) u, below_set g.b (by omega)⟩

set_option maxHeartbeats 16000000 in
set_option maxRecDepth 100000 in
theorem guess_walk (s : ByteArray) (w : World) (R : Raw) (hR : Aside0 (guessP s = R)) (hs : Aside0 (s.size ≤ 1099511627776)) :
    Calls Try.prog 41 #[.string s] w fun en w' => ∃ v6_ : Value, en = .returned (.agg #[.string R.a, .string R.b, .string R.c, .string R.d, .string R.e, .string R.f, v6_]) ∧ Kd.V Kd.string 9 w' w.heap.size (fun k => w.heap.size ≤ k) v6_ R.ls ∧ Below w.heap.size w w' := by
  have hu := Try.underlying35
  obtain ⟨ls, hps⟩ := parts_cons s semiS
  rw [guessP, hps, List.tail_cons] at hR
  go_enter Try.func41, Try.ntmps41
  go_wp2_with fail
  refine at_world fun V hV => ?_
  have h1 : HBlk w.heap.size nilS nilS nilS nilS nilS nilS (.slice none 0 0) V := by
    rw [hV]
    exact (Below.heap_alloc _ _ _ (by simp)).trans (heap_alloc_new _ _)
  have h2 : HBlk (w.heap.size + 1) nilS nilS nilS nilS nilS nilS (.slice none 0 0) V := by
    rw [hV]
    exact heap_new_at _ _ _ (by simp)
  have h3 : Below w.heap.size w V := by rw [hV]; exact ((Below.refl _ _).alloc (Nat.le_refl _) _).alloc (by simp) _
  have hsz : V.heap.size = w.heap.size + 2 := by rw [hV]; simp
  clear hV
  refine (split_walk s semiS V ⟨by decide⟩ hs ⟨by decide⟩).mono ?_
  rintro en w1 ⟨g, c, rfl, hP, hb, hg⟩
  rw [hps] at hP ⊢
  have hc0 := R_cellN hP 0 (cutA s semiS) rfl
  have hle := (Kd.R_reads' hP).2.1
  have hF2 : Kd.F Kd.string w1 (fun k => w.heap.size + 2 ≤ k) (if c = 1 then some ⟨g, 0, none⟩ else some ⟨g, 1, none⟩) ls.length ls := by
    have hz := Kd.F_cut (m := 1) (Kd.R_F (Kd.R_reok rfl hP (ok := fun k => w.heap.size + 2 ≤ k) (fun k hk => by have := Kd.R_base hP k hk; omega))) (by simp) hle
    exact hz
  have hV2 : Kd.V Kd.string 9 w1 w.heap.size (fun k => w.heap.size + 2 ≤ k) (.slice (if c = 1 then some ⟨g, 0, none⟩ else some ⟨g, 1, none⟩) ls.length (c - 1)) ls := Kd.V_mk (by simp at hle; omega) hF2
  have hb2 := hb
  rw [hsz] at hg
  have hG : Gs w nilS nilS nilS nilS nilS nilS (.slice none 0 0) ls w1 → True := fun _ => trivial
  have k1 := blk_below h1 hb
  have k2 := blk_below h2 hb
  have k3 := h3.trans (hb.mono h3.size)
  have hc1 := (blk_cell k2 6).trans rfl
  have hf1 := blk_frozen k2 6
  have K1 := Aside0.mk k1
  have K2 := Aside0.mk k2
  have K3 := Aside0.mk k3
  have KV := Aside0.mk hV2
  have HL := Aside0.mk hle
  have HP := Aside0.mk hP
  have HG := Aside0.mk hg
  have HSZ := Aside0.mk hsz
  clear hsz hb2 hG h1 h2 h3 hb hF2 hV2 k1 k2 k3 hc0 hP hg
  have hc2 : 1 ≤ c := by have := HL.out; simp at this; omega
  have hl2 : ls.length + 1 ≤ c := by have := HL.out; simpa using this
  clear hle
  go_upto_region 4 with fail
  obtain ⟨X, hX⟩ : ∃ X, X = (if c = 1 then some (⟨g, 0, none⟩ : Addr) else some ⟨g, 1, none⟩) := ⟨_, rfl⟩
  obtain ⟨cc, hcc⟩ : ∃ cc, cc = c - 1 := ⟨_, rfl⟩
  rw [← hX, ← hcc] at KV ⊢
  obtain ⟨w2, hw2⟩ : ∃ w2, w2 = w1.setCell ⟨w.heap.size + 1, 6, none⟩ (.slice X ls.length cc) := ⟨_, rfl⟩
  rw [← hw2]
  have G : Aside0 (Gs w nilS nilS nilS nilS nilS nilS (.slice X ls.length cc) ls w2) := ⟨by
    rw [hw2]
    exact ⟨(Below.heap_setCell w1 ⟨w.heap.size + 1, 6, none⟩ (.slice X ls.length cc) w.heap.size (by show w.heap.size ≠ w.heap.size + 1; omega)).trans K1.out, HBlk.set6 (show HBlk (w.heap.size + 1) nilS nilS nilS nilS nilS nilS (.slice none 0 0) w1 from K2.out) (.slice X ls.length cc), Kd.V_far KV.out (fun k hk => by show k ≠ w.heap.size + 1; omega) (.slice X ls.length cc), below_set K3.out (by omega)⟩⟩
  have hc0 : w2.cell? ⟨g, 0, none⟩ = some (.string (cutA s semiS)) := by
    rw [hw2]
    exact R_cellN (Kd.R_far (Kd.R_reok rfl HP.out (ok := fun k => w.heap.size + 2 ≤ k) (fun k hk => by have := Kd.R_base HP.out k hk; have := HSZ.out; omega)) (p := ⟨w.heap.size + 1, 6, none⟩) (fun k hk => by show k ≠ w.heap.size + 1; omega) (.slice X ls.length cc)) 0 _ rfl
  have HS0 : Aside0 ((cutA s semiS).size ≤ 1099511627776) := ⟨Nat.le_trans (cutA_le _ _) hs.out⟩
  obtain ⟨p0, hp0⟩ : ∃ p, p = cutA s semiS := ⟨_, rfl⟩
  rw [← hp0] at hc0 HS0 hR hps
  have hp1 := Aside0.mk hp0
  have hps1 := Aside0.mk hps
  clear hp0 hps hw2 K1 K2 K3 KV HL HP HG hX hcc hc1 hf1
  go_wp2_with fail
  refine (cut_walk p0 getsS w2 ⟨by decide⟩ HS0 ⟨by decide⟩).mono ?_
  rintro en w3 ⟨rfl, hb⟩
  replace G := Aside0.mk (G.out.below hb)
  clear hb hc0
  go_upto_if 29 with fail
  go_cut [5, 7] (fun s5 s7 wx => ∃ res x : ByteArray, s5 = .string x ∧ Aside0 (guess1 res x ls = R) ∧ Aside0 (x.size ≤ 1099511627776) ∧ Aside0 (Gs w res nilS nilS nilS nilS nilS (.slice X ls.length cc) ls wx))
  case first =>
    have hc := (blk_cell G.out.h 0).trans rfl
    have hf := blk_frozen G.out.h 0
    cases hk : cutK p0 getsS with
    | true =>
      have hR1 : Aside0 (guess1 (cutA p0 getsS) (cutB p0 getsS) ls = R) := ⟨by rw [← hR.out, gres, gx, if_pos hk, if_pos hk]⟩
      clear hk
      go_wp2_with fail
      go_meet
      exact ⟨_, _, rfl, hR1, ⟨Nat.le_trans (cutB_le _ _) HS0.out⟩, ⟨G.out.set 0 _ (G.out.h.set0 _)⟩⟩
    | false =>
      have hR1 : Aside0 (guess1 nilS (cutA p0 getsS) ls = R) := ⟨by rw [← hR.out, gres, gx, if_neg (by simp [hk]), if_neg (by simp [hk])]⟩
      clear hk
      go_wp2_with fail
      go_meet
      exact ⟨_, _, rfl, hR1, ⟨Nat.le_trans (cutA_le _ _) HS0.out⟩, G⟩
  case rest =>
  obtain ⟨res, x, rfl, hR1, HX, G⟩ := hcut
  clear hR
  go_wp2_with fail
  refine (cut_walk x openS _ ⟨by decide⟩ HX ⟨by decide⟩).mono ?_
  rintro en w4 ⟨rfl, hb⟩
  replace G := Aside0.mk (G.out.below hb)
  clear hb
  cases hk : cutK x openS with
  | true =>
    go_wp2_with fail
    refine (cut_walk (cutB x openS) endS _ ⟨by decide⟩ ⟨Nat.le_trans (cutB_le _ _) HX.out⟩ ⟨by decide⟩).mono ?_
    rintro en w5 ⟨rfl, hb⟩
    replace G := Aside0.mk (G.out.below hb)
    clear hb
    go_wp2_with fail
    have HM : Aside0 ((gMid x).size ≤ 1099511627776) := ⟨Nat.le_trans (cutA_le _ _) (Nat.le_trans (cutB_le _ _) HX.out)⟩
    refine (split_walk (gMid x) gapS w5 ⟨by decide⟩ HM ⟨by decide⟩).mono ?_
    rintro en w6 ⟨g2, c2, rfl, hP, hb, hg⟩
    have hgne : w.heap.size + 1 < g2 := Nat.lt_of_lt_of_le (blk_lt G.out.h) hg
    replace G := Aside0.mk (G.out.below hb)
    have hRk : Aside0 (R = ⟨nilS, res, gLeft x, (parts (gMid x) gapS).getD 1 nilS, gRight x, (parts (gMid x) gapS).getD 0 nilS, (parts (gMid x) gapS).getD 2 nilS, ls⟩) := ⟨by rw [← hR1.out, guess1, if_pos hk]⟩
    obtain ⟨wt, hwt⟩ := parts_cons (gMid x) gapS
    rw [hwt] at hP hRk ⊢
    obtain ⟨q0, hq0⟩ : ∃ q, q = cutA (gMid x) gapS := ⟨_, rfl⟩
    rw [← hq0] at hP hRk ⊢
    have hn1 : g2 ≠ w.heap.size + 1 := by omega
    have hn2 : w.heap.size + 1 ≠ g2 := by omega
    have hc0 := R_cellN hP 0 q0 rfl
    have hle := (Kd.R_reads' hP).2.1
    have HQ := Aside0.mk hq0
    have HWT := Aside0.mk hwt
    clear hb hg hgne hwt hk hq0
    have hb2 := (blk_cell G.out.h 2).trans rfl
    have hb4 := (blk_cell G.out.h 4).trans rfl
    have hb5 := (blk_cell G.out.h 5).trans rfl
    have hf2 := blk_frozen G.out.h 2
    have hf4 := blk_frozen G.out.h 4
    have hf5 := blk_frozen G.out.h 5
    cases wt with
    | nil =>
      have HP := Aside0.mk hP
      clear hP
      go_wp2_with fail
      refine at_world fun V hV => ?_
      replace G : Aside0 (Gs w res nilS nilS nilS q0 nilS (.slice X ls.length cc) ls V) := ⟨by rw [hV]; exact (G.out.set 4 (.string q0) (G.out.h.set4 q0))⟩
      clear hV hc0 hb2 hb4 hb5 hf2 hf4 hf5
      refine (cut_walk (cutA x openS) gapS V ⟨by decide⟩ ⟨Nat.le_trans (cutA_le _ _) HX.out⟩ ⟨by decide⟩).mono ?_
      rintro en w7 ⟨rfl, hb⟩
      replace G := Aside0.mk (G.out.below hb)
      clear hb
      have hb1 := (blk_cell G.out.h 1).trans rfl
      have hf1 := blk_frozen G.out.h 1
      go_wp2_with fail
      refine at_world fun V2 hV => ?_
      replace G : Aside0 (Gs w res (gLeft x) nilS nilS q0 nilS (.slice X ls.length cc) ls V2) := ⟨by rw [hV]; exact G.out.set 1 _ (G.out.h.set1 _)⟩
      clear hV hb1 hf1
      refine (cut_walk (cutB (cutB x openS) endS) gapS V2 ⟨by decide⟩ ⟨Nat.le_trans (cutB_le _ _) (Nat.le_trans (cutB_le _ _) HX.out)⟩ ⟨by decide⟩).mono ?_
      rintro en w8 ⟨rfl, hb⟩
      replace G := Aside0.mk (G.out.below hb)
      clear hb
      have hRR : R = ⟨nilS, res, gLeft x, nilS, gRight x, q0, nilS, ls⟩ := hRk.out
      subst hRR
      have hu0 := (blk_cell G.out.h 0).trans rfl
      have hu1 := (blk_cell G.out.h 1).trans rfl
      have hu2 := (blk_cell G.out.h 2).trans rfl
      have hu3 := (blk_cell G.out.h 3).trans rfl
      have hu4 := (blk_cell G.out.h 4).trans rfl
      have hu5 := (blk_cell G.out.h 5).trans rfl
      have hu6 := (blk_cell G.out.h 6).trans rfl
      have hx0 := (blk_cell G.out.r 0).trans rfl
      have hy0 := blk_frozen G.out.r 0
      have hz0 := blk_frozen G.out.h 0
      have hx1 := (blk_cell G.out.r 1).trans rfl
      have hy1 := blk_frozen G.out.r 1
      have hz1 := blk_frozen G.out.h 1
      have hx2 := (blk_cell G.out.r 2).trans rfl
      have hy2 := blk_frozen G.out.r 2
      have hz2 := blk_frozen G.out.h 2
      have hx3 := (blk_cell G.out.r 3).trans rfl
      have hy3 := blk_frozen G.out.r 3
      have hz3 := blk_frozen G.out.h 3
      have hx4 := (blk_cell G.out.r 4).trans rfl
      have hy4 := blk_frozen G.out.r 4
      have hz4 := blk_frozen G.out.h 4
      have hx5 := (blk_cell G.out.r 5).trans rfl
      have hy5 := blk_frozen G.out.r 5
      have hz5 := blk_frozen G.out.h 5
      have hx6 := (blk_cell G.out.r 6).trans rfl
      have hy6 := blk_frozen G.out.r 6
      have hz6 := blk_frozen G.out.h 6
      go_wp2_with fail
      refine bodyPost_ret (results_cell_row rfl _ _ w.heap.size 35 #[.string res, .string (gLeft x), .string nilS, .string (gRight x), .string q0, .string nilS, .slice X ls.length cc] (0, 0) _ rfl (HBlk.setAll (G.out.set 3 (.string (gRight x)) (G.out.h.set3 (gRight x))).r res (gLeft x) nilS (gRight x) q0 nilS (.slice X ls.length cc)) hu rfl (by kernel_rfl)) rfl ?_
      refine ⟨_, rfl, ?_, ?_⟩
      · refine Kd.V_mono (ok := fun k => w.heap.size + 2 ≤ k) ?_ (fun k hk => by omega)
        (with_reducible repeat (refine Kd.V_far ?_ (fun k hk => by show k ≠ w.heap.size; omega) _))
        exact (G.out.set 3 (.string (gRight x)) (G.out.h.set3 (gRight x))).l
      · (with_reducible repeat (refine below_set ?_ (Nat.le_refl _)))
        exact (G.out.set 3 (.string (gRight x)) (G.out.h.set3 (gRight x))).b
    | cons q1 wt =>
      cases wt with
      | nil =>
        have hcw1 := R_cellN hP 1 q1 rfl
        have HP := Aside0.mk hP
        clear hP
        go_wp2_with fail
        refine at_world fun V hV => ?_
        replace G : Aside0 (Gs w res nilS q1 nilS q0 nilS (.slice X ls.length cc) ls V) := ⟨by rw [hV]; exact ((G.out.set 4 (.string q0) (G.out.h.set4 q0)).set 2 (.string q1) ((G.out.h.set4 q0).set2 q1))⟩
        clear hV hc0 hb2 hb4 hb5 hf2 hf4 hf5 hcw1
        refine (cut_walk (cutA x openS) gapS V ⟨by decide⟩ ⟨Nat.le_trans (cutA_le _ _) HX.out⟩ ⟨by decide⟩).mono ?_
        rintro en w7 ⟨rfl, hb⟩
        replace G := Aside0.mk (G.out.below hb)
        clear hb
        have hb1 := (blk_cell G.out.h 1).trans rfl
        have hf1 := blk_frozen G.out.h 1
        go_wp2_with fail
        refine at_world fun V2 hV => ?_
        replace G : Aside0 (Gs w res (gLeft x) q1 nilS q0 nilS (.slice X ls.length cc) ls V2) := ⟨by rw [hV]; exact G.out.set 1 _ (G.out.h.set1 _)⟩
        clear hV hb1 hf1
        refine (cut_walk (cutB (cutB x openS) endS) gapS V2 ⟨by decide⟩ ⟨Nat.le_trans (cutB_le _ _) (Nat.le_trans (cutB_le _ _) HX.out)⟩ ⟨by decide⟩).mono ?_
        rintro en w8 ⟨rfl, hb⟩
        replace G := Aside0.mk (G.out.below hb)
        clear hb
        have hRR : R = ⟨nilS, res, gLeft x, q1, gRight x, q0, nilS, ls⟩ := hRk.out
        subst hRR
        have hu0 := (blk_cell G.out.h 0).trans rfl
        have hu1 := (blk_cell G.out.h 1).trans rfl
        have hu2 := (blk_cell G.out.h 2).trans rfl
        have hu3 := (blk_cell G.out.h 3).trans rfl
        have hu4 := (blk_cell G.out.h 4).trans rfl
        have hu5 := (blk_cell G.out.h 5).trans rfl
        have hu6 := (blk_cell G.out.h 6).trans rfl
        have hx0 := (blk_cell G.out.r 0).trans rfl
        have hy0 := blk_frozen G.out.r 0
        have hz0 := blk_frozen G.out.h 0
        have hx1 := (blk_cell G.out.r 1).trans rfl
        have hy1 := blk_frozen G.out.r 1
        have hz1 := blk_frozen G.out.h 1
        have hx2 := (blk_cell G.out.r 2).trans rfl
        have hy2 := blk_frozen G.out.r 2
        have hz2 := blk_frozen G.out.h 2
        have hx3 := (blk_cell G.out.r 3).trans rfl
        have hy3 := blk_frozen G.out.r 3
        have hz3 := blk_frozen G.out.h 3
        have hx4 := (blk_cell G.out.r 4).trans rfl
        have hy4 := blk_frozen G.out.r 4
        have hz4 := blk_frozen G.out.h 4
        have hx5 := (blk_cell G.out.r 5).trans rfl
        have hy5 := blk_frozen G.out.r 5
        have hz5 := blk_frozen G.out.h 5
        have hx6 := (blk_cell G.out.r 6).trans rfl
        have hy6 := blk_frozen G.out.r 6
        have hz6 := blk_frozen G.out.h 6
        go_wp2_with fail
        refine bodyPost_ret (results_cell_row rfl _ _ w.heap.size 35 #[.string res, .string (gLeft x), .string q1, .string (gRight x), .string q0, .string nilS, .slice X ls.length cc] (0, 0) _ rfl (HBlk.setAll (G.out.set 3 (.string (gRight x)) (G.out.h.set3 (gRight x))).r res (gLeft x) q1 (gRight x) q0 nilS (.slice X ls.length cc)) hu rfl (by kernel_rfl)) rfl ?_
        refine ⟨_, rfl, ?_, ?_⟩
        · refine Kd.V_mono (ok := fun k => w.heap.size + 2 ≤ k) ?_ (fun k hk => by omega)
          (with_reducible repeat (refine Kd.V_far ?_ (fun k hk => by show k ≠ w.heap.size; omega) _))
          exact (G.out.set 3 (.string (gRight x)) (G.out.h.set3 (gRight x))).l
        · (with_reducible repeat (refine below_set ?_ (Nat.le_refl _)))
          exact (G.out.set 3 (.string (gRight x)) (G.out.h.set3 (gRight x))).b
      | cons q2 wt =>
        have hcw1 := R_cellN hP 1 q1 rfl
        have hcw2 := R_cellN hP 2 q2 rfl
        have HP := Aside0.mk hP
        clear hP
        go_wp2_with fail
        refine at_world fun V hV => ?_
        replace G : Aside0 (Gs w res nilS q1 nilS q0 q2 (.slice X ls.length cc) ls V) := ⟨by rw [hV]; exact (((G.out.set 4 (.string q0) (G.out.h.set4 q0)).set 2 (.string q1) ((G.out.h.set4 q0).set2 q1)).set 5 (.string q2) (((G.out.h.set4 q0).set2 q1).set5 q2))⟩
        clear hV hc0 hb2 hb4 hb5 hf2 hf4 hf5 hcw1 hcw2
        refine (cut_walk (cutA x openS) gapS V ⟨by decide⟩ ⟨Nat.le_trans (cutA_le _ _) HX.out⟩ ⟨by decide⟩).mono ?_
        rintro en w7 ⟨rfl, hb⟩
        replace G := Aside0.mk (G.out.below hb)
        clear hb
        have hb1 := (blk_cell G.out.h 1).trans rfl
        have hf1 := blk_frozen G.out.h 1
        go_wp2_with fail
        refine at_world fun V2 hV => ?_
        replace G : Aside0 (Gs w res (gLeft x) q1 nilS q0 q2 (.slice X ls.length cc) ls V2) := ⟨by rw [hV]; exact G.out.set 1 _ (G.out.h.set1 _)⟩
        clear hV hb1 hf1
        refine (cut_walk (cutB (cutB x openS) endS) gapS V2 ⟨by decide⟩ ⟨Nat.le_trans (cutB_le _ _) (Nat.le_trans (cutB_le _ _) HX.out)⟩ ⟨by decide⟩).mono ?_
        rintro en w8 ⟨rfl, hb⟩
        replace G := Aside0.mk (G.out.below hb)
        clear hb
        have hRR : R = ⟨nilS, res, gLeft x, q1, gRight x, q0, q2, ls⟩ := hRk.out
        subst hRR
        have hu0 := (blk_cell G.out.h 0).trans rfl
        have hu1 := (blk_cell G.out.h 1).trans rfl
        have hu2 := (blk_cell G.out.h 2).trans rfl
        have hu3 := (blk_cell G.out.h 3).trans rfl
        have hu4 := (blk_cell G.out.h 4).trans rfl
        have hu5 := (blk_cell G.out.h 5).trans rfl
        have hu6 := (blk_cell G.out.h 6).trans rfl
        have hx0 := (blk_cell G.out.r 0).trans rfl
        have hy0 := blk_frozen G.out.r 0
        have hz0 := blk_frozen G.out.h 0
        have hx1 := (blk_cell G.out.r 1).trans rfl
        have hy1 := blk_frozen G.out.r 1
        have hz1 := blk_frozen G.out.h 1
        have hx2 := (blk_cell G.out.r 2).trans rfl
        have hy2 := blk_frozen G.out.r 2
        have hz2 := blk_frozen G.out.h 2
        have hx3 := (blk_cell G.out.r 3).trans rfl
        have hy3 := blk_frozen G.out.r 3
        have hz3 := blk_frozen G.out.h 3
        have hx4 := (blk_cell G.out.r 4).trans rfl
        have hy4 := blk_frozen G.out.r 4
        have hz4 := blk_frozen G.out.h 4
        have hx5 := (blk_cell G.out.r 5).trans rfl
        have hy5 := blk_frozen G.out.r 5
        have hz5 := blk_frozen G.out.h 5
        have hx6 := (blk_cell G.out.r 6).trans rfl
        have hy6 := blk_frozen G.out.r 6
        have hz6 := blk_frozen G.out.h 6
        go_wp2_with fail
        refine bodyPost_ret (results_cell_row rfl _ _ w.heap.size 35 #[.string res, .string (gLeft x), .string q1, .string (gRight x), .string q0, .string q2, .slice X ls.length cc] (0, 0) _ rfl (HBlk.setAll (G.out.set 3 (.string (gRight x)) (G.out.h.set3 (gRight x))).r res (gLeft x) q1 (gRight x) q0 q2 (.slice X ls.length cc)) hu rfl (by kernel_rfl)) rfl ?_
        refine ⟨_, rfl, ?_, ?_⟩
        · refine Kd.V_mono (ok := fun k => w.heap.size + 2 ≤ k) ?_ (fun k hk => by omega)
          (with_reducible repeat (refine Kd.V_far ?_ (fun k hk => by show k ≠ w.heap.size; omega) _))
          exact (G.out.set 3 (.string (gRight x)) (G.out.h.set3 (gRight x))).l
        · (with_reducible repeat (refine below_set ?_ (Nat.le_refl _)))
          exact (G.out.set 3 (.string (gRight x)) (G.out.h.set3 (gRight x))).b
  | false =>
    go_wp2_with fail
    refine (split_walk x gapS _ ⟨by decide⟩ HX ⟨by decide⟩).mono ?_
    rintro en w6 ⟨g2, c2, rfl, hP, hb, hg⟩
    have hgne : w.heap.size + 1 < g2 := Nat.lt_of_lt_of_le (blk_lt G.out.h) hg
    replace G := Aside0.mk (G.out.below hb)
    have hRk : Aside0 (R = guess2 res (parts x gapS) ls) := ⟨by rw [← hR1.out, guess1, if_neg (by simp [hk])]⟩
    obtain ⟨wt, hwt⟩ := parts_cons x gapS
    rw [hwt] at hP hRk ⊢
    obtain ⟨q0, hq0⟩ : ∃ q, q = cutA x gapS := ⟨_, rfl⟩
    rw [← hq0] at hP hRk ⊢
    have hn1 : g2 ≠ w.heap.size + 1 := by omega
    have hn2 : w.heap.size + 1 ≠ g2 := by omega
    have hc0 := R_cellN hP 0 q0 rfl
    have hle := (Kd.R_reads' hP).2.1
    have HQ := Aside0.mk hq0
    have HWT := Aside0.mk hwt
    clear hb hg hgne hwt hk hq0
    have hu0 := (blk_cell G.out.h 0).trans rfl
    have hu1 := (blk_cell G.out.h 1).trans rfl
    have hu2 := (blk_cell G.out.h 2).trans rfl
    have hu3 := (blk_cell G.out.h 3).trans rfl
    have hu4 := (blk_cell G.out.h 4).trans rfl
    have hu5 := (blk_cell G.out.h 5).trans rfl
    have hu6 := (blk_cell G.out.h 6).trans rfl
    have hx0 := (blk_cell G.out.r 0).trans rfl
    have hy0 := blk_frozen G.out.r 0
    have hz0 := blk_frozen G.out.h 0
    have hx1 := (blk_cell G.out.r 1).trans rfl
    have hy1 := blk_frozen G.out.r 1
    have hz1 := blk_frozen G.out.h 1
    have hx2 := (blk_cell G.out.r 2).trans rfl
    have hy2 := blk_frozen G.out.r 2
    have hz2 := blk_frozen G.out.h 2
    have hx3 := (blk_cell G.out.r 3).trans rfl
    have hy3 := blk_frozen G.out.r 3
    have hz3 := blk_frozen G.out.h 3
    have hx4 := (blk_cell G.out.r 4).trans rfl
    have hy4 := blk_frozen G.out.r 4
    have hz4 := blk_frozen G.out.h 4
    have hx5 := (blk_cell G.out.r 5).trans rfl
    have hy5 := blk_frozen G.out.r 5
    have hz5 := blk_frozen G.out.h 5
    have hx6 := (blk_cell G.out.r 6).trans rfl
    have hy6 := blk_frozen G.out.r 6
    have hz6 := blk_frozen G.out.h 6
    cases wt with
    | nil =>
      have HP := Aside0.mk hP
      clear hP
      have hRR : R = ⟨nilS, res, nilS, q0, nilS, nilS, nilS, ls⟩ := hRk.out
      subst hRR
      go_wp2_with fail
      refine bodyPost_ret (results_cell_row rfl _ _ w.heap.size 35 #[.string res, .string nilS, .string q0, .string nilS, .string nilS, .string nilS, .slice X ls.length cc] (0, 0) _ rfl (HBlk.setAll (G.out.set 2 (.string q0) (G.out.h.set2 q0)).r res nilS q0 nilS nilS nilS (.slice X ls.length cc)) hu rfl (by kernel_rfl)) rfl ?_
      refine ⟨_, rfl, ?_, ?_⟩
      · refine Kd.V_mono (ok := fun k => w.heap.size + 2 ≤ k) ?_ (fun k hk => by omega)
        (with_reducible repeat (refine Kd.V_far ?_ (fun k hk => by show k ≠ w.heap.size; omega) _))
        exact (G.out.set 2 (.string q0) (G.out.h.set2 q0)).l
      · (with_reducible repeat (refine below_set ?_ (Nat.le_refl _)))
        exact (G.out.set 2 (.string q0) (G.out.h.set2 q0)).b
    | cons q1 wt =>
      cases wt with
      | nil =>
        have hcw1 := R_cellN hP 1 q1 rfl
        have HP := Aside0.mk hP
        clear hP
        have hRR : R = ⟨nilS, res, nilS, q0, q1, nilS, nilS, ls⟩ := hRk.out
        subst hRR
        go_wp2_with fail
        refine bodyPost_ret (results_cell_row rfl _ _ w.heap.size 35 #[.string res, .string nilS, .string q0, .string q1, .string nilS, .string nilS, .slice X ls.length cc] (0, 0) _ rfl (HBlk.setAll ((G.out.set 2 (.string q0) (G.out.h.set2 q0)).set 3 (.string q1) ((G.out.h.set2 q0).set3 q1)).r res nilS q0 q1 nilS nilS (.slice X ls.length cc)) hu rfl (by kernel_rfl)) rfl ?_
        refine ⟨_, rfl, ?_, ?_⟩
        · refine Kd.V_mono (ok := fun k => w.heap.size + 2 ≤ k) ?_ (fun k hk => by omega)
          (with_reducible repeat (refine Kd.V_far ?_ (fun k hk => by show k ≠ w.heap.size; omega) _))
          exact ((G.out.set 2 (.string q0) (G.out.h.set2 q0)).set 3 (.string q1) ((G.out.h.set2 q0).set3 q1)).l
        · (with_reducible repeat (refine below_set ?_ (Nat.le_refl _)))
          exact ((G.out.set 2 (.string q0) (G.out.h.set2 q0)).set 3 (.string q1) ((G.out.h.set2 q0).set3 q1)).b
      | cons q2 wt =>
        have hcw1 := R_cellN hP 1 q1 rfl
        have hcw2 := R_cellN hP 2 q2 rfl
        have HP := Aside0.mk hP
        clear hP
        have hRR : R = ⟨nilS, res, q0, q1, q2, nilS, nilS, ls⟩ := hRk.out
        subst hRR
        go_upto_if 96 with fail
        refine at_code fun V hV => ?_
        have hbk : V.heap[g2]? = w6.heap[g2]? := by
          rw [hV]
          exact (Below.heap_setCell _ ⟨w.heap.size + 1, 3, none⟩ _ g2 hn1).trans (Below.heap_setCell _ ⟨w.heap.size + 1, 2, none⟩ _ g2 hn1)
        replace hc0 := (World.cell?_of_block (a := ⟨g2, 0, none⟩) hbk).trans hc0
        replace hcw1 := (World.cell?_of_block (a := ⟨g2, 1, none⟩) hbk).trans hcw1
        replace hcw2 := (World.cell?_of_block (a := ⟨g2, 2, none⟩) hbk).trans hcw2
        have G2 : Aside0 (Gs w res nilS q0 q1 nilS nilS (.slice X ls.length cc) ls V) := ⟨by rw [hV]; exact ((G.out.set 2 (.string q0) (G.out.h.set2 q0)).set 3 (.string q1) ((G.out.h.set2 q0).set3 q1))⟩
        clear G hV hbk hu0 hu1 hu2 hu3 hu4 hu5 hu6 hx0 hx1 hx2 hx3 hx4 hx5 hx6 hy0 hy1 hy2 hy3 hy4 hy5 hy6 hz0 hz1 hz2 hz3 hz4 hz5 hz6
        have hd1 := (blk_cell G2.out.h 1).trans rfl
        have hd2 := (blk_cell G2.out.h 2).trans rfl
        have hd3 := (blk_cell G2.out.h 3).trans rfl
        have hf1 := blk_frozen G2.out.h 1
        have hf2 := blk_frozen G2.out.h 2
        have hf3 := blk_frozen G2.out.h 3
        go_upto_region 28 with fail
        refine at_code fun V3 hV => ?_
        have G : Aside0 (Gs w res q0 q1 q2 nilS nilS (.slice X ls.length cc) ls V3) := ⟨by rw [hV]; exact ((G2.out.set 1 (.string q0) (G2.out.h.set1 q0)).set 2 (.string q1) ((G2.out.h.set1 q0).set2 q1)).set 3 (.string q2) (((G2.out.h.set1 q0).set2 q1).set3 q2)⟩
        clear G2 hV hd1 hd2 hd3 hf1 hf2 hf3 hc0 hcw1 hcw2
        have hu0 := (blk_cell G.out.h 0).trans rfl
        have hu1 := (blk_cell G.out.h 1).trans rfl
        have hu2 := (blk_cell G.out.h 2).trans rfl
        have hu3 := (blk_cell G.out.h 3).trans rfl
        have hu4 := (blk_cell G.out.h 4).trans rfl
        have hu5 := (blk_cell G.out.h 5).trans rfl
        have hu6 := (blk_cell G.out.h 6).trans rfl
        have hx0 := (blk_cell G.out.r 0).trans rfl
        have hy0 := blk_frozen G.out.r 0
        have hz0 := blk_frozen G.out.h 0
        have hx1 := (blk_cell G.out.r 1).trans rfl
        have hy1 := blk_frozen G.out.r 1
        have hz1 := blk_frozen G.out.h 1
        have hx2 := (blk_cell G.out.r 2).trans rfl
        have hy2 := blk_frozen G.out.r 2
        have hz2 := blk_frozen G.out.h 2
        have hx3 := (blk_cell G.out.r 3).trans rfl
        have hy3 := blk_frozen G.out.r 3
        have hz3 := blk_frozen G.out.h 3
        have hx4 := (blk_cell G.out.r 4).trans rfl
        have hy4 := blk_frozen G.out.r 4
        have hz4 := blk_frozen G.out.h 4
        have hx5 := (blk_cell G.out.r 5).trans rfl
        have hy5 := blk_frozen G.out.r 5
        have hz5 := blk_frozen G.out.h 5
        have hx6 := (blk_cell G.out.r 6).trans rfl
        have hy6 := blk_frozen G.out.r 6
        have hz6 := blk_frozen G.out.h 6
        go_wp2_with fail
        refine bodyPost_ret (results_cell_row rfl _ _ w.heap.size 35 #[.string res, .string q0, .string q1, .string q2, .string nilS, .string nilS, .slice X ls.length cc] (0, 0) _ rfl (HBlk.setAll G.out.r res q0 q1 q2 nilS nilS (.slice X ls.length cc)) hu rfl (by kernel_rfl)) rfl ?_
        refine ⟨_, rfl, ?_, ?_⟩
        · refine Kd.V_mono (ok := fun k => w.heap.size + 2 ≤ k) ?_ (fun k hk => by omega)
          (with_reducible repeat (refine Kd.V_far ?_ (fun k hk => by show k ≠ w.heap.size; omega) _))
          exact G.out.l
        · (with_reducible repeat (refine below_set ?_ (Nat.le_refl _)))
          exact G.out.b
theorem deckleref15_guess.calls (a0 : ByteArray) (r1 r2 r3 r4 r5 r6 : ByteArray) (r7 : List ByteArray) (w : World) (h : deckleref15_guess.f a0 = some (r1, r2, r3, r4, r5, r6, r7)) :
    Calls Try.prog 41 #[.string a0] w fun en w' => ∃ v6_ : Value, en = .returned (.agg #[.string r1, .string r2, .string r3, .string r4, .string r5, .string r6, v6_]) ∧ Kd.V Kd.string 9 w' w.heap.size (fun k => w.heap.size ≤ k) v6_ r7 ∧ Below w.heap.size w w' := by
  unfold deckleref15_guess.f at h
  split at h
  · rename_i hs
    simp only [Option.some.injEq, Prod.mk.injEq] at h
    obtain ⟨rfl, rfl, rfl, rfl, rfl, rfl, rfl⟩ := h
    exact guess_walk a0 w _ ⟨rfl⟩ ⟨hs⟩
  · cases h
end Go.Proofs.Ytmddkjmcbddhiaa.P
