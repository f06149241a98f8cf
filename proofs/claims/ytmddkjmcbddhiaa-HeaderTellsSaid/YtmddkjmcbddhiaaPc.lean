/-
  Plain: where a sign, or the arrow, first stands in texts that are made of names. No memory in sight.
  Plain: the reference's guess is a right header of its text as it was. No memory in sight.
  Plain: how great the parts of the reference's guess are. No memory in sight.
  Plain: what the reference 15's Right and Text come to. No memory in sight.
-/
import Derived.Test.YtmddkjmcbddhiaaPa
import Derived.Test.YtmddkjmcbddhiaaGGuess
import Derived.Test.YtmddkjmcbddhiaaP15
import Derived.Test.YtmddkjmcbddhiaaP14
import Derived.Test.YtmddkjmcbddhiaaFx
section
namespace Go.Proofs.Ytmddkjmcbddhiaa.P
open Go.RowKit Go.Proofs.YtmddkjmcbddhiaaW.PrintWords Go.Proofs.Ytmddkjmcbddhiaa.Sp
set_option linter.unusedVariables false
set_option linter.unusedSimpArgs false

theorem u8_of {a : UInt8} {n : Nat} (h : a.toNat = n) (hn : n < 256) : a = UInt8.ofNat n := by
  rw [← h]
  exact (UInt8.ofNat_toNat).symm
/-- The signs of a name. -/
theorem sign_cases {l : List UInt8} (h : gW l ≠ 0) : (∃ a t, l = a :: t ∧ gW l = 1 ∧ ¬ sepB a ∧ a ≠ 226) ∨ (∃ t, l = 194 :: 175 :: t ∧ gW l = 2) ∨ (∃ t, l = 226 :: 136 :: 134 :: t ∧ gW l = 3) ∨ (∃ t, l = 226 :: 141 :: 153 :: t ∧ gW l = 3) := by
  have one : ∀ (a : UInt8) (t : List UInt8), (48 ≤ a.toNat ∧ a.toNat ≤ 57) ∨ letN a.toNat = true → ¬ sepB a ∧ a ≠ 226 := by
    intro a t ha
    have hb : (48 ≤ a.toNat ∧ a.toNat ≤ 57) ∨ (65 ≤ a.toNat ∧ a.toNat ≤ 122) := ha.imp id letN_pos
    refine ⟨fun hs => ?_, fun e => by rw [e] at hb; revert hb; decide⟩
    rcases hs with rfl | rfl | rfl | rfl <;> (revert hb; decide)
  unfold gW gN bgN at h ⊢
  match l, h with
  | [], h => simp [letN, at8] at h
  | a :: t, h =>
    have e0 : at8 (a :: t) 0 = a.toNat := rfl
    rw [e0] at h ⊢
    by_cases hd : 48 ≤ a.toNat ∧ a.toNat ≤ 57
    · rw [if_pos hd]
      exact .inl ⟨a, t, rfl, rfl, one a t (.inl hd)⟩
    · rw [if_neg hd] at h ⊢
      by_cases h2 : a.toNat = 194 ∧ 1 < (a :: t).length ∧ at8 (a :: t) 1 = 175
      · rw [if_pos h2]
        match t, h2 with
        | [], h2 => simp at h2
        | b :: u, h2 =>
          obtain rfl := u8_of h2.1 (by decide)
          obtain rfl := u8_of (show b.toNat = 175 from h2.2.2) (by decide)
          exact .inr (.inl ⟨u, rfl, rfl⟩)
      · rw [if_neg h2] at h ⊢
        by_cases hl : letN a.toNat = true
        · rw [if_pos hl]
          exact .inl ⟨a, t, rfl, rfl, one a t (.inr hl)⟩
        · rw [if_neg hl] at h ⊢
          by_cases h3 : a.toNat = 226 ∧ 2 < (a :: t).length ∧ (at8 (a :: t) 1 = 136 ∧ at8 (a :: t) 2 = 134 ∨ at8 (a :: t) 1 = 141 ∧ at8 (a :: t) 2 = 153)
          · rw [if_pos h3]
            match t, h3 with
            | [], h3 => simp at h3
            | [b], h3 => simp at h3
            | b :: c :: u, h3 =>
              obtain rfl := u8_of h3.1 (by decide)
              rcases h3.2.2 with ⟨h4, h5⟩ | ⟨h4, h5⟩
              · obtain rfl := u8_of (show b.toNat = 136 from h4) (by decide)
                obtain rfl := u8_of (show c.toNat = 134 from h5) (by decide)
                exact .inr (.inr (.inl ⟨u, rfl, rfl⟩))
              · obtain rfl := u8_of (show b.toNat = 141 from h4) (by decide)
                obtain rfl := u8_of (show c.toNat = 153 from h5) (by decide)
                exact .inr (.inr (.inr ⟨u, rfl, rfl⟩))
          · rw [if_neg h3] at h
            exact absurd rfl h

/-- Behind x, whatever stands there: p does not stand at a place of x. -/
def freeOf (p x : List UInt8) : Prop := ∀ i, i < x.length → ∀ q, ¬ p <+: x.drop i ++ q
theorem freeOf_nil (p : List UInt8) : freeOf p [] := fun i hi => by simp at hi
theorem freeOf_append {p x y : List UInt8} (hx : freeOf p x) (hy : freeOf p y) : freeOf p (x ++ y) := by
  intro i hi q
  by_cases h : i < x.length
  · rw [List.drop_append_of_le_length (by omega), List.append_assoc]
    exact hx i h _
  · rw [List.drop_append, List.drop_eq_nil_of_le (by omega), List.nil_append]
    exact hy (i - x.length) (by rw [List.length_append] at hi; omega) q
theorem freeOf_cons {p x : List UInt8} {c : UInt8} (hc : ∀ q, ¬ p <+: c :: (x ++ q)) (hx : freeOf p x) : freeOf p (c :: x) := by
  intro i hi q
  cases i with
  | zero => exact hc q
  | succ i => exact hx i (by simpa using hi) q
theorem cutL_at {p : List UInt8} : ∀ {x : List UInt8} (q : List UInt8), p ≠ [] → freeOf p x → cutL p (x ++ (p ++ q)) = (x, q, true)
  | [], q, hp, _ => by
    cases p with
    | nil => exact absurd rfl hp
    | cons c t =>
      have h : c :: t <+: c :: (t ++ q) := ⟨q, rfl⟩
      simp only [List.nil_append, List.cons_append, cutL, if_pos h]
      simp
  | c :: x, q, hp, hx => by
    have h : ¬ p <+: c :: (x ++ (p ++ q)) := hx 0 (Nat.succ_pos _) _
    have hx2 : freeOf p x := fun i hi r => hx (i + 1) (by simpa using hi) r
    simp only [List.cons_append, cutL, if_neg h, cutL_at q hp hx2]
theorem cutL_none {p : List UInt8} : ∀ {x : List UInt8}, freeOf p x → cutL p x = (x, [], false)
  | [], _ => rfl
  | c :: x, hx => by
    have h : ¬ p <+: c :: x := by have := hx 0 (Nat.succ_pos _) []; simpa using this
    have hx2 : freeOf p x := fun i hi r => hx (i + 1) (by simpa using hi) r
    simp only [cutL, if_neg h, cutL_none hx2]
/-- Neither a sign between names nor the arrow stands in a name. -/
theorem name_free (p : List UInt8) (hp : (∃ c, p = [c] ∧ sepB c) ∨ p = [226, 134, 144]) : ∀ (n : Nat) (l : List UInt8), l.length ≤ n → gl l = l.length → freeOf p l := by
  intro n
  induction n with
  | zero =>
    intro l h1 _
    cases l with
    | nil => exact freeOf_nil p
    | cons => simp at h1
  | succ n ih =>
    intro l h1 h2
    by_cases hz : gW l = 0
    · rw [gl_zero hz] at h2
      cases l with
      | nil => exact freeOf_nil p
      | cons => simp at h2
    · have h4 := gl_step hz
      have h5 := gW_le l
      have h6 := ih (l.drop (gW l)) (by rw [List.length_drop]; omega) (by rw [List.length_drop]; omega)
      rcases sign_cases hz with ⟨a, t, rfl, hw, ha, hb⟩ | ⟨t, rfl, hw⟩ | ⟨t, rfl, hw⟩ | ⟨t, rfl, hw⟩
      · rw [hw] at h6
        refine freeOf_cons (fun q => ?_) h6
        rcases hp with ⟨c, rfl, hc⟩ | rfl
        · exact pre1 (fun e => ha (e ▸ hc))
        · exact pre1 (fun e => hb e.symm)
      all_goals rw [hw] at h6
      · refine freeOf_cons (fun q => ?_) (freeOf_cons (fun q => ?_) h6)
        all_goals rcases hp with ⟨c, rfl, hc⟩ | rfl
        all_goals first
          | exact pre1 (by decide)
          | (refine pre1 (fun e => ?_); subst e; rcases hc with h | h | h | h <;> exact absurd h (by decide))
      · refine freeOf_cons (fun q => ?_) (freeOf_cons (fun q => ?_) (freeOf_cons (fun q => ?_) h6))
        all_goals rcases hp with ⟨c, rfl, hc⟩ | rfl
        all_goals first
          | exact pre1 (by decide)
          | (intro h; have := List.cons_prefix_cons.1 (List.cons_prefix_cons.1 h).2; exact absurd this.1 (by decide))
          | (refine pre1 (fun e => ?_); subst e; rcases hc with h | h | h | h <;> exact absurd h (by decide))
      · refine freeOf_cons (fun q => ?_) (freeOf_cons (fun q => ?_) (freeOf_cons (fun q => ?_) h6))
        all_goals rcases hp with ⟨c, rfl, hc⟩ | rfl
        all_goals first
          | exact pre1 (by decide)
          | (intro h; have := List.cons_prefix_cons.1 (List.cons_prefix_cons.1 h).2; exact absurd this.1 (by decide))
          | (refine pre1 (fun e => ?_); subst e; rcases hc with h | h | h | h <;> exact absurd h (by decide))
theorem isName_free {x : List UInt8} (h : x = [] ∨ isName x = true) (p : List UInt8) (hp : (∃ c, p = [c] ∧ sepB c) ∨ p = [226, 134, 144]) : freeOf p x := by
  rcases h with rfl | h
  · exact freeOf_nil p
  · exact name_free p hp x.length x (Nat.le_refl _) ((isName_iff x).1 h).2.1
end Go.Proofs.Ytmddkjmcbddhiaa.P
end
section
namespace Go.Proofs.Ytmddkjmcbddhiaa.P
open Go.RowKit Go.Proofs.YtmddkjmcbddhiaaW.PrintWords Go.Proofs.Ytmddkjmcbddhiaa.Sp
set_option linter.unusedVariables false
set_option linter.unusedSimpArgs false

theorem cutB_at {s p : ByteArray} {x q : List UInt8} (hs : s.data.toList = x ++ (p.data.toList ++ q)) (hp : p.data.toList ≠ []) (hx : freeOf p.data.toList x) : cutA s p = ⟨x.toArray⟩ ∧ (cutB s p).data.toList = q ∧ cutK s p = true := by
  unfold cutA cutB cutK
  rw [hs, cutL_at q hp hx]
  simp
theorem cutB_none {s p : ByteArray} (hx : freeOf p.data.toList s.data.toList) : cutA s p = s ∧ cutK s p = false := by
  unfold cutA cutK
  rw [cutL_none hx]
  exact ⟨ba_ext (by simp), rfl⟩
theorem splitB_join {p : ByteArray} {c : UInt8} (hp : p.data.toList = [c]) : ∀ (l : List ByteArray) (n : Nat) (s x : ByteArray), freeOf [c] x.data.toList → (∀ y ∈ l, freeOf [c] y.data.toList) →
    s.data.toList = x.data.toList ++ l.flatMap (fun y => c :: y.data.toList) → s.size < n → splitB p n s = x :: l
  | _, 0, s, x, _, _, _, hn => by omega
  | [], n + 1, s, x, hx, _, hs, hn => by
    have e : s = x := ba_ext (by simpa using hs)
    obtain ⟨h1, h2⟩ := cutB_none (s := s) (p := p) (by rw [hp, e]; exact hx)
    rw [splitB, h2, h1, e]
    simp
  | y :: l, n + 1, s, x, hx, hl, hs, hn => by
    obtain ⟨h1, h2, h3⟩ := cutB_at (s := s) (p := p) (x := x.data.toList) (q := y.data.toList ++ l.flatMap (fun y => c :: y.data.toList)) (by rw [hs, hp]; simp) (by rw [hp]; simp) (by rw [hp]; exact hx)
    have hlt : (cutB s p).size < s.size := cutB_less (by rw [← length_data, hp]; exact Nat.succ_pos _) h3
    have e : (⟨x.data.toList.toArray⟩ : ByteArray) = x := ba_ext (by simp)
    rw [splitB, if_pos h3, h1, e, splitB_join hp l n (cutB s p) y (hl y (List.mem_cons_self ..)) (fun z hz => hl z (List.mem_cons_of_mem _ hz)) h2 (by omega)]
theorem parts_join {s p x : ByteArray} {c : UInt8} (l : List ByteArray) (hp : p.data.toList = [c]) (hx : freeOf [c] x.data.toList) (hl : ∀ y ∈ l, freeOf [c] y.data.toList) (hs : s.data.toList = x.data.toList ++ l.flatMap (fun y => c :: y.data.toList)) : parts s p = x :: l :=
  splitB_join hp l _ s x hx hl hs (Nat.lt_succ_self _)

theorem free_sep {p x : List UInt8} {c : UInt8} (hp : (∃ d, p = [d] ∧ d ≠ c) ∨ p = [226, 134, 144]) (hc : c ≠ 226) (hx : freeOf p x) : freeOf p (c :: x) := by
  refine freeOf_cons (fun q => ?_) hx
  rcases hp with ⟨d, rfl, hd⟩ | rfl
  · exact pre1 hd
  · exact pre1 (fun e => hc e.symm)
theorem free_put {p x : List UInt8} (hx : freeOf p x) (hs : freeOf p [32]) : freeOf p (putS x [32]) := by
  unfold putS
  split
  · exact freeOf_nil p
  · exact freeOf_append hx hs
theorem free_one {p : List UInt8} {c : UInt8} (hp : (∃ d, p = [d] ∧ d ≠ c) ∨ p = [226, 134, 144]) (hc : c ≠ 226) : freeOf p [c] := free_sep hp hc (freeOf_nil p)
/-- What is at the right of the name. -/
def rtp (rt : ByteArray) : List UInt8 := if rt.data.toList = [] then [] else 32 :: rt.data.toList
theorem rtl_eq (rt : ByteArray) (ls : List ByteArray) : rtl rt ls = rtp rt ++ locs ls := rfl
theorem free_rtp {p : List UInt8} {rt : ByteArray} (hp : (∃ d, p = [d] ∧ d ≠ 32) ∨ p = [226, 134, 144]) (h : freeOf p rt.data.toList) : freeOf p (rtp rt) := by
  unfold rtp
  split
  · exact freeOf_nil p
  · exact free_sep hp (by decide) h
theorem free_mid {p : List UInt8} {nm f g : List UInt8} (hp : (∃ d, p = [d] ∧ d ≠ 32 ∧ d ≠ 40 ∧ d ≠ 41) ∨ p = [226, 134, 144]) (h1 : freeOf p nm) (h2 : freeOf p f) (h3 : freeOf p g) : freeOf p (mid nm f g) := by
  have p32 : (∃ d, p = [d] ∧ d ≠ 32) ∨ p = [226, 134, 144] := hp.imp (fun ⟨d, e, a, _, _⟩ => ⟨d, e, a⟩) id
  have p40 : (∃ d, p = [d] ∧ d ≠ 40) ∨ p = [226, 134, 144] := hp.imp (fun ⟨d, e, _, a, _⟩ => ⟨d, e, a⟩) id
  have p41 : (∃ d, p = [d] ∧ d ≠ 41) ∨ p = [226, 134, 144] := hp.imp (fun ⟨d, e, _, _, a⟩ => ⟨d, e, a⟩) id
  unfold mid
  split
  · exact h1
  · refine free_sep p40 (by decide) (freeOf_append h2 (free_sep p32 (by decide) (freeOf_append h1 (freeOf_append ?_ (free_one p41 (by decide))))))
    split
    · exact freeOf_nil p
    · exact free_sep p32 (by decide) h3

/-- What the reference makes of what stands behind the arrow. -/
theorem guess1_all {R : Raw} (h : HOk R) (res x : ByteArray) (hx : x.data.toList = putS R.b.data.toList [32] ++ (mid R.c.data.toList R.e.data.toList R.f.data.toList ++ rtp R.d)) :
    guess1 res x R.ls = ⟨nilS, res, R.b, R.c, R.d, R.e, R.f, R.ls⟩ := by
  have o : ∀ {y : List UInt8}, (y = [] ∨ isName y = true) → ∀ c, sepB c → freeOf [c] y := fun hy c hc => isName_free hy [c] (.inl ⟨c, rfl, hc⟩)
  have s32 : sepB 32 := .inl rfl
  have s40 : sepB 40 := .inr (.inl rfl)
  have s41 : sepB 41 := .inr (.inr (.inl rfl))
  have hcn : R.c.data.toList = [] ∨ isName R.c.data.toList = true := .inr h.c
  by_cases he : R.e.data.toList = []
  · have he2 : R.e = nilS := ba_ext he
    have hf2 : R.f = nilS := ba_ext (h.g he)
    have hm : mid R.c.data.toList R.e.data.toList R.f.data.toList = R.c.data.toList := by unfold mid; rw [if_pos he]
    rw [hm] at hx
    have hk : cutK x openS = false := by
      refine (cutB_none (s := x) (p := openS) ?_).2
      rw [hx]
      exact freeOf_append (free_put (o h.b 40 s40) (free_one (.inl ⟨40, rfl, by decide⟩) (by decide))) (freeOf_append (o hcn 40 s40) (free_rtp (.inl ⟨40, rfl, by decide⟩) (o h.d 40 s40)))
    unfold guess1
    rw [hk, if_neg (by simp)]
    rcases h.b with hb | hb
    · have hb2 : R.b = nilS := ba_ext hb
      rw [hb, putS, if_pos rfl, List.nil_append] at hx
      rcases h.d with hd | hd
      · have hd2 : R.d = nilS := ba_ext hd
        have hp := parts_join (s := x) (p := gapS) (x := R.c) (c := 32) [] rfl (o hcn 32 s32) (fun y hy => by cases hy) (by rw [hx, rtp, if_pos hd]; rfl)
        rw [hp, guess2, if_neg (by simp), hb2, hd2, he2, hf2]
        rfl
      · have hp := parts_join (s := x) (p := gapS) (x := R.c) (c := 32) [R.d] rfl (o hcn 32 s32) (fun y hy => by rw [List.mem_singleton.1 hy]; exact o (.inr hd) 32 s32) (by rw [hx, rtp, if_neg (isName_ne hd)]; simp)
        rw [hp, guess2, if_neg (by simp), hb2, he2, hf2]
        rfl
    · have hd : isName R.d.data.toList = true := by
        rcases h.d with hd | hd
        · exact absurd (h.rt hd).1 (isName_ne hb)
        · exact hd
      have hp := parts_join (s := x) (p := gapS) (x := R.b) (c := 32) [R.c, R.d] rfl (o (.inr hb) 32 s32) (fun y hy => by
        rcases List.mem_cons.1 hy with rfl | hy
        · exact o hcn 32 s32
        · rw [List.mem_singleton.1 hy]; exact o (.inr hd) 32 s32) (by rw [hx, rtp, if_neg (isName_ne hd), putS, if_neg (isName_ne hb)]; simp)
      rw [hp, guess2, if_pos (by simp), he2, hf2]
      rfl
  · have hen : isName R.e.data.toList = true := h.e.resolve_left he
    have hd : isName R.d.data.toList = true := h.d.resolve_left (fun hd => he (h.rt hd).2)
    obtain ⟨G, hG⟩ : ∃ G : List UInt8, G = (if R.f.data.toList = [] then [] else 32 :: R.f.data.toList) := ⟨_, rfl⟩
    have hm : mid R.c.data.toList R.e.data.toList R.f.data.toList = 40 :: (R.e.data.toList ++ 32 :: (R.c.data.toList ++ (G ++ [41]))) := by unfold mid; rw [if_neg he, hG]
    obtain ⟨h1, h2, h3⟩ := cutB_at (s := x) (p := openS) (x := putS R.b.data.toList [32]) (q := R.e.data.toList ++ 32 :: (R.c.data.toList ++ (G ++ 41 :: rtp R.d))) (by rw [hx, hm]; simp) (by simp) (free_put (o h.b 40 s40) (free_one (.inl ⟨40, rfl, by decide⟩) (by decide)))
    have hGf : freeOf [41] G := by
      rw [hG]
      split
      · exact freeOf_nil _
      · exact free_sep (.inl ⟨41, rfl, by decide⟩) (by decide) (o h.f 41 s41)
    obtain ⟨h4, h5, _⟩ := cutB_at (s := cutB x openS) (p := endS) (x := R.e.data.toList ++ 32 :: (R.c.data.toList ++ G)) (q := rtp R.d) (by rw [h2]; simp) (by simp)
      (freeOf_append (o h.e 41 s41) (free_sep (.inl ⟨41, rfl, by decide⟩) (by decide) (freeOf_append (o hcn 41 s41) hGf)))
    obtain ⟨_, h6, _⟩ := cutB_at (s := cutB (cutB x openS) endS) (p := gapS) (x := []) (q := R.d.data.toList) (by rw [h5, rtp, if_neg (isName_ne hd)]; rfl) (by simp) (freeOf_nil _)
    have hr : gRight x = R.d := ba_ext h6
    have hl : gLeft x = R.b := by
      unfold gLeft
      rw [h1]
      rcases h.b with hb | hb
      · rw [hb, putS, if_pos rfl]
        exact ((cutB_none (s := ⟨([] : List UInt8).toArray⟩) (p := gapS) (freeOf_nil _)).1).trans (ba_ext hb.symm)
      · have hq := (cutB_at (s := ⟨(putS R.b.data.toList [32]).toArray⟩) (p := gapS) (x := R.b.data.toList) (q := []) (by rw [putS, if_neg (isName_ne hb)]; simp) (by simp) (o (.inr hb) 32 s32)).1
        exact hq
    have hmd : (gMid x).data.toList = R.e.data.toList ++ 32 :: (R.c.data.toList ++ G) := by
      unfold gMid
      rw [h4]
    unfold guess1
    rw [if_pos h3, hr, hl]
    rcases h.f with hf | hf
    · have hf2 : R.f = nilS := ba_ext hf
      rw [hf, if_pos rfl] at hG
      have hp := parts_join (s := gMid x) (p := gapS) (x := R.e) (c := 32) [R.c] rfl (o h.e 32 s32) (fun y hy => by rw [List.mem_singleton.1 hy]; exact o hcn 32 s32) (by rw [hmd, hG]; simp)
      rw [hp, hf2]
      rfl
    · rw [if_neg (isName_ne hf)] at hG
      have hp := parts_join (s := gMid x) (p := gapS) (x := R.e) (c := 32) [R.c, R.f] rfl (o h.e 32 s32) (fun y hy => by
        rcases List.mem_cons.1 hy with rfl | hy
        · exact o hcn 32 s32
        · rw [List.mem_singleton.1 hy]; exact o (.inr hf) 32 s32) (by rw [hmd, hG]; simp)
      rw [hp]
      rfl

/-- A right header is guessed of its text as it was. -/
theorem guess_text {R : Raw} (h : R.ok = true) {s : ByteArray} (hs : s.data.toList = R.text) : guessP s = ⟨nilS, R.a, R.b, R.c, R.d, R.e, R.f, R.ls⟩ := by
  have hk := Raw.hok h
  have o : ∀ {y : List UInt8}, (y = [] ∨ isName y = true) → freeOf [59] y := fun hy => isName_free hy [59] (.inl ⟨59, rfl, .inr (.inr (.inr rfl))⟩)
  have q : ∀ {y : List UInt8}, (y = [] ∨ isName y = true) → freeOf [226, 134, 144] y := fun hy => isName_free hy _ (.inr rfl)
  have hcn : R.c.data.toList = [] ∨ isName R.c.data.toList = true := .inr hk.c
  rw [text_eq, rtl_eq] at hs
  obtain ⟨T, hT⟩ : ∃ T : List UInt8, T = putS R.b.data.toList [32] ++ (mid R.c.data.toList R.e.data.toList R.f.data.toList ++ rtp R.d) := ⟨_, rfl⟩
  have hTf : freeOf [59] T := by
    rw [hT]
    exact freeOf_append (free_put (o hk.b) (free_one (.inl ⟨59, rfl, by decide⟩) (by decide))) (freeOf_append (free_mid (.inl ⟨59, rfl, by decide, by decide, by decide⟩) (o hcn) (o hk.e) (o hk.f)) (free_rtp (.inl ⟨59, rfl, by decide⟩) (o hk.d)))
  have hTa : freeOf [226, 134, 144] T := by
    rw [hT]
    exact freeOf_append (free_put (q hk.b) (free_one (.inr rfl) (by decide))) (freeOf_append (free_mid (.inr rfl) (q hcn) (q hk.e) (q hk.f)) (free_rtp (.inr rfl) (q hk.d)))
  have hAf : freeOf [59] (putS R.a.data.toList [226, 134, 144]) := by
    unfold putS
    split
    · exact freeOf_nil _
    · exact freeOf_append (o hk.a) (freeOf_cons (fun _ => pre1 (by decide)) (freeOf_cons (fun _ => pre1 (by decide)) (freeOf_cons (fun _ => pre1 (by decide)) (freeOf_nil _))))
  have hp := parts_join (s := s) (p := semiS) (x := ⟨(putS R.a.data.toList [226, 134, 144] ++ T).toArray⟩) (c := 59) R.ls rfl (freeOf_append hAf hTf) (fun y hy => o (.inr (hk.ls y hy))) (by
    rw [hs, hT, locs]
    simp [bys, List.flatMap_map])
  obtain ⟨t, ht⟩ := parts_cons s semiS
  have e0 : cutA s semiS = ⟨(putS R.a.data.toList [226, 134, 144] ++ T).toArray⟩ := by
    rw [ht] at hp
    exact (List.cons.inj hp).1
  unfold guessP
  rw [hp, List.tail_cons, e0]
  rcases hk.a with ha | ha
  · have ha2 : R.a = nilS := ba_ext ha
    rw [ha, putS, if_pos rfl, List.nil_append]
    obtain ⟨h1, h2⟩ := cutB_none (s := ⟨T.toArray⟩) (p := getsS) hTa
    rw [gres, gx, h2, if_neg (by simp), if_neg (by simp), h1, guess1_all hk nilS _ hT, ha2]
  · obtain ⟨h1, h2, h3⟩ := cutB_at (s := ⟨(putS R.a.data.toList [226, 134, 144] ++ T).toArray⟩) (p := getsS) (x := R.a.data.toList) (q := T) (by rw [putS, if_neg (isName_ne ha)]; simp) (by simp) (q (.inr ha))
    have e1 : (⟨R.a.data.toList.toArray⟩ : ByteArray) = R.a := ba_ext (by simp)
    rw [gres, gx, if_pos h3, if_pos h3, h1, e1, guess1_all hk R.a _ (h2.trans hT)]
end Go.Proofs.Ytmddkjmcbddhiaa.P
end
section
namespace Go.Proofs.Ytmddkjmcbddhiaa.P
open Go.RowKit Go.Proofs.YtmddkjmcbddhiaaW.PrintWords Go.Proofs.Ytmddkjmcbddhiaa.Sp
set_option linter.unusedVariables false
set_option linter.unusedSimpArgs false

theorem cutAB_size {s p : ByteArray} (h : cutK s p = true) : (cutA s p).size + p.size + (cutB s p).size = s.size := by
  have h1 := (cutL_len p.data.toList s.data.toList).2 h
  have e1 := length_data p
  have e2 := length_data s
  have e3 : (cutB s p).size = (cutL p.data.toList s.data.toList).2.1.length := by simp [cutB, ByteArray.size]
  have e4 : (cutA s p).size = (cutL p.data.toList s.data.toList).1.length := by simp [cutA, ByteArray.size]
  omega
theorem splitB_lsum {p : ByteArray} (hp : 0 < p.size) : ∀ (n : Nat) (s : ByteArray), lsum (splitB p n s) ≤ s.size + 1
  | 0, s => by simp [splitB, lsum]
  | n + 1, s => by
    unfold splitB
    split
    · rename_i h
      have h1 := cutAB_size h
      have h2 := splitB_lsum hp n (cutB s p)
      simp only [lsum, List.map_cons, List.sum_cons] at h2 ⊢
      omega
    · have := cutA_le s p
      simp only [lsum, List.map_cons, List.map_nil, List.sum_cons, List.sum_nil]
      omega
theorem parts_lsum (s p : ByteArray) (hp : 0 < p.size) : lsum (parts s p) ≤ s.size + 1 := splitB_lsum hp _ s
theorem getD_size {l : List ByteArray} {n : Nat} (h : lsum l ≤ n) (j : Nat) : (l.getD j nilS).size ≤ n := by
  by_cases hj : j < l.length
  · rw [List.getD_eq_getElem?_getD, List.getElem?_eq_getElem hj, Option.getD_some]
    have := lsum_mem (List.getElem_mem hj)
    omega
  · rw [List.getD_eq_getElem?_getD, List.getElem?_eq_none (by omega), Option.getD_none]
    exact Nat.zero_le _
theorem guess1_size {n : Nat} {res x : ByteArray} {ls : List ByteArray} (h1 : res.size ≤ n) (h2 : x.size + 1 ≤ n) (h3 : lsum ls ≤ n) : RSz n (guess1 res x ls) := by
  have o : ∀ {y : ByteArray}, y.size ≤ x.size → ∀ j, ((parts y gapS).getD j nilS).size ≤ n := fun hy j => getD_size (Nat.le_trans (parts_lsum _ _ (by decide)) (by omega)) j
  have hm : (gMid x).size ≤ x.size := Nat.le_trans (cutA_le _ _) (cutB_le _ _)
  have hr : (gRight x).size ≤ x.size := Nat.le_trans (cutB_le _ _) (Nat.le_trans (cutB_le _ _) (cutB_le _ _))
  have hl : (gLeft x).size ≤ x.size := Nat.le_trans (cutA_le _ _) (cutA_le _ _)
  have h0 : nilS.size ≤ n := Nat.zero_le _
  unfold guess1
  split
  · exact ⟨h1, by show (gLeft x).size ≤ n; omega, o hm 1, by show (gRight x).size ≤ n; omega, o hm 0, o hm 2, h3⟩
  · unfold guess2
    split
    · exact ⟨h1, o (Nat.le_refl _) 0, o (Nat.le_refl _) 1, o (Nat.le_refl _) 2, h0, h0, h3⟩
    · exact ⟨h1, h0, o (Nat.le_refl _) 0, o (Nat.le_refl _) 1, h0, h0, h3⟩
theorem guess_sized (s : ByteArray) (hs : s.size ≤ 549755813888) : HSized (guessP s).a (guessP s).b (guessP s).c (guessP s).d (guessP s).e (guessP s).f (guessP s).ls := by
  have h1 := parts_lsum s semiS (by decide)
  obtain ⟨t, ht⟩ := parts_cons s semiS
  have h2 : lsum (parts s semiS).tail ≤ s.size + 1 := by
    rw [ht] at h1 ⊢
    simp only [lsum, List.map_cons, List.sum_cons, List.tail_cons] at h1 ⊢
    omega
  have h3 := cutA_le s semiS
  have h4 : (gx (cutA s semiS)).size ≤ s.size := by
    unfold gx
    split
    · exact Nat.le_trans (cutB_le _ _) h3
    · exact Nat.le_trans (cutA_le _ _) h3
  have h5 : (gres (cutA s semiS)).size ≤ s.size := by
    unfold gres
    split
    · exact Nat.le_trans (cutA_le _ _) h3
    · exact Nat.zero_le _
  have h6 : RSz (s.size + 1) (guessP s) := guess1_size (by omega) (by omega) (by omega)
  exact h6.sized (by omega)
end Go.Proofs.Ytmddkjmcbddhiaa.P
end
section
namespace Go.Proofs.Ytmddkjmcbddhiaa.P
open Go.RowKit Go.Proofs.YtmddkjmcbddhiaaW.PrintWords Go.Proofs.Ytmddkjmcbddhiaa.Sp
set_option linter.unusedVariables false
set_option linter.unusedSimpArgs false

def goodAt (i : Nat) (x : List UInt8) : Bool := isName x || (x == [] && !(decide (i = 2)) && !(decide (5 < i)))
def goodL : Nat → List (List UInt8) → Bool
  | _, [] => true
  | i, x :: t => goodAt i x && goodL (i + 1) t
def hdrTail (lf rt f g : List UInt8) (ys : List (List UInt8)) : Bool := !(rt == [] && !(lf ++ f == [])) && !(f == [] && !(g == [])) && unl ys
theorem ref_HRight_end (a b c d e f : ByteArray) (l y : List ByteArray) (hy : y.length ≤ 4611686018427387904) (i : Nat) (hi : y.length ≤ i) :
    Ev (fun k => deckleref15_Right.l0 k y (i : Int) a b c d e f l) (hdrTail b.data.toList d.data.toList e.data.toList f.data.toList (bys y)) := by
  obtain ⟨K, hK⟩ := ref_Unlike y hy
  refine ⟨K + 1, fun k hk => ?_⟩
  obtain ⟨m, rfl⟩ : ∃ m, k = m + 1 := ⟨k - 1, by omega⟩
  have hu : deckleref08_Unlike.f m y = some (unl (bys y)) := hK m (by omega)
  show deckleref15_Right.l0 (m + 1) _ _ _ _ _ _ _ _ _ = _
  rw [deckleref15_Right.l0, if_neg (by omega), hu]
  simp only [ByteArray.toList_eq, Option.bind_some]
  unfold hdrTail
  by_cases hd : d.data.toList = []
  · by_cases hb : b.data.toList = []
    · by_cases he : e.data.toList = []
      · by_cases hf : f.data.toList = []
        · simp [hd, hb, he, hf]
        · have : (f.data.toList == []) = false := by simpa using hf
          simp [hd, hb, he, hf, this]
      · have he2 : (e.data.toList == []) = false := by simpa using he
        simp [hd, hb, he, he2]
    · have hb2 : (b.data.toList == []) = false := by simpa using hb
      simp [hd, hb, hb2]
  · have hd2 : (d.data.toList == []) = false := by simpa using hd
    by_cases he : e.data.toList = []
    · by_cases hf : f.data.toList = []
      · simp [hd, hd2, he, hf]
      · have : (f.data.toList == []) = false := by simpa using hf
        simp [hd, hd2, he, hf, this]
    · have he2 : (e.data.toList == []) = false := by simpa using he
      simp [hd, hd2, he, he2]
theorem ref_HRight_l0 (a b c d e f : ByteArray) (l y : List ByteArray) (hy : y.length ≤ 4611686018427387904) (hs : ∀ x ∈ y, x.size ≤ 4611686018427387904) (n : Nat) : ∀ i : Nat, y.length ≤ i + n →
    Ev (fun k => deckleref15_Right.l0 k y (i : Int) a b c d e f l) (goodL i (bys (y.drop i)) && hdrTail b.data.toList d.data.toList e.data.toList f.data.toList (bys y)) := by
  have stop : ∀ i : Nat, y.length ≤ i → Ev (fun k => deckleref15_Right.l0 k y (i : Int) a b c d e f l) (goodL i (bys (y.drop i)) && hdrTail b.data.toList d.data.toList e.data.toList f.data.toList (bys y)) := by
    intro i hi
    rw [List.drop_eq_nil_of_le hi]
    exact ref_HRight_end a b c d e f l y hy i hi
  induction n with
  | zero => intro i hi; exact stop i (by omega)
  | succ n ih =>
    intro i hi
    by_cases hlt : i < y.length
    · have hd := drop_cons y i hlt
      have hg : goodL i (bys (y.drop i)) = (goodAt i y[i].data.toList && goodL (i + 1) (bys (y.drop (i + 1)))) := by rw [hd]; rfl
      rw [hg]
      obtain ⟨K1, h1⟩ := ref_Right y[i] (hs _ (List.getElem_mem hlt))
      obtain ⟨K2, h2⟩ := ih (i + 1) (by omega)
      refine ⟨K1 + K2 + 1, fun k hk => ?_⟩
      obtain ⟨m, rfl⟩ : ∃ m, k = m + 1 := ⟨k - 1, by omega⟩
      have e1 : deckleref08_Right.f m y[i] = some (isName y[i].data.toList) := h1 m (by omega)
      have e2 : deckleref15_Right.l0 m y ((i + 1 : Nat) : Int) a b c d e f l = some _ := h2 m (by omega)
      show deckleref15_Right.l0 (m + 1) _ _ _ _ _ _ _ _ _ = _
      rw [deckleref15_Right.l0, if_pos (by omega), if_pos (by omega), rdOf_at y i hlt, e1, wrap_nat rfl (by omega), e2]
      simp only [Option.bind_some, ByteArray.toList_eq]
      unfold goodAt
      cases hn : isName y[i].data.toList with
      | true => simp
      | false =>
        by_cases hz : y[i].data.toList = []
        · by_cases h3 : i = 2
          · subst h3; simp [hz]
          · by_cases h4 : 5 < i
            · have h5 : ¬ (i : Int) = 2 := by omega
              have h6 : (i : Int) > 5 := by omega
              simp [hz, h3, h4, h5, h6]
            · have h5 : ¬ (i : Int) = 2 := by omega
              have h6 : ¬ (i : Int) > 5 := by omega
              simp only [hz, Bool.false_eq_true, if_false, if_true, if_neg h5, if_neg h6, decide_eq_false h3, decide_eq_false h4]
              simp
        · have h7 : (y[i].data.toList == []) = false := by simpa using hz
          simp [hz, h7]
    · exact stop i (by omega)
theorem goodL_locs : ∀ (ls : List (List UInt8)) (i : Nat), 5 < i → goodL i ls = (ls.all mayB && ls.all fun x => !(x == []))
  | [], _, _ => rfl
  | x :: t, i, hi => by
    have h1 : goodAt i x = (mayB x && !(x == [])) := by
      unfold goodAt mayB
      rw [decide_eq_true hi]
      cases x with
      | nil =>
        have h0 : isName [] = false := by
          cases h : isName [] with
          | false => rfl
          | true => exact absurd rfl (isName_ne h)
        rw [h0]
        simp
      | cons p q => cases isName (p :: q) <;> simp
    rw [goodL, goodL_locs t (i + 1) (by omega), h1]
    simp only [List.all_cons]
    cases mayB x <;> cases (x == ([] : List UInt8)) <;> cases t.all mayB <;> simp
theorem goodL_all (r lf nm rt f g : List UInt8) (ls : List (List UInt8)) : goodL 0 ([r, lf, nm, rt, f, g] ++ ls) = (!(nm == []) && (([r, lf, nm, rt, f, g] ++ ls).all mayB) && ls.all (fun x => !(x == []))) := by
  have h1 : ∀ (i : Nat) (x : List UInt8), ¬ i = 2 → ¬ 5 < i → goodAt i x = mayB x := by
    intro i x h2 h5
    unfold goodAt mayB
    rw [decide_eq_false h2, decide_eq_false h5]
    cases x with
    | nil => simp
    | cons p q => simp
  have h2 : goodAt 2 nm = (mayB nm && !(nm == [])) := by
    unfold goodAt mayB
    cases nm with
    | nil => rfl
    | cons p q => simp
  simp only [List.cons_append, List.nil_append, goodL, List.all_cons]
  rw [goodL_locs ls 6 (by omega), h1 0 r (by omega) (by omega), h1 1 lf (by omega) (by omega), h2, h1 3 rt (by omega) (by omega), h1 4 f (by omega) (by omega), h1 5 g (by omega) (by omega)]
  cases mayB r <;> cases mayB lf <;> cases mayB nm <;> cases mayB rt <;> cases mayB f <;> cases mayB g <;> cases (nm == ([] : List UInt8)) <;> simp
theorem ref_HRight (a b c d e f : ByteArray) (l : List ByteArray) (h : HSized a b c d e f l) :
    Ev (fun k => deckleref15_Right.f k a b c d e f l) (hdrOk a.data.toList b.data.toList c.data.toList d.data.toList e.data.toList f.data.toList (bys l)) := by
  have hlen := h.len
  have h6 : ([a, b, c, d, e, f] : List ByteArray).length + l.length < 8796093022208 := by simp; omega
  have hyl : ([a, b, c, d, e, f] ++ l).length = l.length + 6 := by simp
  have h1 := ref_HRight_l0 a b c d e f l ([a, b, c, d, e, f] ++ l) (by omega) (fun x hx => by have := h.mem hx; omega) _ 0 (Nat.le_add_left _ _)
  have hb : bys ([a, b, c, d, e, f] ++ l) = [a.data.toList, b.data.toList, c.data.toList, d.data.toList, e.data.toList, f.data.toList] ++ bys l := rfl
  rw [List.drop_zero, hb, goodL_all] at h1
  have h3 : (!(c.data.toList == []) && (([a.data.toList, b.data.toList, c.data.toList, d.data.toList, e.data.toList, f.data.toList] ++ bys l).all mayB) && (bys l).all (fun x => !(x == [])) && hdrTail b.data.toList d.data.toList e.data.toList f.data.toList ([a.data.toList, b.data.toList, c.data.toList, d.data.toList, e.data.toList, f.data.toList] ++ bys l)) = hdrOk a.data.toList b.data.toList c.data.toList d.data.toList e.data.toList f.data.toList (bys l) := by
    unfold hdrOk hdrTail
    simp only [Bool.and_assoc]
  rw [h3] at h1
  refine Ev.congr (fun k => ?_) h1
  unfold deckleref15_Right.f deckleref15_all.f
  simp only [Option.bind_some, if_pos h6]
  rfl
theorem sz32 : (⟨#[32]⟩ : ByteArray).size = 1 := rfl
theorem sz40 : (⟨#[40]⟩ : ByteArray).size = 1 := rfl
theorem sz41 : (⟨#[41]⟩ : ByteArray).size = 1 := rfl
theorem sz59 : (⟨#[59]⟩ : ByteArray).size = 1 := rfl
theorem sz226 : (⟨#[226, 134, 144]⟩ : ByteArray).size = 3 := rfl
theorem ref_HText_l0 (a b c d e f : ByteArray) (l : List ByteArray) (hl : l.length ≤ 4611686018427387904) (n : Nat) : ∀ (i : Nat) (x : ByteArray), l.length ≤ i + n → x.size + lsum (l.drop i) ≤ 4611686018427387904 →
    ∃ r : ByteArray, Ev (fun k => deckleref15_Text.l0 k x (i : Int) a b c d e f l) r ∧ r.data.toList = x.data.toList ++ (bys (l.drop i)).flatMap (fun s => 59 :: s) := by
  have stop : ∀ (i : Nat) (x : ByteArray), l.length ≤ i → ∃ r : ByteArray, Ev (fun k => deckleref15_Text.l0 k x (i : Int) a b c d e f l) r ∧ r.data.toList = x.data.toList ++ (bys (l.drop i)).flatMap (fun s => 59 :: s) := by
    intro i x hi
    refine ⟨x, Ev.step (f := fun _ => some x) (fun k => ?_) (Ev.now _), ?_⟩
    · rw [deckleref15_Text.l0, if_neg (by omega)]
    · rw [List.drop_eq_nil_of_le hi]; simp [bys]
  induction n with
  | zero => intro i x hi _; exact stop i x (by omega)
  | succ n ih =>
    intro i x hi hx
    by_cases hlt : i < l.length
    · have hd := drop_cons l i hlt
      have hs : lsum (l.drop i) = (l[i].size + 1) + lsum (l.drop (i + 1)) := by rw [hd]; simp only [lsum, List.map_cons, List.sum_cons]
      obtain ⟨r, h1, h2⟩ := ih (i + 1) ((x ++ ⟨#[59]⟩) ++ l[i]) (by omega) (by simp only [ByteArray.size_append, sz59]; omega)
      refine ⟨r, Ev.step (fun k => ?_) h1, ?_⟩
      · rw [deckleref15_Text.l0, if_pos (by omega), if_pos (by omega), if_pos (by omega), rdOf_at l i hlt, if_pos (by simp only [ByteArray.size_append, sz59]; omega), wrap_nat rfl (by omega)]
      · rw [h2, hd, append_data, append_data]
        simp only [List.append_assoc]
        rfl
    · exact stop i x (by omega)
theorem ref_HText (a b c d e f : ByteArray) (l : List ByteArray) (h : HSized a b c d e f l) :
    ∃ r : ByteArray, Ev (fun k => deckleref15_Text.f k a b c d e f l) r ∧ r.data.toList = (if hdrOk a.data.toList b.data.toList c.data.toList d.data.toList e.data.toList f.data.toList (bys l) = true then hdrText a.data.toList b.data.toList c.data.toList d.data.toList e.data.toList f.data.toList (bys l) else []) := by
  have hsum := h.sum
  have hlen := h.len
  have h3 : ∀ x : ByteArray, x.size + lsum l ≤ 4611686018427387904 → ∃ r : ByteArray, Ev (fun k => deckleref15_Text.j3 k x a b c d e f l) r ∧ r.data.toList = x.data.toList ++ (bys l).flatMap (fun s => 59 :: s) := by
    intro x hx
    obtain ⟨r, q1, q2⟩ := ref_HText_l0 a b c d e f l (by omega) l.length 0 x (by omega) (by rw [List.drop_zero]; exact hx)
    rw [List.drop_zero] at q2
    exact ⟨r, Ev.step (fun k => by rw [deckleref15_Text.j3]; rfl) q1, q2⟩
  have h2 : ∀ x : ByteArray, x.size + d.size + 1 + lsum l ≤ 4611686018427387904 → ∃ r : ByteArray, Ev (fun k => deckleref15_Text.j2 k x a b c d e f l) r ∧ r.data.toList = x.data.toList ++ ((if d.data.toList = [] then [] else 32 :: d.data.toList) ++ (bys l).flatMap (fun s => 59 :: s)) := by
    intro x hx
    by_cases hd : d.data.toList = []
    · obtain ⟨r, q1, q2⟩ := h3 x (by omega)
      exact ⟨r, Ev.step (fun k => by rw [deckleref15_Text.j2, ByteArray.toList_eq, if_pos hd]) q1, by rw [q2, if_pos hd, List.nil_append]⟩
    · obtain ⟨r, q1, q2⟩ := h3 ((x ++ ⟨#[32]⟩) ++ d) (by simp only [ByteArray.size_append, sz32]; omega)
      refine ⟨r, Ev.step (fun k => by rw [deckleref15_Text.j2, ByteArray.toList_eq, if_neg hd, if_pos (by omega), if_pos (by simp only [ByteArray.size_append, sz32]; omega)]) q1, ?_⟩
      rw [q2, if_neg hd]
      simp
  have h1 : ∀ x : ByteArray, x.size + c.size + e.size + f.size + d.size + 5 + lsum l ≤ 4611686018427387904 → ∃ r : ByteArray, Ev (fun k => deckleref15_Text.j1 k x a b c d e f l) r ∧ r.data.toList = x.data.toList ++ ((if e.data.toList = [] then c.data.toList else 40 :: e.data.toList ++ 32 :: c.data.toList ++ (if f.data.toList = [] then [] else 32 :: f.data.toList) ++ [41]) ++ ((if d.data.toList = [] then [] else 32 :: d.data.toList) ++ (bys l).flatMap (fun s => 59 :: s))) := by
    intro x hx
    by_cases he : e.data.toList = []
    · obtain ⟨r, q1, q2⟩ := h2 (x ++ c) (by simp only [ByteArray.size_append]; omega)
      refine ⟨r, Ev.step (fun k => by rw [deckleref15_Text.j1, ByteArray.toList_eq, if_pos he, if_pos (by omega)]) q1, ?_⟩
      rw [q2, if_pos he]
      simp
    · by_cases hf : f.data.toList = []
      · obtain ⟨r, q1, q2⟩ := h2 (((((x ++ ⟨#[40]⟩) ++ e) ++ ⟨#[32]⟩) ++ c) ++ ⟨#[41]⟩) (by simp only [ByteArray.size_append, sz32, sz40, sz41]; omega)
        refine ⟨r, Ev.step (fun k => ?_) q1, ?_⟩
        · rw [deckleref15_Text.j1, ByteArray.toList_eq, ByteArray.toList_eq, if_neg he, if_pos hf]
          repeat (rw [if_pos (by (try simp only [ByteArray.size_append, sz32, sz40, sz41]); omega)])
        · rw [q2, if_neg he, if_pos hf]
          simp
      · obtain ⟨r, q1, q2⟩ := h2 (((((((x ++ ⟨#[40]⟩) ++ e) ++ ⟨#[32]⟩) ++ c) ++ ⟨#[32]⟩) ++ f) ++ ⟨#[41]⟩) (by simp only [ByteArray.size_append, sz32, sz40, sz41]; omega)
        refine ⟨r, Ev.step (fun k => ?_) q1, ?_⟩
        · rw [deckleref15_Text.j1, ByteArray.toList_eq, ByteArray.toList_eq, if_neg he, if_neg hf]
          repeat (rw [if_pos (by (try simp only [ByteArray.size_append, sz32, sz40, sz41]); omega)])
        · rw [q2, if_neg he, if_neg hf]
          simp
  have h0 : ∀ x : ByteArray, x.size + b.size + c.size + e.size + f.size + d.size + 6 + lsum l ≤ 4611686018427387904 → ∃ r : ByteArray, Ev (fun k => deckleref15_Text.j0 k x a b c d e f l) r ∧ r.data.toList = x.data.toList ++ (putS b.data.toList [32] ++ ((if e.data.toList = [] then c.data.toList else 40 :: e.data.toList ++ 32 :: c.data.toList ++ (if f.data.toList = [] then [] else 32 :: f.data.toList) ++ [41]) ++ ((if d.data.toList = [] then [] else 32 :: d.data.toList) ++ (bys l).flatMap (fun s => 59 :: s)))) := by
    intro x hx
    unfold putS
    by_cases hb : b.data.toList = []
    · obtain ⟨r, q1, q2⟩ := h1 x (by omega)
      exact ⟨r, Ev.step (fun k => by rw [deckleref15_Text.j0, ByteArray.toList_eq, if_pos hb]) q1, by rw [q2, if_pos hb, List.nil_append]⟩
    · obtain ⟨r, q1, q2⟩ := h1 ((x ++ b) ++ ⟨#[32]⟩) (by simp only [ByteArray.size_append, sz32]; omega)
      refine ⟨r, Ev.step (fun k => by rw [deckleref15_Text.j0, ByteArray.toList_eq, if_neg hb, if_pos (by omega), if_pos (by simp only [ByteArray.size_append, sz32]; omega)]) q1, ?_⟩
      rw [q2, if_neg hb]
      simp
  obtain ⟨K, hK⟩ := ref_HRight a b c d e f l h
  cases hok : hdrOk a.data.toList b.data.toList c.data.toList d.data.toList e.data.toList f.data.toList (bys l) with
  | false =>
    rw [hok] at hK
    refine ⟨⟨#[]⟩, ⟨K, fun k hk => ?_⟩, by simp⟩
    have e1 : deckleref15_Right.f k a b c d e f l = some false := hK k hk
    show deckleref15_Text.f k _ _ _ _ _ _ _ = _
    unfold deckleref15_Text.f
    rw [e1]
    rfl
  | true =>
    rw [hok] at hK
    unfold hdrText putS
    rw [if_pos rfl]
    by_cases ha : a.data.toList = []
    · obtain ⟨r, ⟨K2, q1⟩, q2⟩ := h0 ⟨#[]⟩ (by have : (⟨#[]⟩ : ByteArray).size = 0 := rfl; omega)
      refine ⟨r, ⟨K + K2, fun k hk => ?_⟩, ?_⟩
      · have e1 : deckleref15_Right.f k a b c d e f l = some true := hK k (by omega)
        have e2 : deckleref15_Text.j0 k ⟨#[]⟩ a b c d e f l = some r := q1 k (by omega)
        show deckleref15_Text.f k _ _ _ _ _ _ _ = _
        unfold deckleref15_Text.f
        rw [e1, ByteArray.toList_eq]
        simp only [Option.bind_some, if_true, if_pos ha, e2]
      · rw [q2, if_pos ha]
        unfold putS
        simp
    · obtain ⟨r, ⟨K2, q1⟩, q2⟩ := h0 (a ++ ⟨#[226, 134, 144]⟩) (by simp only [ByteArray.size_append, sz226]; omega)
      refine ⟨r, ⟨K + K2, fun k hk => ?_⟩, ?_⟩
      · have e1 : deckleref15_Right.f k a b c d e f l = some true := hK k (by omega)
        have e2 : deckleref15_Text.j0 k (a ++ ⟨#[226, 134, 144]⟩) a b c d e f l = some r := q1 k (by omega)
        show deckleref15_Text.f k _ _ _ _ _ _ _ = _
        unfold deckleref15_Text.f
        rw [e1, ByteArray.toList_eq]
        simp only [Option.bind_some, if_true, if_neg ha]
        rw [if_pos (by omega)]
        exact e2
      · rw [q2, if_neg ha]
        unfold putS
        simp
end Go.Proofs.Ytmddkjmcbddhiaa.P
end
