/-
  Plain: the program's names, what it takes and which texts it calls unlike are the reference's, at any texts. Conditions: the reach of the form on sizes.
-/
import Derived.Test.YtmddkjmcbddhiaaP5
import Derived.Test.YtmddkjmcbddhiaaRw8
namespace Go.Proofs.Ytmddkjmcbddhiaa.Pure
open Go.RowKit Go.Proofs.Ytmddkjmcbddhiaa.P Go.Proofs.YtmddkjmcbddhiaaW.PrintWords Go.Proofs.YtmddkjmcbddhiaaW.PrintLast Go.Proofs.Ytmddkjmcbddhiaa.Sp
set_option linter.unusedVariables false
set_option linter.unusedSimpArgs false

theorem unlike_f {l : List ByteArray} (hl : l.length < 140737488355328) (hb : ∀ x ∈ l, x.size ≤ maxLen) : name_Unlike.f l = some (unl (bys l)) := by
  unfold name_Unlike.f
  have ha : l.all (fun s => decide (s.size ≤ maxLen)) = true := by
    rw [List.all_eq_true]
    intro x hx
    exact decide_eq_true (hb x hx)
  rw [if_pos ⟨hl, ha⟩]

theorem tells_j2 (s : ByteArray) (l : List ByteArray) (hs : s.size ≤ 140737488351232) (hl : l.length ≤ 8796093022208) (hb : ∀ x ∈ l, x.size ≤ maxLen) (b : Bool) :
    Ev (fun k => decklelaw08_NameTells.j2 k s l true b) true := by
  cases b with
  | true =>
    refine Ev.step (f := fun _ => some true) (fun k => ?_) (Ev.now _)
    rw [decklelaw08_NameTells.j2, if_pos rfl]
  | false =>
    obtain ⟨K1, h1⟩ := ref_Right s (by omega)
    obtain ⟨K2, h2⟩ := ref_System s
    obtain ⟨K3, h3⟩ := ref_Unlike l (by omega)
    refine Ev.step (f := fun k => decklelaw08_NameTells.j2 (k + 1) s l true false) (fun k => rfl) ⟨K1 + K2 + K3, fun k hk => ?_⟩
    have e1 := h1 k (by omega)
    have e2 := h2 k (by omega)
    have e3 := h3 k (by omega)
    simp only at e1 e2 e3
    show decklelaw08_NameTells.j2 (k + 1) s l true false = some true
    rw [decklelaw08_NameTells.j2, if_neg (by simp), name_Take_f]
    unfold deckleref08_Take.f
    rw [if_pos (by omega)]
    simp only [Option.bind_some, if_true]
    rw [name_Right_f s (by omega), e1, name_System_f, e2, unlike_f (by omega) hb, e3]
    simp

theorem tells_j1_end (s : ByteArray) (l : List ByteArray) (hs : s.size ≤ 140737488351232) (hl : l.length ≤ 8796093022208) (hb : ∀ x ∈ l, x.size ≤ maxLen) (n i : Int) :
    Ev (fun k => decklelaw08_NameTells.j1 k s l true n i false) true := by
  by_cases h1 : (s.size : Int) > 300
  · refine Ev.step (fun k => ?_) (tells_j2 s l hs hl hb true)
    rw [decklelaw08_NameTells.j1, if_neg (by simp), if_pos h1]
  · by_cases h2 : (l.length : Int) > 30
    · refine Ev.step (fun k => ?_) (tells_j2 s l hs hl hb true)
      rw [decklelaw08_NameTells.j1, if_neg (by simp), if_neg h1, if_pos h2]
    · refine Ev.step (fun k => ?_) (tells_j2 s l hs hl hb (decide (n > 3000)))
      rw [decklelaw08_NameTells.j1, if_neg (by simp), if_neg h1, if_neg h2]

theorem tells_l0 (s : ByteArray) (l : List ByteArray) (hs : s.size ≤ 140737488351232) (hl : l.length ≤ 8796093022208) (hb : ∀ x ∈ l, x.size ≤ maxLen) (d : Nat) : ∀ (i : Nat) (n : Int), l.length ≤ i + d →
    Ev (fun k => decklelaw08_NameTells.l0 k s l true n (i : Int)) true := by
  induction d with
  | zero =>
    intro i n hi
    refine Ev.step (fun k => ?_) (tells_j1_end s l hs hl hb n i)
    rw [decklelaw08_NameTells.l0, if_neg (by omega)]
  | succ d ih =>
    intro i n hi
    by_cases hlt : i < l.length
    · by_cases h30 : (i : Int) < 30
      · have hj : Ev (fun k => decklelaw08_NameTells.j1 k s l true n (i : Int) true) true := by
          by_cases h100 : (l[i].size : Int) > 100
          · refine Ev.step (f := fun _ => some true) (fun k => ?_) (Ev.now _)
            rw [decklelaw08_NameTells.j1, if_pos rfl, if_pos (by omega), if_pos (by omega), rdOf_at l i hlt, if_pos h100]
          · refine Ev.step (fun k => ?_) (ih (i + 1) (wrap64 (n + (l[i].size : Int))) (by omega))
            rw [decklelaw08_NameTells.j1, if_pos rfl, if_pos (by omega), if_pos (by omega), rdOf_at l i hlt, if_neg h100, wrap_nat rfl (by omega)]
        refine Ev.step (fun k => ?_) hj
        rw [decklelaw08_NameTells.l0, if_pos (by omega), decide_eq_true h30]
      · refine Ev.step (fun k => ?_) (tells_j1_end s l hs hl hb n i)
        rw [decklelaw08_NameTells.l0, if_pos (by omega), decide_eq_false h30]
    · refine Ev.step (fun k => ?_) (tells_j1_end s l hs hl hb n i)
      rw [decklelaw08_NameTells.l0, if_neg (by omega)]

theorem NameTells (s : ByteArray) (l : List ByteArray) (hs : s.size ≤ 140737488351232) (hl : l.length ≤ 8796093022208) (hb : ∀ x ∈ l, x.size ≤ maxLen) :
    ∃ k, decklelaw08_NameTells.f k s l = some true := by
  unfold decklelaw08_NameTells.f
  rw [small08]
  exact (tells_l0 s l hs hl hb l.length 0 0 (by omega)).rounds
end Go.Proofs.Ytmddkjmcbddhiaa.Pure
