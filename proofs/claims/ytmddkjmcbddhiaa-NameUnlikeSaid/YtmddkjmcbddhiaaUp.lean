/-
  Plain: unlike texts as a relation of pairs: turned about, with one more, cut.
-/
import Derived.Test.YtmddkjmcbddhiaaUn
namespace Go.Proofs.Ytmddkjmcbddhiaa.Sp
set_option linter.unusedVariables false
set_option linter.unusedSimpArgs false

/-- Two texts that are one are empty. -/
def Unl (x y : List UInt8) : Prop := x = y → x = []
theorem Unl.symm {x y : List UInt8} (h : Unl x y) : Unl y x := fun e => e ▸ h e.symm
theorem unlFrom_pairs : ∀ (t seen : List (List UInt8)), unlFrom seen t = true ↔ t.Pairwise Unl ∧ ∀ x, x ∈ t → ∀ y, y ∈ seen → Unl y x
  | [], seen => by simp [unlFrom]
  | x :: t, seen => by
    unfold unlFrom
    by_cases hx : x ≠ [] ∧ x ∈ seen
    · rw [if_pos hx]
      constructor
      · intro h; cases h
      · rintro ⟨_, h⟩
        exact absurd (h x List.mem_cons_self x hx.2 rfl) hx.1
    · rw [if_neg hx, unlFrom_pairs t (seen ++ [x]), List.pairwise_cons]
      constructor
      · rintro ⟨h1, h2⟩
        refine ⟨⟨fun y hy => h2 y hy x (by simp), h1⟩, fun y hy z hz => ?_⟩
        rcases List.mem_cons.1 hy with rfl | hy
        · intro e
          subst e
          cases hn : decide (z = []) with
          | true => exact of_decide_eq_true hn
          | false => exact absurd ⟨of_decide_eq_false hn, hz⟩ hx
        · exact h2 y hy z (by simp [hz])
      · rintro ⟨⟨h0, h1⟩, h2⟩
        refine ⟨h1, fun y hy z hz => ?_⟩
        rcases List.mem_append.1 hz with hz | hz
        · exact h2 y (List.mem_cons_of_mem _ hy) z hz
        · rw [List.mem_singleton.1 hz]
          exact h0 y hy
theorem unl_pairs (xs : List (List UInt8)) : unl xs = true ↔ xs.Pairwise Unl := by
  unfold unl
  rw [unlFrom_pairs]
  simp
theorem unl_reverse (xs : List (List UInt8)) : unl xs.reverse = unl xs := by
  rw [Bool.eq_iff_iff, unl_pairs, unl_pairs, List.pairwise_reverse]
  exact ⟨fun h => h.imp fun h => h.symm, fun h => h.imp fun h => h.symm⟩
theorem unl_snoc (xs : List (List UInt8)) (x : List UInt8) : unl (xs ++ [x]) = true ↔ unl xs = true ∧ ∀ y, y ∈ xs → Unl y x := by
  rw [unl_pairs, unl_pairs, List.pairwise_append]
  simp
theorem unl_snoc_mem {xs : List (List UInt8)} {x : List UInt8} (h : x ∈ xs) : unl (xs ++ [x]) = (unl xs && (x == [])) := by
  rw [Bool.eq_iff_iff, unl_snoc]
  simp only [Bool.and_eq_true, beq_iff_eq]
  constructor
  · rintro ⟨h1, h2⟩
    exact ⟨h1, h2 x h rfl⟩
  · rintro ⟨h1, rfl⟩
    exact ⟨h1, fun y hy e => e⟩
theorem unl_snoc_nil (xs : List (List UInt8)) : unl (xs ++ [[]]) = unl xs := by
  rw [Bool.eq_iff_iff, unl_snoc]
  exact ⟨fun h => h.1, fun h => ⟨h, fun y hy e => e⟩⟩
theorem unl_take {xs : List (List UInt8)} (h : unl xs = true) (n : Nat) : unl (xs.take n) = true := by
  rw [unl_pairs] at h ⊢
  exact h.sublist (List.take_sublist n xs)
theorem bys_append (a b : List ByteArray) : bys (a ++ b) = bys a ++ bys b := by simp [bys]
theorem bys_reverse (a : List ByteArray) : bys a.reverse = (bys a).reverse := by simp [bys]
theorem bys_take (a : List ByteArray) (n : Nat) : bys (a.take n) = (bys a).take n := by simp [bys]
theorem bys_mem {a : List ByteArray} {x : ByteArray} (h : x ∈ a) : x.data.toList ∈ bys a := List.mem_map.2 ⟨x, h, rfl⟩
end Go.Proofs.Ytmddkjmcbddhiaa.Sp
