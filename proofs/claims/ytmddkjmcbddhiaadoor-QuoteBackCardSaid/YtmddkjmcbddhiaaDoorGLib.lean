/-
  What the package's variables hold (utf8's two tables, bytealg.MaxLen), and over it the contracts of utf8.ValidString, strings.Join and strings.Split. Conditions: sizes that the model takes.
-/
import Derived.Test.YtmddkjmcbddhiaaDoorShelf
import Derived.Test.YtmddkjmcbddhiaaDoorP0
import Derived.Shelf.Unicode.DecodeSlow
namespace Go.Proofs.YtmddkjmcbddhiaaDoor.P
open Go.RowKit Go.Proofs.YtmddkjmcbddhiaaDoorW.PrintWords
set_option linter.unusedVariables false
set_option linter.unusedSimpArgs false

/-- What the variables hold. -/
structure Env (w : World) : Prop where
  tabs : Lib.Utf8Tabs 0 1 w
  ml : ∃ m : Int, w.cell? ⟨2, 0, none⟩ = some (.int .i64 m)
theorem Env.below {w W : World} (h : Env w) (hb : Below w.heap.size w W) : Env W := by
  obtain ⟨h1, m, hm⟩ := h
  exact ⟨Utf8Tabs_below h1 hb, m, (hb.cell (World.block_lt_of_cell? w _ hm)).trans hm⟩

def utf8_ValidString.f (a0 : ByteArray) : Option Bool := if a0.size ≤ 9223372036854775807 then some (Lib.validD a0.data.toList) else none
theorem utf8_ValidString.calls (a0 : ByteArray) (r : Bool) (w : World) (hE_ : Env w) (h : utf8_ValidString.f a0 = some r) :
    Calls Tryd.prog 47 #[.string a0] w fun e w' => e = .returned (.bool r) ∧ Below w.heap.size w w' := by
  unfold utf8_ValidString.f at h
  split at h
  · rename_i hs
    obtain rfl := Option.some.inj h
    exact Any.utf8_ValidString Tryd.laysValid a0 w hs hE_.tabs
  · cases h

theorem strs_cellL {w : World} {A : Option Addr} {n : Nat} {xs : List ByteArray} (h : Kd.C Kd.string w A n xs) {k : Nat} (hk : k < n) :
    ∃ ad s, A = some ad ∧ xs[k]? = some s ∧ w.cell? (ad.add k) = some (.string s) := by
  obtain ⟨hl, _, hr⟩ := h
  obtain ⟨ad, e, hc⟩ := hr (by omega)
  have hx : xs[k]? = some xs[k] := List.getElem?_eq_getElem (by omega)
  obtain ⟨c, hs, hK, hcell⟩ := hc k _ hx
  refine ⟨ad, _, e, hx, ?_⟩
  have hK' : c = [.string xs[k]] := hK
  have h1 := hcell 0 (.string xs[k]) (by rw [hK']; rfl)
  have e2 : k * Kd.string.sz + 0 = k := by show k * 1 + 0 = k; omega
  rw [e2] at h1
  exact h1
def strings_Join.f (l0 : List ByteArray) (a1 : ByteArray) : Option ByteArray :=
  if (Lib.join (l0.map (·.data.toList)) a1.data.toList).length ≤ 140737488355328 ∧ l0.length ≤ 140737488355328 then some ⟨(Lib.join (l0.map (·.data.toList)) a1.data.toList).toArray⟩ else none
theorem strings_Join.calls (A0 : Option Addr) (c0 : Nat) (l0 : List ByteArray) (a1 : ByteArray) (r : ByteArray) (w : World) (hr0 : Kd.C Kd.string w A0 l0.length l0) (hc0 : l0.length ≤ c0) (h : strings_Join.f l0 a1 = some r) :
    Calls Tryd.prog 62 #[.slice A0 l0.length c0, .string a1] w fun e w' => e = .returned (.string r) ∧ Below w.heap.size w w' := by
  unfold strings_Join.f at h
  split at h
  · rename_i hh
    obtain rfl := Option.some.inj h
    by_cases hz : l0 = []
    · subst hz
      refine (Tryd.strings_Join_none A0 c0 a1 w).mono ?_
      rintro e w' ⟨rfl, rfl⟩
      exact ⟨rfl, Below.refl _ _⟩
    · have hp : 0 < l0.length := List.length_pos_iff.2 hz
      obtain ⟨ad, s, rfl, hx, hc⟩ := strs_cellL hr0 hp
      have hsp : ad.spot = none := by
        unfold Addr.add at hc
        rw [if_pos rfl] at hc
        unfold World.cell? at hc
        split at hc
        · split at hc
          · cases hc
          · rename_i hn; simpa using hn
        · cases hc
      obtain ⟨bk, o, sp⟩ := ad
      obtain rfl : sp = none := hsp
      have hcell : ∀ (j : Nat) x, l0[j]? = some x → w.cell? ⟨bk, o + j, none⟩ = some (.string x) := by
        intro j x hj
        have hjl : j < l0.length := (List.getElem?_eq_some_iff.1 hj).1
        obtain ⟨ad', s', e1, hx', hc'⟩ := strs_cellL hr0 hjl
        obtain rfl := Option.some.inj e1
        rw [hj] at hx'
        obtain rfl := Option.some.inj hx'
        unfold Addr.add at hc'
        split at hc'
        · rename_i h0; subst h0; exact hc'
        · exact hc'
      have hlt := World.block_lt_of_cell? w _ (hcell 0 s hx)
      exact Tryd.strings_Join bk o c0 l0 a1 w hcell hlt hh.2 hc0 hh.1
  · cases h

def strings_Split.f (a0 a1 : ByteArray) : Option (List ByteArray) :=
  if a0.size < 4294967281 ∧ 1 ≤ a1.size then some (Lib.splitB a1 0 (Lib.countB a0 a1) a0) else none
theorem strings_Split.calls (a0 a1 : ByteArray) (r : List ByteArray) (w : World) (hE_ : Env w) (h : strings_Split.f a0 a1 = some r) :
    Calls Tryd.prog 63 #[.string a0, .string a1] w fun e w' => ∃ v_ : Value, e = .returned v_ ∧ Kd.R Kd.string 9 w' w.heap.size (fun _ => True) v_ r ∧ Below w.heap.size w w' := by
  unfold strings_Split.f at h
  split at h
  · rename_i hh
    obtain ⟨hs, h1⟩ := hh
    have hn := Lib.countB_le a1 h1 _ a0 (Nat.le_refl _)
    obtain rfl := Option.some.inj h
    obtain ⟨m, hm⟩ := hE_.ml
    have hlen : (Lib.splitB a1 0 (Lib.countB a0 a1) a0).length = Lib.countB a0 a1 + 1 := Lib.splitB_all a1 h1 0 _ a0 rfl
    refine (Tryd.strings_Split a0 a1 m w hs hm h1).mono ?_
    rintro e w' ⟨rfl, rfl⟩
    refine ⟨_, rfl, ?_, (Below.refl _ _).alloc (Nat.le_refl _) _⟩
    rw [← hlen]
    refine Kd.R_of_own (enc := Value.string) (h1 := fun _ => rfl) ⟨by simp [encs], .inr ⟨w.heap.size, _, _, rfl, Nat.le_refl _, heap_alloc_new w _, Nat.le_refl _, ?_, ?_, ?_⟩⟩ (fun k _ => trivial)
    · rw [hlen]; unfold maxLen; omega
    · simp
    · rw [Nat.mul_one, List.take_of_length_le (by simp)]; simp [encs]
  · cases h
end Go.Proofs.YtmddkjmcbddhiaaDoor.P
