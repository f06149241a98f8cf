/-
  For the rows of laws over the package's variables: what the variables hold at the call, a world for the witness, a slice of numbers opened. No condition of their own.
  For the rows of laws: arguments opened: a slice of texts, a struct of seven fields. Plain laws on readings; no condition of their own.
-/
import Derived.Test.YtmddkjmcbddhiaaDoorRows
import Derived.Test.YtmddkjmcbddhiaaDoorTie
import Derived.Test.YtmddkjmcbddhiaaDoorGLibKQ
import Derived.Test.YtmddkjmcbddhiaaDoorWSizedQ
import Derived.Lib.LaidU8T
import Derived.Lib.LaidIn
import Derived.Shelf.Vars
import Derived.Deep.DeepHandedRow
import Derived.Deep.DeepWitnessRowRef
import Derived.ProofKit
import Derived.OpenShut
import Derived.ShutString
import Derived.SizedLaws
import Derived.ChangeOld
import Derived.Test.YtmddkjmcbddhiaaDoorWWordsQ
import Derived.SliceStrings
import Derived.ChangeSlices
import Derived.Lib.SmallJoins
import Derived.Deep.Fields
section
namespace Go.Proofs.YtmddkjmcbddhiaaDoor.Rk3
open Go.ChangeShapes Go.WideShapes Go.ChangeAt Go.RowKit Go.Proofs.YtmddkjmcbddhiaaDoorW.PrintWords
set_option linter.unusedVariables false
set_option linter.unusedSimpArgs false

theorem first_eq : Rows.laid_unicode_utf8_first = Lib.firstData := by kernel_rfl
theorem accept_eq : (Rows.laid_unicode_utf8_acceptRanges : DataW Unit) = Lib.acceptData := by kernel_rfl
/-- What the variables hold at the call. -/
theorem env_of {W : World} (hL : laidMet Tryd.prog [("unicode/utf8.acceptRanges", Rows.laid_unicode_utf8_acceptRanges), ("unicode/utf8.first", Rows.laid_unicode_utf8_first)] W) (hsh : W.ShapedOpen Tryd.prog) : P.Env W := by
  have h4 := Lib.laidMet.reads hL (.head _)
  have h3 := Lib.laidMet.reads hL (.tail _ (.head _))
  rw [accept_eq] at h4
  rw [first_eq] at h3
  refine ⟨utf8Tabs_of_readsT (U8Types.of196 Tryd.laysValid) ⟨by kernel_rfl, by kernel_rfl, by kernel_rfl, by kernel_rfl, by kernel_rfl, by kernel_rfl, by kernel_rfl⟩ h3 h4, ?_⟩
  exact cell_of_shapedOpen_int (zero := #[.int .i64 0]) (t := 3) hsh (of_decide_eq_true (by kernel_rfl)) (by kernel_rfl) rfl (by kernel_rfl) (by kernel_rfl) Tryd.underlying3
/-- The witness: the settled world, the two variables holding what their initialisers lay. -/
noncomputable def laidWorld (os : Os) : World :=
  let w0 := World.holding Tryd.prog os ⟨#[], #[], []⟩
  let put (h : Array Obj) (g : Nat) (cs : Array Value) : Array Obj := h.modify g fun
    | .cells _ t frozen => .cells cs t frozen
    | o => o
  let h1 := put w0.heap 0 (Lib.firstTab.map fun z => Value.int .u8 z).toArray
  let h2 := put h1 1 ((List.range 16).flatMap fun i => [Value.int .u8 (Lib.accLo i), Value.int .u8 (Lib.accHi i)]).toArray
  { w0 with heap := h2 }
theorem laidOut : laidOutB Tryd.prog = true := by kernel_rfl
end Go.Proofs.YtmddkjmcbddhiaaDoor.Rk3
end
section
namespace Go.Proofs.YtmddkjmcbddhiaaDoor.Rk
open Go.Deep Go.Joins Go.ChangeShapes Go.WideShapes Go.RowKit Go.Proofs.YtmddkjmcbddhiaaDoorW.PrintWords
set_option linter.unusedVariables false
set_option linter.unusedSimpArgs false
section
variable {H : Type} {enc : TypeId × Value → H} {P : Program} {w : World} {base : Nat} {spare : Nat → Bool} {held : Bool}

/-- A slice of texts that came in: the texts, where they lie, and how many they are. -/
theorem open_strs {t e : TypeId} {a : Option Addr} {len cap : Nat} {d : DataW H} {ps : List MemPlace} (hu : P.underlying t = some (.slice e)) (he : P.underlying e = some .string) (hc : P.cellsOf e = 1) {B : Nat} (hB : P.bytesOf e = B)
    (hw : ∀ elems sp, d = .slice elems sp → (elems.length + sp.length) * P.bytesOf e ≤ reachBytes)
    (h : DataW.Trod enc P w base spare held t (.slice a len cap) d ps) :
    ∃ xs : List ByteArray, len = xs.length ∧ Kd.C Kd.string w a xs.length xs ∧ xs.length ≤ cap ∧ (∀ x ∈ xs, x.size ≤ maxLen) ∧ xs.length * B ≤ 140737488351232 := by
  obtain ⟨fuel, hf⟩ := h
  rcases open_strings hu he hc hf with ⟨hcs, _⟩ | ⟨x, l, c, ss, hcs, _, hl, hm, hz, hx, hcell, hsz⟩
  · simp [Value.cells] at hcs
    obtain ⟨rfl, rfl, rfl⟩ := hcs
    exact ⟨[], rfl, ⟨rfl, by simp, fun h => absurd h (by simp)⟩, Nat.le_refl _, (fun x hx => by cases hx), by simp⟩
  · simp [Value.cells] at hcs
    obtain ⟨rfl, rfl, rfl⟩ := hcs
    have hl2 : len ≤ ss.length := by
      rw [hz]
      split
      · exact hl
      · exact Nat.le_refl _
    have hlen : (ss.take len).length = len := by rw [List.length_take]; omega
    refine ⟨ss.take len, hlen.symm, ⟨rfl, ?_, fun _ => ⟨x, rfl, fun j p hj => ⟨[.string p], rfl, rfl, fun i u hi => ?_⟩⟩⟩, by omega, fun y hy => hsz y (List.mem_of_mem_take hy), ?_⟩
    · rw [hlen]
      unfold maxLen at hm
      omega
    · have hjl : j < len := by
        have := (List.getElem?_eq_some_iff.1 hj).1
        omega
      have hi0 : i = 0 := by
        have := (List.getElem?_eq_some_iff.1 hi).1
        simpa using this
      subst hi0
      have hu2 : u = .string p := by simpa using hi.symm
      subst hu2
      have h1 := hcell j (by omega)
      have h2 : ss.getD j ByteArray.empty = p := by
        rw [List.getElem?_take_of_lt hjl] at hj
        rw [List.getD_eq_getElem?_getD, hj, Option.getD_some]
      rw [h2] at h1
      have e2 : j * Kd.string.sz + 0 = j := by show j * 1 + 0 = j; omega
      rw [e2]
      exact h1
    · obtain ⟨hx, _⟩ := Prod.mk.inj hx
      have z := hw _ _ hx
      rw [hB] at z
      have h1 : (strs (H := H) (ss.take len)).length + (strs (H := H) (ss.drop len)).length = ss.length := by
        simp [strs]
        omega
      rw [h1] at z
      rw [hlen]
      exact Nat.le_trans (Nat.mul_le_mul_right _ hl2) z
end
theorem laidOut : laidOutB Tryd.prog = true := by kernel_rfl
end Go.Proofs.YtmddkjmcbddhiaaDoor.Rk
end
