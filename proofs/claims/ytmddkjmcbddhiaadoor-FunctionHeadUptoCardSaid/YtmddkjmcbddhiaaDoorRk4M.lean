/-
  For the rows of laws: arguments opened: a slice of texts, a struct of seven fields. Plain laws on readings; no condition of their own.
  For the row of a law with a header of bounded bulk: the header opened, and how great it is altogether. No condition of their own.
-/
import Derived.Test.YtmddkjmcbddhiaaDoorRows
import Derived.Test.YtmddkjmcbddhiaaDoorWWords
import Derived.SizedLaws
import Derived.SliceStrings
import Derived.ChangeSlices
import Derived.ProofKit
import Derived.Lib.SmallJoins
import Derived.OpenShut
import Derived.Deep.Fields
section
namespace Go.Proofs.YtmddkjmcbddhiaaDoor.Rk
open Go.Deep Go.Joins Go.ChangeShapes Go.WideShapes Go.RowKit Go.Proofs.YtmddkjmcbddhiaaDoorW.PrintWords
set_option linter.unusedVariables false
set_option linter.unusedSimpArgs false
section
variable {H : Type} {enc : TypeId × Value → H} {P : Program} {w : World} {base : Nat} {spare : Nat → Bool} {held : Bool}

/-- A slice of texts that came in: the texts, where they lie, and how many they are. -/
theorem open_strs {t e : TypeId} {a : Option Addr} {len cap : Nat} {d : DataW H} {ps : List MemPlace} (hu : P.underlying t = some (.slice e)) (he : P.underlying e = some .string) (hc : P.cellsOf e = 1) {B : Nat} (hB : P.bytesOf e = B)
    (hw : ∀ elems sp, d = .slice elems sp → (elems.length + sp.length) * P.bytesOf e ≤ reachBytes)
    (h : DataW.Trod enc P w base spare held t (.slice a len cap) d ps) :
    ∃ xs : List ByteArray, len = xs.length ∧ Kd.C Kd.string w a xs.length xs ∧ xs.length ≤ cap ∧ (∀ x ∈ xs, x.size ≤ maxLen) ∧ xs.length * B ≤ 140737488351232 := by
  obtain ⟨fuel, hf⟩ := h
  rcases open_strings hu he hc hf with ⟨hcs, _⟩ | ⟨x, l, c, ss, hcs, _, hl, hm, hz, hx, hcell, hsz⟩
  · simp [Value.cells] at hcs
    obtain ⟨rfl, rfl, rfl⟩ := hcs
    exact ⟨[], rfl, ⟨rfl, by simp, fun h => absurd h (by simp)⟩, Nat.le_refl _, (fun x hx => by cases hx), by simp⟩
  · simp [Value.cells] at hcs
    obtain ⟨rfl, rfl, rfl⟩ := hcs
    have hl2 : len ≤ ss.length := by
      rw [hz]
      split
      · exact hl
      · exact Nat.le_refl _
    have hlen : (ss.take len).length = len := by rw [List.length_take]; omega
    refine ⟨ss.take len, hlen.symm, ⟨rfl, ?_, fun _ => ⟨x, rfl, fun j p hj => ⟨[.string p], rfl, rfl, fun i u hi => ?_⟩⟩⟩, by omega, fun y hy => hsz y (List.mem_of_mem_take hy), ?_⟩
    · rw [hlen]
      unfold maxLen at hm
      omega
    · have hjl : j < len := by
        have := (List.getElem?_eq_some_iff.1 hj).1
        omega
      have hi0 : i = 0 := by
        have := (List.getElem?_eq_some_iff.1 hi).1
        simpa using this
      subst hi0
      have hu2 : u = .string p := by simpa using hi.symm
      subst hu2
      have h1 := hcell j (by omega)
      have h2 : ss.getD j ByteArray.empty = p := by
        rw [List.getElem?_take_of_lt hjl] at hj
        rw [List.getD_eq_getElem?_getD, hj, Option.getD_some]
      rw [h2] at h1
      have e2 : j * Kd.string.sz + 0 = j := by show j * 1 + 0 = j; omega
      rw [e2]
      exact h1
    · obtain ⟨hx, _⟩ := Prod.mk.inj hx
      have z := hw _ _ hx
      rw [hB] at z
      have h1 : (strs (H := H) (ss.take len)).length + (strs (H := H) (ss.drop len)).length = ss.length := by
        simp [strs]
        omega
      rw [h1] at z
      rw [hlen]
      exact Nat.le_trans (Nat.mul_le_mul_right _ hl2) z
theorem open_agg7 {r : Reach} {b0 : Nat} {t : TypeId} {f0 f1 f2 f3 f4 f5 f6 : Field} {v : Value} {d : DataW H} {p : List MemPlace} (hs : P.underlying t = some (.struct #[f0, f1, f2, f3, f4, f5, f6])) (hone : oneCellFields P #[f0, f1, f2, f3, f4, f5, f6] = true) (hC : P.cellsOf t = 7)
    (hv : Value.okWide P w r b0 t v) (h : DataW.Trod enc P w base spare held t v d p) :
    ∃ (v0 v1 v2 v3 v4 v5 v6 : Value) (y0 y1 y2 y3 y4 y5 y6 : DataW H × List MemPlace) (n : Nat), v = .agg #[v0, v1, v2, v3, v4, v5, v6] ∧ d = .agg [y0.1, y1.1, y2.1, y3.1, y4.1, y5.1, y6.1] ∧
      DataW.trod enc P w base spare held n f0.type [v0] = some y0 ∧ DataW.trod enc P w base spare held n f1.type [v1] = some y1 ∧ DataW.trod enc P w base spare held n f2.type [v2] = some y2 ∧ DataW.trod enc P w base spare held n f3.type [v3] = some y3 ∧ DataW.trod enc P w base spare held n f4.type [v4] = some y4 ∧ DataW.trod enc P w base spare held n f5.type [v5] = some y5 ∧ DataW.trod enc P w base spare held n f6.type [v6] = some y6 := by
  obtain ⟨cs, rfl, hsz⟩ := okWide_struct hs hv
  obtain ⟨l⟩ := cs
  match l, hsz.trans hC with
  | [c0, c1, c2, c3, c4, c5, c6], _ =>
    obtain ⟨fuel, hf⟩ := h
    obtain ⟨xs, n, _, hx, _, hlen, hg⟩ := DataW.trod_struct hs hf
    obtain ⟨o0, k0⟩ := hone_of hone 0 f0 rfl
    obtain ⟨o1, k1⟩ := hone_of hone 1 f1 rfl
    obtain ⟨o2, k2⟩ := hone_of hone 2 f2 rfl
    obtain ⟨o3, k3⟩ := hone_of hone 3 f3 rfl
    obtain ⟨o4, k4⟩ := hone_of hone 4 f4 rfl
    obtain ⟨o5, k5⟩ := hone_of hone 5 f5 rfl
    obtain ⟨o6, k6⟩ := hone_of hone 6 f6 rfl
    match xs, hlen with
    | [y0, y1, y2, y3, y4, y5, y6], _ =>
      simp only [Prod.mk.injEq] at hx
      exact ⟨c0, c1, c2, c3, c4, c5, c6, y0, y1, y2, y3, y4, y5, y6, n, rfl, by simpa using hx.1, by simpa [Value.cells, o0, k0] using hg 0 f0 rfl, by simpa [Value.cells, o1, k1] using hg 1 f1 rfl, by simpa [Value.cells, o2, k2] using hg 2 f2 rfl, by simpa [Value.cells, o3, k3] using hg 3 f3 rfl, by simpa [Value.cells, o4, k4] using hg 4 f4 rfl, by simpa [Value.cells, o5, k5] using hg 5 f5 rfl, by simpa [Value.cells, o6, k6] using hg 6 f6 rfl⟩
end
theorem laidOut : laidOutB Tryd.prog = true := by kernel_rfl
end Go.Proofs.YtmddkjmcbddhiaaDoor.Rk
end
section
namespace Go.Proofs.YtmddkjmcbddhiaaDoor.Rk
open Go.Deep Go.Joins Go.ChangeShapes Go.WideShapes Go.RowKit Go.Proofs.YtmddkjmcbddhiaaDoorW.PrintWords
set_option linter.unusedVariables false
set_option linter.unusedSimpArgs false
theorem bulk_strs {H : Type} : ∀ xs : List ByteArray, Rows.uptoBulkAll (strs (H := H) xs) = (xs.map fun s => s.size + 1).sum
  | [] => rfl
  | x :: t => by
    have q : x.data.toList.length = x.size := by rw [Array.length_toList]; rfl
    have ih := bulk_strs (H := H) t
    unfold strs at ih ⊢
    simp only [List.map_cons, Rows.uptoBulkAll, Rows.uptoBulk, List.sum_cons, ih, q]
section
variable {H : Type} {enc : TypeId × Value → H} {P : Program} {w : World} {base : Nat} {spare : Nat → Bool} {held : Bool}
theorem open_strsB {t e : TypeId} {a : Option Addr} {len cap : Nat} {d : DataW H} {ps : List MemPlace} (hu : P.underlying t = some (.slice e)) (he : P.underlying e = some .string) (hc : P.cellsOf e = 1) {B : Nat} (hB : P.bytesOf e = B)
    (hw : ∀ elems sp, d = .slice elems sp → (elems.length + sp.length) * P.bytesOf e ≤ reachBytes)
    (h : DataW.Trod enc P w base spare held t (.slice a len cap) d ps) :
    ∃ xs : List ByteArray, len = xs.length ∧ Kd.C Kd.string w a xs.length xs ∧ xs.length ≤ cap ∧ (∀ x ∈ xs, x.size ≤ maxLen) ∧ xs.length * B ≤ 140737488351232 ∧ (xs.map fun s => s.size + 1).sum ≤ Rows.uptoBulk d := by
  obtain ⟨fuel, hf⟩ := h
  rcases open_strings hu he hc hf with ⟨hcs, _⟩ | ⟨x, l, c, ss, hcs, _, hl, hm, hz, hx, hcell, hsz⟩
  · simp [Value.cells] at hcs
    obtain ⟨rfl, rfl, rfl⟩ := hcs
    exact ⟨[], rfl, ⟨rfl, by simp, fun h => absurd h (by simp)⟩, Nat.le_refl _, (fun x hx => by cases hx), by simp, by simp⟩
  · simp [Value.cells] at hcs
    obtain ⟨rfl, rfl, rfl⟩ := hcs
    have hl2 : len ≤ ss.length := by
      rw [hz]
      split
      · exact hl
      · exact Nat.le_refl _
    have hlen : (ss.take len).length = len := by rw [List.length_take]; omega
    refine ⟨ss.take len, hlen.symm, ⟨rfl, ?_, fun _ => ⟨x, rfl, fun j p hj => ⟨[.string p], rfl, rfl, fun i u hi => ?_⟩⟩⟩, by omega, fun y hy => hsz y (List.mem_of_mem_take hy), ?_, ?_⟩
    · rw [hlen]
      unfold maxLen at hm
      omega
    · have hjl : j < len := by
        have := (List.getElem?_eq_some_iff.1 hj).1
        omega
      have hi0 : i = 0 := by
        have := (List.getElem?_eq_some_iff.1 hi).1
        simpa using this
      subst hi0
      have hu2 : u = .string p := by simpa using hi.symm
      subst hu2
      have h1 := hcell j (by omega)
      have h2 : ss.getD j ByteArray.empty = p := by
        rw [List.getElem?_take_of_lt hjl] at hj
        rw [List.getD_eq_getElem?_getD, hj, Option.getD_some]
      rw [h2] at h1
      have e2 : j * Kd.string.sz + 0 = j := by show j * 1 + 0 = j; omega
      rw [e2]
      exact h1
    · obtain ⟨hx, _⟩ := Prod.mk.inj hx
      have z := hw _ _ hx
      rw [hB] at z
      have h1 : (strs (H := H) (ss.take len)).length + (strs (H := H) (ss.drop len)).length = ss.length := by
        simp [strs]
        omega
      rw [h1] at z
      rw [hlen]
      exact Nat.le_trans (Nat.mul_le_mul_right _ hl2) z
    · obtain ⟨hx, _⟩ := Prod.mk.inj hx
      rw [hx]
      simp only [Rows.uptoBulk]
      rw [bulk_strs]
      omega
end
set_option maxRecDepth 100000 in
theorem open_hdrB {H : Type} {enc : TypeId × Value → H} {w : World} {base : Nat} {spare : Nat → Bool} {held : Bool} {r : Reach} {b0 : Nat} {v : Value} {d : DataW H} {p : List MemPlace} {ts : List TypeId} {ds : List (DataW H)} {j : Nat}
    (hsz : (DataW.weightsEach Tryd.prog ts ds).all (· ≤ reachBytes) = true) (ht : ts[j]? = some 42) (hd : ds[j]? = some d)
    (hbk : Rows.uptoBulk d ≤ 1048576) (hv : Value.okWide Tryd.prog w r b0 42 v) (h : DataW.Trod enc Tryd.prog w base spare held 42 v d p) :
    ∃ (a b c e f g : ByteArray) (A : Option Addr) (cp : Nat) (l : List ByteArray), v = .agg #[.string a, .string b, .string c, .string e, .string f, .string g, .slice A l.length cp] ∧ Kd.C Kd.string w A l.length l ∧ l.length ≤ cp ∧
      (a.size ≤ 140737488351232 ∧ b.size ≤ 140737488351232 ∧ c.size ≤ 140737488351232 ∧ e.size ≤ 140737488351232 ∧ f.size ≤ 140737488351232 ∧ g.size ≤ 140737488351232) ∧ l.length * 16 ≤ 140737488351232 ∧ (∀ x ∈ l, x.size ≤ maxLen) ∧ a.size + b.size + c.size + e.size + f.size + g.size + (l.map fun s => s.size + 1).sum ≤ 1048576 := by
  obtain ⟨v0, v1, v2, v3, v4, v5, v6, y0, y1, y2, y3, y4, y5, y6, n, rfl, rfl, k0, k1, k2, k3, k4, k5, k6⟩ := open_agg7 Tryd.underlying42 (by kernel_rfl) (by kernel_rfl) hv h
  obtain ⟨a, e0, rfl, _⟩ := DataW.trod_string Tryd.underlying9 k0
  obtain ⟨b, e1, rfl, _⟩ := DataW.trod_string Tryd.underlying9 k1
  obtain ⟨c, e2, rfl, _⟩ := DataW.trod_string Tryd.underlying9 k2
  obtain ⟨e, e3, rfl, _⟩ := DataW.trod_string Tryd.underlying9 k3
  obtain ⟨f, e4, rfl, _⟩ := DataW.trod_string Tryd.underlying9 k4
  obtain ⟨g, e5, rfl, _⟩ := DataW.trod_string Tryd.underlying9 k5
  obtain rfl := (List.cons.inj e0).1
  obtain rfl := (List.cons.inj e1).1
  obtain rfl := (List.cons.inj e2).1
  obtain rfl := (List.cons.inj e3).1
  obtain rfl := (List.cons.inj e4).1
  obtain rfl := (List.cons.inj e5).1
  have W : ∀ m, m ∈ DataW.weights Tryd.prog 42 (DataW.agg [(DataW.lit (.string a.data.toList) : DataW H), .lit (.string b.data.toList), .lit (.string c.data.toList), .lit (.string e.data.toList), .lit (.string f.data.toList), .lit (.string g.data.toList), y6.1]) → m ≤ 140737488351232 := fun m hm => by
    have := List.all_eq_true.1 hsz _ (DataW.weights_mem_each ht hd m hm)
    exact of_decide_eq_true this
  have hsl : ∃ (A : Option Addr) (len cp : Nat), v6 = .slice A len cp := by
    rcases DataW.trod_slice Tryd.underlying33 k6 with ⟨h1, _⟩ | ⟨a', len, cap, _, _, _, _, h1, _⟩
    · exact ⟨none, 0, 0, (List.cons.inj h1).1⟩
    · exact ⟨some a', len, cap, (List.cons.inj h1).1⟩
  obtain ⟨A, len, cp, rfl⟩ := hsl
  have hw : ∀ el sp, y6.1 = .slice el sp → (el.length + sp.length) * Tryd.prog.bytesOf 9 ≤ reachBytes := fun el sp he => by
    have := W ((el.length + sp.length) * Tryd.prog.bytesOf 9) (by rw [he]; simp [DataW.weights, DataW.weightsEach, Tryd.underlying42, Tryd.underlying33])
    simpa [reachBytes] using this
  obtain ⟨l, rfl, hr, hc, hb, hl, hbl⟩ := open_strsB (d := y6.1) (ps := y6.2) Tryd.underlying33 Tryd.underlying9 (by kernel_rfl) (B := 16) (by kernel_rfl) hw ⟨n, (show DataW.trod enc Tryd.prog w base spare held n 33 [Value.slice A len cp] = some y6 from k6)⟩
  refine ⟨a, b, c, e, f, g, A, cp, l, rfl, hr, hc, ⟨?_, ?_, ?_, ?_, ?_, ?_⟩, hl, hb, ?_⟩
  rotate_left 6
  · simp only [Rows.uptoBulk, Rows.uptoBulkAll] at hbk
    have q : ∀ s : ByteArray, s.data.toList.length = s.size := fun s => by rw [Array.length_toList]; rfl
    rw [q, q, q, q, q, q] at hbk
    omega
  all_goals (refine W _ ?_; simp [DataW.weights, DataW.weightsEach, Tryd.underlying42, Tryd.underlying9])
end Go.Proofs.YtmddkjmcbddhiaaDoor.Rk
end
