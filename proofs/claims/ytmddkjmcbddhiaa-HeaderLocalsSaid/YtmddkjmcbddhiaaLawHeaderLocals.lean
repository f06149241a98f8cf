/-
  Proved: a local name more stands behind all, and may be told just if it is unlike all others. Condition: the locals' number is one that a slice can have.
  Proved: the Go function deckle/decklelaw15.HeaderLocals answers true at every input; each argument reads afterwards as it read before. Conditions: none but the form's own.
-/
import Derived.Test.YtmddkjmcbddhiaaP17
import Derived.Test.YtmddkjmcbddhiaaFx
import Derived.Test.YtmddkjmcbddhiaaRows
import Derived.Test.YtmddkjmcbddhiaaRk2
import Derived.WalkKit
import Derived.ProofKit
import Derived.OpenShut
import Derived.ShutString
import Derived.ChangeOld
import Derived.Below
import Derived.SizedLaws
import Derived.Test.YtmddkjmcbddhiaaWSized
section
namespace Go.Proofs.Ytmddkjmcbddhiaa.Pure
open Go.RowKit Go.Proofs.Ytmddkjmcbddhiaa.P Go.Proofs.YtmddkjmcbddhiaaW.PrintWords Go.Proofs.YtmddkjmcbddhiaaW.PrintLast Go.Proofs.Ytmddkjmcbddhiaa.Sp
set_option linter.unusedVariables false
set_option linter.unusedSimpArgs false

theorem had_loop (s : ByteArray) (a b c d e f : ByteArray) (l : List ByteArray) (a' b' c' d' e' f' : ByteArray) (l' : List ByteArray) (hl : l.length ≤ 4611686018427387904)
    (hend : ∀ i : Nat, l.length ≤ i → ∀ v : Bool, (v = true ↔ s.data.toList ∈ [a.data.toList, b.data.toList, c.data.toList, d.data.toList, e.data.toList, f.data.toList] ++ bys l) → Ev (fun k => decklelaw15_HeaderLocals.l0 k s true v (i : Int) a b c d e f l a' b' c' d' e' f' l') true) (n : Nat) :
    ∀ (i : Nat) (v : Bool), l.length ≤ i + n → (v = true ↔ s.data.toList ∈ [a.data.toList, b.data.toList, c.data.toList, d.data.toList, e.data.toList, f.data.toList] ++ (bys l).take i) → Ev (fun k => decklelaw15_HeaderLocals.l0 k s true v (i : Int) a b c d e f l a' b' c' d' e' f' l') true := by
  have stop : ∀ (i : Nat) (v : Bool), l.length ≤ i → (v = true ↔ s.data.toList ∈ [a.data.toList, b.data.toList, c.data.toList, d.data.toList, e.data.toList, f.data.toList] ++ (bys l).take i) → Ev (fun k => decklelaw15_HeaderLocals.l0 k s true v (i : Int) a b c d e f l a' b' c' d' e' f' l') true := by
    intro i v hi hv
    rw [List.take_of_length_le (by rw [bys_length]; exact hi)] at hv
    exact hend i hi v hv
  induction n with
  | zero => intro i v hi hv; exact stop i v (by omega) hv
  | succ n ih =>
    intro i v hi hv
    by_cases hlt : i < l.length
    · have ht : (bys l).take (i + 1) = (bys l).take i ++ [l[i].data.toList] := by
        rw [List.take_succ_eq_append_getElem (by rw [bys_length]; exact hlt)]
        simp [bys]
      cases v with
      | true =>
        refine Ev.step (fun k => ?_) (ih (i + 1) true (by omega) ⟨fun _ => ?_, fun _ => rfl⟩)
        · rw [decklelaw15_HeaderLocals.l0, if_pos (by omega), if_pos rfl, wrap_nat rfl (by omega)]
        · rw [ht, ← List.append_assoc]
          exact List.mem_append.2 (.inl (hv.1 rfl))
      | false =>
        refine Ev.step (fun k => ?_) (ih (i + 1) (s.toList == l[i].toList) (by omega) ⟨fun h => ?_, fun h => ?_⟩)
        · rw [decklelaw15_HeaderLocals.l0, if_pos (by omega), if_neg (by simp), if_pos (by omega), rdOf_at l i hlt, wrap_nat rfl (by omega)]
        · have h' := beq_iff_eq.1 h
          rw [ByteArray.toList_eq, ByteArray.toList_eq] at h'
          rw [ht, ← List.append_assoc]
          exact List.mem_append.2 (.inr (List.mem_singleton.2 h'))
        · rw [ht, ← List.append_assoc] at h
          rcases List.mem_append.1 h with h | h
          · exact absurd (hv.2 h) (by simp)
          · rw [ByteArray.toList_eq, ByteArray.toList_eq]
            exact beq_iff_eq.2 (List.mem_singleton.1 h)
    · exact stop i v (by omega) hv
theorem HeaderLocals (a b c d e f : ByteArray) (l : List ByteArray) (s : ByteArray) (hl : l.length ≤ 4611686018427387904) (hss : s.size ≤ 140737488351232) : ∃ k, decklelaw15_HeaderLocals.f k a b c d e f l s = some true := by
  have yes : ∀ k, decklelaw15_HeaderLocals.j0 (k + 1) s true true a b c d e f l = some true := fun k => by rw [decklelaw15_HeaderLocals.j0, if_pos rfl]
  obtain ⟨r, ⟨K1, h1⟩, h2⟩ := few_ev a b c d e f l hl
  cases r with
  | false =>
    have e1 : decklelaw15_Few.f (K1 + 1) a b c d e f l = some false := h1 _ (by omega)
    exact ⟨K1 + 1, by unfold decklelaw15_HeaderLocals.f; simp only [decklelaw15_small.f, Option.bind_some, e1, Bool.false_eq_true, if_false]; exact yes K1⟩
  | true =>
    have hw := h2 rfl
    have hz := hw.sized
    have hls := hw.lsum_le
    have hn := hw.n
    obtain ⟨K2, h3⟩ := header_Right_ev a b c d e f l hz
    by_cases hs : (s.size : Int) > 100
    · have e1 : decklelaw15_Few.f (K1 + 1) a b c d e f l = some true := h1 _ (by omega)
      exact ⟨K1 + 1, by unfold decklelaw15_HeaderLocals.f; simp only [decklelaw15_small.f, Option.bind_some, e1, if_true, if_pos hs]; exact yes K1⟩
    · by_cases hok : hdrOk a.data.toList b.data.toList c.data.toList d.data.toList e.data.toList f.data.toList (bys l) = true
      · rw [hok] at h3
        by_cases hnm : isName s.data.toList = true
        · -- the whole way
          have hz2 : HSized a b c d e f (l ++ [s]) := by
            refine ⟨?_, by rw [List.length_append]; simp; omega⟩
            rw [lsum_snoc]
            have := hw.a; have := hw.b; have := hw.c; have := hw.d; have := hw.e; have := hw.f
            omega
          have hb2 : bys (l ++ [s]) = bys l ++ [s.data.toList] := by simp [bys]
          obtain ⟨K3, h4⟩ := header_Right_ev a b c d e f (l ++ [s]) hz2
          rw [hb2, hdrOk_snoc hnm, hok, Bool.true_and] at h4
          have e5 := header_Text_f hz
          have e6 := header_Text_f hz2
          rw [if_pos hok] at e5
          rw [hb2, hdrOk_snoc hnm, hok, Bool.true_and] at e6
          have hend : ∀ i : Nat, l.length ≤ i → ∀ v : Bool, (v = true ↔ s.data.toList ∈ [a.data.toList, b.data.toList, c.data.toList, d.data.toList, e.data.toList, f.data.toList] ++ bys l) → Ev (fun k => decklelaw15_HeaderLocals.l0 k s true v (i : Int) a b c d e f l a b c d e f (l ++ [s])) true := by
            intro i hi v hv
            cases v with
            | true =>
              have hm : decide (s.data.toList ∈ [a.data.toList, b.data.toList, c.data.toList, d.data.toList, e.data.toList, f.data.toList] ++ bys l) = true := decide_eq_true (hv.1 rfl)
              rw [hm] at h4 e6
              refine ⟨K3 + 1, fun k hk => ?_⟩
              obtain ⟨m, rfl⟩ : ∃ m, k = m + 1 := ⟨k - 1, by omega⟩
              have e7 : header_Right.f m a b c d e f (l ++ [s]) = some (!true) := h4 m (by omega)
              show decklelaw15_HeaderLocals.l0 (m + 1) _ _ _ _ _ _ _ _ _ _ _ _ _ _ _ _ _ _ = _
              rw [decklelaw15_HeaderLocals.l0, if_neg (by omega), if_pos rfl, if_pos rfl, e7, e6]
              have hn : (⟨#[]⟩ : ByteArray).toList = [] := ByteArray.toList_eq _
              simp only [Option.bind_some, Bool.not_true, Bool.false_eq_true, if_false, hn]
              rfl
            | false =>
              have hm : decide (s.data.toList ∈ [a.data.toList, b.data.toList, c.data.toList, d.data.toList, e.data.toList, f.data.toList] ++ bys l) = false := decide_eq_false (fun h => by have := hv.2 h; cases this)
              rw [hm] at h4 e6
              refine ⟨K3 + 1, fun k hk => ?_⟩
              obtain ⟨m, rfl⟩ : ∃ m, k = m + 1 := ⟨k - 1, by omega⟩
              have e7 : header_Right.f m a b c d e f (l ++ [s]) = some (!false) := h4 m (by omega)
              have hsz1 : (⟨(hdrText a.data.toList b.data.toList c.data.toList d.data.toList e.data.toList f.data.toList (bys l)).toArray⟩ : ByteArray).size ≤ 3720 := by
                have h5 := P.text_len a.data.toList b.data.toList c.data.toList d.data.toList e.data.toList f.data.toList (bys l)
                rw [lsum_bys] at h5
                simp only [length_data] at h5
                have := hw.a; have := hw.b; have := hw.c; have := hw.d; have := hw.e; have := hw.f
                rw [← length_data]
                show (hdrText _ _ _ _ _ _ _).length ≤ _
                omega
              show decklelaw15_HeaderLocals.l0 (m + 1) _ _ _ _ _ _ _ _ _ _ _ _ _ _ _ _ _ _ = _
              rw [decklelaw15_HeaderLocals.l0, if_neg (by omega), if_neg (by simp), if_pos rfl, e7, e6]
              simp only [Option.bind_some, Bool.not_false, if_true, e5]
              rw [if_pos (by omega), if_pos (by
                rw [ByteArray.size_append]
                have : (⟨#[59]⟩ : ByteArray).size = 1 := rfl
                omega), hdrText_snoc]
              congr 1
              rw [beq_iff_eq, ByteArray.toList_eq, ByteArray.toList_eq, append_data, append_data]
              simp
          have hloop := fun i v => had_loop s a b c d e f l a b c d e f (l ++ [s]) hl hend l.length i v (Nat.le_add_left _ _)
          have hj : ∀ v : Bool, (v = true ↔ s.data.toList ∈ [a.data.toList, b.data.toList, c.data.toList, d.data.toList, e.data.toList, f.data.toList]) → Ev (fun k => decklelaw15_HeaderLocals.j1 k s true v a b c d e f l a b c d e f (l ++ [s])) true := fun v hv =>
            Ev.step (f := fun k => decklelaw15_HeaderLocals.l0 k s true v ((0 : Nat) : Int) a b c d e f l a b c d e f (l ++ [s])) (fun k => by rw [decklelaw15_HeaderLocals.j1]; rfl) (hloop 0 v (by simpa using hv))
          have hj0 : Ev (fun k => decklelaw15_HeaderLocals.j0 k s true false a b c d e f l) true := by
            have hst : ∀ k, decklelaw15_HeaderLocals.j0 (k + 1) s true false a b c d e f l = (if s.toList = a.toList then (decklelaw15_HeaderLocals.j1 k s true true a b c d e f l a b c d e f (l ++ [s])) else (if s.toList = b.toList then (decklelaw15_HeaderLocals.j1 k s true true a b c d e f l a b c d e f (l ++ [s])) else (if s.toList = c.toList then (decklelaw15_HeaderLocals.j1 k s true true a b c d e f l a b c d e f (l ++ [s])) else (if s.toList = d.toList then (decklelaw15_HeaderLocals.j1 k s true true a b c d e f l a b c d e f (l ++ [s])) else (if s.toList = e.toList then (decklelaw15_HeaderLocals.j1 k s true true a b c d e f l a b c d e f (l ++ [s])) else (decklelaw15_HeaderLocals.j1 k s true (s.toList == f.toList) a b c d e f l a b c d e f (l ++ [s]))))))) := fun k => by
              rw [decklelaw15_HeaderLocals.j0, if_neg (by simp)]
              simp only [Option.bind_some, List.nil_append, List.length_nil, Nat.zero_add]
              rw [if_pos (by omega), if_pos (by omega)]
            simp only [ByteArray.toList_eq] at hst
            by_cases q0 : s.data.toList = a.data.toList
            · exact Ev.step (fun k => by rw [hst, if_pos q0]) (hj true ⟨fun _ => by rw [q0]; simp, fun _ => rfl⟩)
            by_cases q1 : s.data.toList = b.data.toList
            · exact Ev.step (fun k => by rw [hst, if_neg q0, if_pos q1]) (hj true ⟨fun _ => by rw [q1]; simp, fun _ => rfl⟩)
            by_cases q2 : s.data.toList = c.data.toList
            · exact Ev.step (fun k => by rw [hst, if_neg q0, if_neg q1, if_pos q2]) (hj true ⟨fun _ => by rw [q2]; simp, fun _ => rfl⟩)
            by_cases q3 : s.data.toList = d.data.toList
            · exact Ev.step (fun k => by rw [hst, if_neg q0, if_neg q1, if_neg q2, if_pos q3]) (hj true ⟨fun _ => by rw [q3]; simp, fun _ => rfl⟩)
            by_cases q4 : s.data.toList = e.data.toList
            · exact Ev.step (fun k => by rw [hst, if_neg q0, if_neg q1, if_neg q2, if_neg q3, if_pos q4]) (hj true ⟨fun _ => by rw [q4]; simp, fun _ => rfl⟩)
            · refine Ev.step (fun k => by rw [hst, if_neg q0, if_neg q1, if_neg q2, if_neg q3, if_neg q4]) (hj (s.data.toList == f.data.toList) ⟨fun h => ?_, fun h => ?_⟩)
              · rw [beq_iff_eq.1 h]; simp
              · simp only [List.mem_cons, List.not_mem_nil, or_false] at h
                rcases h with h | h | h | h | h | h
                · exact absurd h q0
                · exact absurd h q1
                · exact absurd h q2
                · exact absurd h q3
                · exact absurd h q4
                · exact beq_iff_eq.2 h
          obtain ⟨K4, h7⟩ := hj0
          have e1 : decklelaw15_Few.f (K1 + K2 + K4) a b c d e f l = some true := h1 _ (by omega)
          have e2 : header_Right.f (K1 + K2 + K4) a b c d e f l = some true := h3 _ (by omega)
          have e8 : decklelaw15_HeaderLocals.j0 (K1 + K2 + K4) s true false a b c d e f l = some true := h7 _ (by omega)
          exact ⟨K1 + K2 + K4, by unfold decklelaw15_HeaderLocals.f; simp only [decklelaw15_small.f, Option.bind_some, e1, if_true, if_neg hs, e2, name_Right_f s (by omega), hnm, Bool.not_true]; exact e8⟩
        · have hnm2 : isName s.data.toList = false := by simpa using hnm
          have e1 : decklelaw15_Few.f (K1 + K2 + 1) a b c d e f l = some true := h1 _ (by omega)
          have e2 : header_Right.f (K1 + K2 + 1) a b c d e f l = some true := h3 _ (by omega)
          exact ⟨K1 + K2 + 1, by unfold decklelaw15_HeaderLocals.f; simp only [decklelaw15_small.f, Option.bind_some, e1, if_true, if_neg hs, e2, name_Right_f s (by omega), hnm2, Bool.not_false]; exact yes _⟩
      · have hok2 := Bool.eq_false_iff.2 hok
        rw [hok2] at h3
        have e1 : decklelaw15_Few.f (K1 + K2 + 1) a b c d e f l = some true := h1 _ (by omega)
        have e2 : header_Right.f (K1 + K2 + 1) a b c d e f l = some false := h3 _ (by omega)
        exact ⟨K1 + K2 + 1, by unfold decklelaw15_HeaderLocals.f; simp only [decklelaw15_small.f, Option.bind_some, e1, if_true, if_neg hs, e2, Bool.false_eq_true, if_false]; exact yes _⟩
end Go.Proofs.Ytmddkjmcbddhiaa.Pure
end
section
namespace Go.Proofs.Ytmddkjmcbddhiaa.headerLocals
open Go.ChangeShapes Go.WideShapes Go.ChangeAt Go.RowKit Go.Proofs.YtmddkjmcbddhiaaW.PrintWords
open Go.ChangeMaps (open_string shut_string)
set_option linter.unusedVariables false
set_option linter.unusedSimpArgs false
theorem own : ownKnob Try.prog.godebug = none := by kernel_rfl
set_option maxRecDepth 100000 in
set_option maxHeartbeats 1000000 in
theorem lifted (os : Os) (started : os.Started) (H : Type) (enc : TypeId × Value → H) :
    ReturnsInHanded {} Try.checked os 11 .any (Rows.headerLocalsSpec.pre6 enc Try.prog Try.f11 Rows.headerLocalsRow.domain false) (Rows.headerLocalsSpec.post enc Try.prog Try.f11 false true false false) := by
  refine returnsInHanded_of_change_sized (C := Try.checked) own started (by kernel_rfl) Try.func11
    (ChangeSpec.witness6 (enc := enc) (C := Try.checked) false ⟨#[], #[.agg #[.string ByteArray.empty, .string ByteArray.empty, .string ByteArray.empty, .string ByteArray.empty, .string ByteArray.empty, .string ByteArray.empty, .slice none 0 0], .string ByteArray.empty], []⟩ 12 (by kernel_rfl) (by kernel_rfl) (by kernel_rfl) (by kernel_rfl)) ?_
  intro W base args ds gs before hval0 hW hcnd hsz0 _
  have hsz : (DataW.weightsEach Try.prog (Try.f11.params.toList ++ Rows.headerLocalsSpec.plain.varTypes Try.prog) (ds ++ gs)).all (· ≤ reachBytes) = true := hsz0
  have hval : ∀ (j : Nat) t v, Try.f11.params[j]? = some t → args[j]? = some v → Value.okWide Try.prog W .any base t v := hval0
  have hW' := hW
  obtain ⟨p, q, hA0, hV, rfl, hfz, hnd⟩ := hW
  have hA : DataW.TrodAll enc Try.prog W 0 (fun _ => true) true Try.f11.params.toList args.toList ds p := hA0
  rw [Try.params11] at hA hval hsz
  obtain ⟨v0, vs0, d0, ds0, p0, q0, hargs, rfl, rfl, h0, r0⟩ := trodAll_cons hA
  obtain ⟨v1, vs1, d1, ds1, p1, q1, rfl, rfl, rfl, h1, r1⟩ := trodAll_cons r0
  obtain ⟨rfl, rfl, rfl⟩ := trodAll_nil r1
  obtain rfl : args = #[v0, v1] := by cases args; simp_all
  obtain ⟨rfl, rfl⟩ := trodVars_none hV
  have k0 := h0
  have lt0 : ∀ x ∈ p0, x.block < W.heap.size := by obtain ⟨m, hm⟩ := k0; exact DataW.trod_lt m _ _ _ hm
  obtain ⟨ea0, eb0, ec0, ed0, ee0, ef0, A0, cap0, x0, rfl, hr0, hc0, ⟨wa0, wb0, wc0, wd0, we0, wf0⟩, hl0, hb0⟩ := Rk.open_hdr hsz (j := 0) rfl rfl (hval 0 35 v0 rfl rfl) h0
  obtain ⟨a1, rfl, rfl, rfl, y1⟩ := open_string Try.underlying9 (hval 1 9 v1 rfl rfl) h1
  have w1 : a1.size ≤ 140737488351232 := by
    have z := sized_string hsz (j := 1) (t := 9) rfl rfl
    rw [Array.length_toList] at z
    exact z
  clear hA0 hval0 hsz0 hsz
  obtain ⟨k, hk⟩ : ∃ k, P.decklelaw15_HeaderLocals.f k ea0 eb0 ec0 ed0 ee0 ef0 x0 a1 = some true := Pure.HeaderLocals ea0 eb0 ec0 ed0 ee0 ef0 x0 a1 (by omega) w1
  refine (P.decklelaw15_HeaderLocals.calls k ea0 eb0 ec0 ed0 ee0 ef0 A0 cap0 x0 a1 true W hr0 hc0 hk).mono fun e W' ⟨he, bel⟩ => ?_
  subst he
  exact ⟨_, rfl, _, _, _, [], _, [], hW', trodAll_mk1 (shut_bool Try.underlying4 _), (trodAll_cons_mk (Below.trod Rk.laidOut (by kernel_rfl) (of_decide_eq_true (by kernel_rfl)) k0 bel lt0) (trodAll_cons_mk (shut_string Try.underlying9 y1) trodAll_mk0)), rfl, bel.frame _, fun h => by cases h⟩
theorem over : Rows.headerLocalsRow.holds Try.pinned (OpenSpec.ofChange Rows.headerLocalsSpec) :=
  OpenClaim.holds_of_wide 11 Try.f11 rfl rfl rfl rfl rfl rfl rfl ⟨rfl, rfl, rfl, rfl, rfl⟩ rfl rfl rfl rfl rfl (by kernel_rfl) Try.func11 (by kernel_rfl)
    (of_decide_eq_true (by kernel_rfl)) (by unfold Func.isWrapper; first | (rw [if_pos (by decide +kernel)]; kernel_rfl) | (rw [if_neg (by decide +kernel)]; exact ⟨rfl, rfl⟩))
    (fun os started H enc _ => lifted os started H enc)
theorem proved : Rows.HeaderLocalsSaid := over
#print axioms proved
end Go.Proofs.Ytmddkjmcbddhiaa.headerLocals
namespace Go.Proofs.Ytmddkjmcbddhiaa
/-- The row, under a short name, for the claim. -/
theorem headerLocals_holds : Rows.HeaderLocalsSaid := headerLocals.proved
end Go.Proofs.Ytmddkjmcbddhiaa
end
