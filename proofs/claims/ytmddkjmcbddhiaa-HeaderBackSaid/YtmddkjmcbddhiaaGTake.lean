/-
  The walk of name.Take: what it takes off is the plain 'takeLen', at every string. No condition.
-/
import Derived.Test.YtmddkjmcbddhiaaP1
import Derived.Test.YtmddkjmcbddhiaaSp
import Derived.Lib.OthersKept
namespace Go.Proofs.Ytmddkjmcbddhiaa.P
open Go.RowKit Go.Proofs.YtmddkjmcbddhiaaW.PrintWords Go.Proofs.Ytmddkjmcbddhiaa.Sp
set_option linter.unusedVariables false
set_option linter.unusedSimpArgs false

theorem begins_f (c : Int) : name_begins.f c = some (beginsR c) := by
  unfold name_begins.f beginsR
  repeat' split
  all_goals first | (simp; omega) | (simp [*]; done) | (simp [*]; omega)
theorem goes_f (c : Int) : name_goes.f c = some (goesR c) := by
  unfold name_goes.f goesR
  rw [begins_f]
  simp only [Option.bind_some]
  repeat' split
  all_goals first | (simp [*]; done) | (simp [*]; omega)

def name_Take.f (a0 : ByteArray) : Option (ByteArray × ByteArray) :=
  some (a0.extract 0 (takeLen a0), a0.extract (takeLen a0) a0.size)

set_option maxHeartbeats 1000000 in
set_option maxRecDepth 100000 in
theorem take_walk (s : ByteArray) (w : World) :
    Calls Try.prog 14 #[.string s] w fun e w' => e = .returned (.tuple #[.string (s.extract 0 (takeLen s)), .string (s.extract (takeLen s) s.size)]) ∧ Below w.heap.size w w' := by
  go_enter Try.func14, Try.ntmps14
  go_wp2
  go_loopw [] (fun wr => ∃ (pos b : Nat), wr.heap[w.heap.size]? = some (.stringIter s pos) ∧ Below w.heap.size w wr ∧ Aside0 (takeFrom s b pos = takeLen s) ∧ s.size ≤ pos + b) (fun wr => s.size - wr.iterPos w.heap.size)
  case atStart =>
    exact ⟨0, s.size, World.iter_heap w s 0, (Below.refl _ _).alloc (Nat.le_refl _) _, ⟨rfl⟩, by omega⟩
  case round =>
    obtain ⟨pos, b, hit, hbw, htk, hb⟩ := hrel
    by_cases hp : pos < s.size
    · have hnx : ∀ ty, (Instr.next (.pointer (some ⟨w.heap.size, 0, none⟩)) true ty).run Try.prog wr = _ := fun ty => Lib.run_next_any_at wr w.heap.size s pos ty hit hp
      have hwd := decode_pos s pos hp
      have hit2 := Lib.iterAt_heap wr w.heap.size s pos (pos + (Utf8.decode s pos).2) hit
      have hbw2 := Lib.below_iterAt hbw (k := w.heap.size) (Nat.le_refl _) s (pos + (Utf8.decode s pos).2)
      obtain ⟨b, rfl⟩ : ∃ m, b = m + 1 := ⟨b - 1, by omega⟩
      have hu : takeFrom s (b + 1) pos = (if pos = 0 ∧ beginsR (Utf8.decode s pos).1 = false then 0 else if goesR (Utf8.decode s pos).1 = false then pos else takeFrom s b (pos + (Utf8.decode s pos).2)) := by
        rw [takeFrom, if_pos hp]
      have HU := Aside0.mk hu
      clear hu
      have hm : (wr.iterAt w.heap.size s (pos + (Utf8.decode s pos).2)).iterPos w.heap.size = pos + (Utf8.decode s pos).2 := by
        simp only [World.iterPos, hit2]
      have hm0 : wr.iterPos w.heap.size = pos := by simp only [World.iterPos, hit]
      have HM := Aside0.mk hm
      have HM0 := Aside0.mk hm0
      clear hm hm0
      have hle : pos ≤ s.size := Nat.le_of_lt hp
      cases hgo : goesR (Utf8.decode s pos).1 with
      | true =>
        by_cases hz : pos = 0 ∧ beginsR (Utf8.decode s pos).1 = false
        · have hfin : takeLen s = 0 := by rw [← htk.out, HU.out, if_pos hz]
          have hb0 : ((pos : Int) == 0) = true := by rw [hz.1]; rfl
          have HF := Aside0.mk hfin
          have HBG := Aside0.mk hz.2
          have H1 := Aside0.mk (extract_all s)
          have H2 := Aside0.mk (extract_nil s 0)
          clear hgo hfin hz
          go_wp2_with (first | (go_at_call 31; (with_reducible refine (name_begins.calls _ false _ (by rw [begins_f, HBG.out])).mono ?_); rintro e w' ⟨rfl, ⟨nd, rfl⟩⟩))
          go_ret2
          rw [HF.out, H1.out, H2.out]
          exact ⟨rfl, pw_below_drewN hbw2 _⟩
        · have hstep : takeFrom s b (pos + (Utf8.decode s pos).2) = takeLen s := by rw [← htk.out, HU.out, if_neg hz, if_neg (by simp [hgo])]
          have HS := Aside0.mk hstep
          have HGO := Aside0.mk hgo
          clear hgo hstep
          by_cases h0 : pos = 0
          · have hb0 : ((pos : Int) == 0) = true := by rw [h0]; rfl
            have HBG : Aside0 (beginsR (Utf8.decode s pos).1 = true) := ⟨by
              cases hb : beginsR (Utf8.decode s pos).1 with
              | true => rfl
              | false => exact absurd ⟨h0, hb⟩ hz⟩
            clear h0 hz
            go_wp2_with (first
              | (go_at_call 31; (with_reducible refine (name_begins.calls _ true _ (by rw [begins_f, HBG.out])).mono ?_); rintro e w' ⟨rfl, ⟨nd, rfl⟩⟩)
              | (go_at_call 32; (with_reducible refine (name_goes.calls _ true _ (by rw [goes_f, HGO.out])).mono ?_); rintro e w' ⟨rfl, ⟨nd2, rfl⟩⟩))
            go_roundw
            case rel => exact ⟨pos + (Utf8.decode s pos).2, b, hit2, pw_below_drewN hbw2 _, HS, by omega⟩
            case measure =>
              rw [HM0.out]
              show s.size - (wr.iterAt w.heap.size s (pos + (Utf8.decode s pos).2)).iterPos w.heap.size < s.size - pos
              rw [HM.out]
              omega
          · have hb0 : ((pos : Int) == 0) = false := beq_eq_false_iff_ne.mpr (by omega)
            clear h0 hz
            go_wp2_with (first
              | (go_at_call 32; (with_reducible refine (name_goes.calls _ true _ (by rw [goes_f, HGO.out])).mono ?_); rintro e w' ⟨rfl, ⟨nd2, rfl⟩⟩))
            go_roundw
            case rel => exact ⟨pos + (Utf8.decode s pos).2, b, hit2, pw_below_drewN hbw2 _, HS, by omega⟩
            case measure =>
              rw [HM0.out]
              show s.size - (wr.iterAt w.heap.size s (pos + (Utf8.decode s pos).2)).iterPos w.heap.size < s.size - pos
              rw [HM.out]
              omega
      | false =>
        have hnb : beginsR (Utf8.decode s pos).1 = false := by
          simp only [goesR, Bool.or_eq_false_iff] at hgo
          exact hgo.1.1
        have hfin : takeLen s = pos := by
          rw [← htk.out, HU.out]
          by_cases h0 : pos = 0
          · rw [if_pos ⟨h0, hnb⟩, h0]
          · rw [if_neg (fun h => h0 h.1), if_pos hgo]
        have HF := Aside0.mk hfin
        have HBG := Aside0.mk hnb
        have HGO := Aside0.mk hgo
        have H1 := Aside0.mk (extract_all s)
        have H2 := Aside0.mk (extract_nil s pos)
        clear hnb hgo hfin
        by_cases h0 : pos = 0
        · have hb0 : ((pos : Int) == 0) = true := by rw [h0]; rfl
          have HZ : Aside0 (takeLen s = 0) := ⟨HF.out.trans h0⟩
          clear h0
          go_wp2_with (first
            | (go_at_call 31; (with_reducible refine (name_begins.calls _ false _ (by rw [begins_f, HBG.out])).mono ?_); rintro e w' ⟨rfl, ⟨nd, rfl⟩⟩))
          go_ret2
          rw [HZ.out, extract_nil, H1.out]
          exact ⟨rfl, pw_below_drewN hbw2 _⟩
        · have hb0 : ((pos : Int) == 0) = false := beq_eq_false_iff_ne.mpr (by omega)
          clear h0
          go_wp2_with (first
            | (go_at_call 32; (with_reducible refine (name_goes.calls _ false _ (by rw [goes_f, HGO.out])).mono ?_); rintro e w' ⟨rfl, ⟨nd2, rfl⟩⟩))
          go_quiet (fail)
          go_wp2
          go_ret2
          rw [HF.out]
          exact ⟨rfl, pw_below_drewN (pw_below_drewN hbw2 _) _⟩
    · have hnx : ∀ ty, (Instr.next (.pointer (some ⟨w.heap.size, 0, none⟩)) true ty).run Try.prog wr = _ := fun ty => Lib.run_next_end_at wr w.heap.size s pos ty hit hp
      have hfin : takeLen s = s.size := by rw [← htk.out]; exact takeFrom_end s b pos hp
      have H1 := Aside0.mk (extract_all s)
      have H2 := Aside0.mk (extract_nil s s.size)
      have HF := Aside0.mk hfin
      clear hfin
      go_wp2
      go_ret2
      rw [HF.out, H1.out, H2.out]
      exact ⟨rfl, hbw⟩
theorem name_Take.calls (a0 : ByteArray) (r1 : ByteArray) (r2 : ByteArray) (w : World) (h : name_Take.f a0 = some (r1, r2)) :
    Calls Try.prog 14 #[.string a0] w fun e w' => e = .returned (.tuple #[.string r1, .string r2]) ∧ Below w.heap.size w w' := by
  unfold name_Take.f at h
  obtain ⟨rfl, rfl⟩ := Prod.mk.inj (Option.some.inj h)
  exact take_walk a0 w
end Go.Proofs.Ytmddkjmcbddhiaa.P
