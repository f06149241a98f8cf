/-
  The walk of the reference's Take: it takes off the name that stands first, at every string. No condition.
-/
import Derived.Test.YtmddkjmcbddhiaaEv8
namespace Go.Proofs.Ytmddkjmcbddhiaa.P
open Go.RowKit Go.Proofs.YtmddkjmcbddhiaaW.PrintWords Go.Proofs.Ytmddkjmcbddhiaa.Sp
set_option linter.unusedVariables false
set_option linter.unusedSimpArgs false

def deckleref08_Take.f (a0 : ByteArray) : Option (ByteArray × ByteArray) :=
  if a0.size ≤ 9223372036854775807 then some (a0.extract 0 (nameLen a0.data.toList), a0.extract (nameLen a0.data.toList) a0.size) else none

theorem extract_data (s : ByteArray) (p : Nat) : (s.extract p s.size).data.toList = s.data.toList.drop p := by
  have h : (s.extract p s.size).data.toList = (s.data.toList.drop p).take (s.size - p) := by simp
  rw [h, List.take_of_length_le (by rw [List.length_drop, length_data]; omega)]

set_option maxHeartbeats 1000000 in
set_option maxRecDepth 100000 in
theorem refTake_walk (s : ByteArray) (w : World) (hs : s.size ≤ 9223372036854775807) :
    Calls Try.prog 15 #[.string s] w fun e w' => e = .returned (.tuple #[.string (s.extract 0 (nameLen s.data.toList)), .string (s.extract (nameLen s.data.toList) s.size)]) ∧ Below w.heap.size w w' := by
  have hle := bgW_le s.data.toList
  have hgl := gl_le s.data.toList
  have hsz := length_data s
  rw [hsz] at hle hgl
  clear hsz
  by_cases hz : bgW s.data.toList = 0
  · have hfin : nameLen s.data.toList = 0 := by unfold nameLen; rw [if_pos hz]
    have HF := Aside0.mk hfin
    have HB : Aside0 (deckleref08_begins.f 1 s = some 0) := ⟨by rw [ref_begins s 0, hz]; rfl⟩
    have H1 := Aside0.mk (extract_all s)
    have H2 := Aside0.mk (extract_nil s 0)
    clear hz hfin
    go_enter Try.func15, Try.ntmps15
    go_wp2_with (first | (go_at_call 33; (with_reducible refine (deckleref08_begins.calls 1 _ 0 _ HB.out).mono ?_); rintro e w' ⟨rfl, ⟨nd, rfl⟩⟩))
    go_ret2
    rw [HF.out, H1.out, H2.out]
    exact ⟨rfl, pw_below_drewN (Below.refl _ _) _⟩
  · have hb0 : ((bgW s.data.toList : Int) == 0) = false := beq_eq_false_iff_ne.mpr (by omega)
    have hg : gW s.data.toList = bgW s.data.toList := gW_of_bgW hz
    have hgz : gW s.data.toList ≠ 0 := by rw [hg]; exact hz
    have HN : Aside0 (nameLen s.data.toList = bgW s.data.toList + gl (s.data.toList.drop (bgW s.data.toList))) := ⟨by unfold nameLen; rw [if_neg hz, gl_step hgz, hg]⟩
    have HB : Aside0 (deckleref08_begins.f 1 s = some (bgW s.data.toList : Int)) := ⟨ref_begins s 0⟩
    have hwp : 1 ≤ bgW s.data.toList := by omega
    clear hz hg hgz hgl
    obtain ⟨b, hbe⟩ : ∃ b, b = bgW s.data.toList := ⟨_, rfl⟩
    rw [← hbe] at hb0 HN HB hle hwp
    clear hbe
    go_enter Try.func15, Try.ntmps15
    go_wp2_with (first | (go_at_call 33; (with_reducible refine (deckleref08_begins.calls 1 _ (b : Int) _ HB.out).mono ?_); rintro e w' ⟨rfl, ⟨nd, rfl⟩⟩))
    go_loopw [4] (fun n wr => ∃ p : Nat, n = .int .i64 p ∧ p ≤ s.size ∧ Aside0 (p + gl (s.data.toList.drop p) = nameLen s.data.toList) ∧ Below w.heap.size w wr) (fun n _ => s.size - (intOf n).toNat)
    case atStart => exact ⟨b, rfl, hle, ⟨HN.out.symm⟩, pw_below_drewN (Below.refl _ _) _⟩
    case round =>
      obtain ⟨p, rfl, hp, hgp, hbw⟩ := hrel
      obtain ⟨g, hge⟩ : ∃ g, g = gW (s.data.toList.drop p) := ⟨_, rfl⟩
      have hgl := gW_le (s.data.toList.drop p)
      rw [List.length_drop, length_data, ← hge] at hgl
      have HG : Aside0 (deckleref08_goes.f 2 (s.extract p s.size) = some (g : Int)) := ⟨by rw [ref_goes _ 0, extract_data, hge]⟩
      by_cases hz : g = 0
      · have hfin : nameLen s.data.toList = p := by rw [← hgp.out, gl_zero (by rw [← hge]; exact hz), Nat.add_zero]
        have HF := Aside0.mk hfin
        have hnp : ¬ (0 : Int) < (g : Int) := by omega
        have hnp2 : decide ((0 : Int) < (g : Int)) = false := decide_eq_false hnp
        clear hfin hz hge hgp
        go_wp2_with (first | (go_at_call 34; (with_reducible refine (deckleref08_goes.calls 2 _ (g : Int) _ HG.out).mono ?_); rintro e w' ⟨rfl, ⟨nd2, rfl⟩⟩))
        go_quiet (fail)
        go_wp2
        go_ret2
        rw [HF.out]
        exact ⟨rfl, pw_below_drewN (pw_below_drewN hbw _) _⟩
      · have hstep : (p + g) + gl (s.data.toList.drop (p + g)) = nameLen s.data.toList := by
          rw [← hgp.out, gl_step (l := s.data.toList.drop p) (by rw [← hge]; exact hz), ← hge, List.drop_drop]
          omega
        have HS := Aside0.mk hstep
        have hnp : (0 : Int) < (g : Int) := by omega
        clear hstep hz hge hgp
        go_wp2_with (first | (go_at_call 34; (with_reducible refine (deckleref08_goes.calls 2 _ (g : Int) _ HG.out).mono ?_); rintro e w' ⟨rfl, ⟨nd2, rfl⟩⟩))
        go_roundw
        case rel => exact ⟨p + g, by go_num, by omega, HS, pw_below_drewN hbw _⟩
        case measure => simp [intOf]; omega

theorem deckleref08_Take.calls (a0 : ByteArray) (r1 : ByteArray) (r2 : ByteArray) (w : World) (h : deckleref08_Take.f a0 = some (r1, r2)) :
    Calls Try.prog 15 #[.string a0] w fun e w' => e = .returned (.tuple #[.string r1, .string r2]) ∧ Below w.heap.size w w' := by
  unfold deckleref08_Take.f at h
  split at h
  · rename_i hs
    obtain ⟨rfl, rfl⟩ := Prod.mk.inj (Option.some.inj h)
    exact refTake_walk a0 w hs
  · cases h
end Go.Proofs.Ytmddkjmcbddhiaa.P
