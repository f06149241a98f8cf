/-
  The walks of quote.ends and quote.Read: signs in quotes are read. Condition: the text has fewer than 2^32 - 15 bytes.
-/
import Derived.Test.YtmddkjmcbddhiaaDoorGLibJ
import Derived.Test.YtmddkjmcbddhiaaDoorQp
import Derived.Test.YtmddkjmcbddhiaaDoorGTakeJ
import Derived.Deep.QuietTactic
import Derived.BigQuiet
import Derived.IntWalk
import Derived.Lib.OthersKept
namespace Go.Proofs.YtmddkjmcbddhiaaDoor.P
open Go.RowKit Go.Proofs.YtmddkjmcbddhiaaDoorW.PrintWords
set_option linter.unusedVariables false
set_option linter.unusedSimpArgs false

/-- Where signs end that begin at place k; -1: nowhere. -/
def endsAt (s : ByteArray) : Nat → Nat → Int
  | 0, _ => -1
  | b + 1, k => if h : k < s.size then (if s[k].toNat ≠ 39 then endsAt s b (k + 1) else if h2 : k + 1 < s.size then (if s[k + 1].toNat ≠ 39 then (k : Int) else endsAt s b (k + 2)) else (k : Int)) else -1
def endsI (s : ByteArray) : Int := endsAt s s.size 0
theorem endsAt_end (s : ByteArray) (b k : Nat) (h : ¬ k < s.size) : endsAt s b k = -1 := by
  cases b <;> simp [endsAt, h]

set_option maxHeartbeats 4000000 in
set_option maxRecDepth 1000000 in
theorem ends_walk (s : ByteArray) (w : World) (hs : s.size ≤ 4611686018427387904) :
    Calls Tryd.prog 46 #[.string s] w fun e w' => e = .returned (.int .i64 (endsI s)) ∧ ∃ nd, w' = w.drewN nd := by
  obtain ⟨R, hR⟩ : ∃ R, R = endsI s := ⟨_, rfl⟩
  rw [← hR]
  have HRR := Aside0.mk hR
  clear hR
  go_enter Tryd.func46, Tryd.ntmps46
  go_wp2
  go_loopw [3] (fun i wr => ∃ (k b : Nat), k ≤ s.size ∧ i = .int .i64 k ∧ s.size ≤ k + b ∧ Aside0 (endsAt s b k = endsI s) ∧ ∃ nd, wr = w.drewN nd) (fun i _ => s.size - (intOf i).toNat)
  case atStart => exact ⟨0, s.size, Nat.zero_le _, rfl, by omega, ⟨rfl⟩, 0, rfl⟩
  case round =>
    obtain ⟨k, b, hk, rfl, hb, he, nd, rfl⟩ := hrel
    by_cases hlt : k < s.size
    · obtain ⟨b, rfl⟩ : ∃ m, b = m + 1 := ⟨b - 1, by omega⟩
      have hks : (k : Int) < (s.size : Int) := by omega
      have hk0 : (0 : Int) ≤ (k : Int) := by omega
      by_cases h1 : s[k].toNat = 39
      · have hq : (((s[k].toNat : Nat) : Int) != (((⟨#[39]⟩ : ByteArray)[0]'(by decide)).toNat : Int)) = false := by rw [h1]; rfl
        by_cases h2 : k + 1 < s.size
        · have hg : (((k : Int) + 1) == (s.size : Int)) = false := beq_eq_false_iff_ne.2 (by omega)
          have hg2 : (k + 1 == s.size) = false := beq_eq_false_iff_ne.2 (by omega)
          have hg3 : decide (k + 1 = s.size) = false := decide_eq_false (by omega)
          have hg4 : decide ((k : Int) + 1 = (s.size : Int)) = false := decide_eq_false (by omega)
          have hks2 : (k : Int) + 1 < (s.size : Int) := by omega
          by_cases h3 : s[k + 1].toNat = 39
          · have HE : Aside0 (endsAt s b (k + 2) = endsI s) := ⟨by rw [← he.out, endsAt, dif_pos hlt, if_neg (by simpa using h1), dif_pos h2, if_neg (by simpa using h3)]⟩
            have hq2 : (((s[k + 1].toNat : Nat) : Int) != (((⟨#[39]⟩ : ByteArray)[0]'(by decide)).toNat : Int)) = false := by rw [h3]; rfl
            clear h1 h3
            go_wp2
            go_quiet (fail)
            go_wp2
            have hwr : IntKind.i64.wrap ((k : Int) + 1) = (k : Int) + 1 := IntWalk.i64_in _ (by omega)
            have hw0 : (0 : Int) ≤ (k : Int) + 1 := by clear hwr; omega
            have hw1 : ((k : Int) + 1).toNat = k + 1 := by clear hwr; omega
            go_quiet (fail)
            clear hwr
            go_wp2
            go_roundw
            case rel => exact ⟨k + 2, b, by omega, by go_num, by omega, HE, _, by first | rfl | (simp only [World.drewN_drewN]; rfl)⟩
            case measure => simp [intOf]; omega
          · have HE : Aside0 ((k : Int) = endsI s) := ⟨by rw [← he.out, endsAt, dif_pos hlt, if_neg (by simpa using h1), dif_pos h2, if_pos h3]⟩
            have hq2 : (((s[k + 1].toNat : Nat) : Int) != (((⟨#[39]⟩ : ByteArray)[0]'(by decide)).toNat : Int)) = true := bne_iff_ne.2 (fun e => h3 (by have e2 : (((⟨#[39]⟩ : ByteArray)[0]'(by decide)).toNat : Int) = 39 := rfl; omega))
            clear h1 h3
            go_wp2
            go_quiet (fail)
            go_wp2
            have hwr : IntKind.i64.wrap ((k : Int) + 1) = (k : Int) + 1 := IntWalk.i64_in _ (by omega)
            have hw0 : (0 : Int) ≤ (k : Int) + 1 := by clear hwr; omega
            have hw1 : ((k : Int) + 1).toNat = k + 1 := by clear hwr; omega
            go_quiet (fail)
            clear hwr
            go_wp2
            go_ret
            refine ⟨?_, _, by first | rfl | (simp only [World.drewN_drewN]; rfl)⟩
            show Ending.returned (Value.int .i64 (k : Int)) = _
            rw [HRR.out, HE.out]
        · have hg : (((k : Int) + 1) == (s.size : Int)) = true := beq_iff_eq.2 (by omega)
          have hg2 : (k + 1 == s.size) = true := beq_iff_eq.2 (by omega)
          have hg3 : decide (k + 1 = s.size) = true := decide_eq_true (by omega)
          have hg4 : decide ((k : Int) + 1 = (s.size : Int)) = true := decide_eq_true (by omega)
          have HE : Aside0 ((k : Int) = endsI s) := ⟨by rw [← he.out, endsAt, dif_pos hlt, if_neg (by simpa using h1), dif_neg h2]⟩
          clear h1 h2
          go_wp2
          go_quiet (fail)
          go_wp2
          have hwr : IntKind.i64.wrap ((k : Int) + 1) = (k : Int) + 1 := IntWalk.i64_in _ (by omega)
          go_quiet (fail)
          clear hwr
          go_wp2
          go_ret
          refine ⟨?_, _, by first | rfl | (simp only [World.drewN_drewN]; rfl)⟩
          show Ending.returned (Value.int .i64 (k : Int)) = _
          rw [HRR.out, HE.out]
      · have HE : Aside0 (endsAt s b (k + 1) = endsI s) := ⟨by rw [← he.out, endsAt, dif_pos hlt, if_pos h1]⟩
        have hq2 : (((s[k].toNat : Nat) : Int) != (((⟨#[39]⟩ : ByteArray)[0]'(by decide)).toNat : Int)) = true := bne_iff_ne.2 (fun e => h1 (by have e2 : (((⟨#[39]⟩ : ByteArray)[0]'(by decide)).toNat : Int) = 39 := rfl; omega))
        clear h1
        go_wp2
        go_quiet (fail)
        go_wp2
        go_roundw
        case rel => exact ⟨k + 1, b, by omega, by go_num, by omega, HE, _, rfl⟩
        case measure => simp [intOf]; omega
    · have HE : Aside0 ((-1 : Int) = endsI s) := ⟨by rw [← he.out, endsAt_end s b k hlt]⟩
      go_wp2
      go_ret
      rw [HRR.out, ← HE.out]
      exact ⟨rfl, _, rfl⟩

theorem length_dataR (s : ByteArray) : s.data.toList.length = s.size := by rw [Array.length_toList]; rfl
theorem ext_takeR (s : ByteArray) (n : Nat) : (s.extract 0 n).toList = s.data.toList.take n := by
  rw [ByteArray.toList_eq]
  simp
theorem cutPrefix_q (s p : ByteArray) : strings_CutPrefix.f s p = some (if p.data.toList <+: s.data.toList then (s.extract p.size s.size, true) else (s, false)) := by
  unfold strings_CutPrefix.f stringslite_CutPrefix.f stringslite_HasPrefix.f
  have h1 := length_dataR s
  have h2 := length_dataR p
  by_cases hl : (s.size : Int) ≥ (p.size : Int)
  · rw [if_pos hl, if_pos (by omega), if_pos (by omega)]
    simp only [Int.toNat_natCast, ext_takeR, Option.bind_some]
    by_cases hp : p.data.toList <+: s.data.toList
    · have he : s.data.toList.take p.size = p.data.toList := by rw [← h2]; exact (List.prefix_iff_eq_take.1 hp).symm
      rw [he, ByteArray.toList_eq, beq_self_eq_true, if_pos rfl, if_pos (by omega), if_pos (by omega), if_pos hp]
      rfl
    · have he : ¬ s.data.toList.take p.size = p.data.toList := by
        intro he
        exact hp (List.prefix_iff_eq_take.2 (by rw [h2]; exact he.symm))
      rw [ByteArray.toList_eq, if_neg (by simpa using he), if_neg hp]
      rfl
  · rw [if_neg hl]
    simp only [Option.bind_some]
    have hp : ¬ p.data.toList <+: s.data.toList := by
      intro hp
      have := hp.length_le
      omega
    rw [if_neg (by simp), if_neg hp]
    rfl

/-- The runes of a text, read from place pos on, by at most b runes. -/
def runesFrom (s : ByteArray) : Nat → Nat → List Int
  | 0, _ => []
  | b + 1, pos => if pos < s.size then ((Utf8.decode s pos).1 : Int) :: runesFrom s b (pos + (Utf8.decode s pos).2) else []
def runesOf (s : ByteArray) : List Int := runesFrom s s.size 0
theorem runesFrom_end (s : ByteArray) (b pos : Nat) (h : ¬ pos < s.size) : runesFrom s b pos = [] := by
  cases b <;> simp [runesFrom, h]
theorem decode_posQ (s : ByteArray) (pos : Nat) (h : pos < s.size) : 1 ≤ (Utf8.decode s pos).2 := by
  by_cases ha : (s[pos]'h).toNat < 128
  · rw [decode_ascii s pos h ha]
    exact Nat.le_refl _
  · exact (decode_high s pos h (by omega)).2
theorem endsAt_lt (s : ByteArray) : ∀ (b k : Nat), endsAt s b k < (s.size : Int) ∧ -1 ≤ endsAt s b k
  | 0, k => by simp only [endsAt]; omega
  | b + 1, k => by
    have h1 := endsAt_lt s b (k + 1)
    have h2 := endsAt_lt s b (k + 2)
    unfold endsAt
    repeat' split
    all_goals omega
/-- What quote.Read comes to. -/
def qIn (s : ByteArray) : ByteArray := (s.extract 1 s.size).extract 0 (endsI (s.extract 1 s.size)).toNat
def qRest (s : ByteArray) : ByteArray := (s.extract 1 s.size).extract ((endsI (s.extract 1 s.size)).toNat + 1) (s.extract 1 s.size).size
def qOne (s : ByteArray) : ByteArray := ⟨(Lib.replaceAll (qIn s).data.toList [39, 39] [39]).toArray⟩
def qOk (s : ByteArray) : Bool := decide ([39] <+: s.data.toList) && (decide (0 ≤ endsI (s.extract 1 s.size)) && Lib.validD (qIn s).data.toList)
def quote_Read.f (s : ByteArray) : Option (List Int × ByteArray × Bool) :=
  if s.size < 4294967281 then some (if qOk s = true then (runesOf (qOne s), qRest s, true) else ([], ⟨#[]⟩, false)) else none
theorem ends_calls (s : ByteArray) (r : Int) (w : World) (hs : s.size ≤ 4611686018427387904) (h : Aside0 (r = endsI s)) :
    Calls Tryd.prog 46 #[.string s] w fun e w' => e = .returned (.int .i64 r) ∧ ∃ nd, w' = w.drewN nd := by
  rw [h.out]
  exact ends_walk s w hs

set_option maxHeartbeats 8000000 in
set_option maxRecDepth 1000000 in
theorem qread_no (s : ByteArray) (w : World) (hE : Env w) (hs : s.size < 4294967281) (hp : ¬ [39] <+: s.data.toList) :
    Calls Tryd.prog 16 #[.string s] w fun e w' => e = .returned (.tuple #[.slice none 0 0, .string ⟨#[]⟩, .bool false]) ∧ Below w.heap.size w w' := by
  have hc : strings_CutPrefix.f s ⟨#[39]⟩ = some (s, false) := by rw [cutPrefix_q, if_neg hp]
  have HC := Aside0.mk hc
  obtain ⟨r, hr⟩ : ∃ r, r = endsI s := ⟨_, rfl⟩
  have HRR := Aside0.mk hr
  have HS := Aside0.mk (show s.size ≤ 4611686018427387904 by omega)
  clear hc hr hp
  go_enter Tryd.func16, Tryd.ntmps16
  go_wp2_with (first
    | (go_at_call 45; (with_reducible refine (strings_CutPrefix.calls _ _ s false _ HC.out).mono ?_); rintro e w' ⟨rfl, ⟨nd, rfl⟩⟩)
    | (go_at_call 46; (with_reducible refine (ends_calls _ r _ HS.out HRR).mono ?_); rintro e w' ⟨rfl, ⟨nd2, rfl⟩⟩))
  go_ret3
  exact ⟨rfl, pw_below_drewN (Below.refl _ _) _⟩

theorem valid_calls (s : ByteArray) (r : Bool) (w : World) (hE : Env w) (hs : s.size ≤ 4611686018427387904) (h : Aside0 (Lib.validD s.data.toList = r)) :
    Calls Tryd.prog 47 #[.string s] w fun e w' => e = .returned (.bool r) ∧ Below w.heap.size w w' := by
  refine utf8_ValidString.calls s r w hE ?_
  unfold utf8_ValidString.f
  rw [if_pos (by omega), h.out]
theorem drewN_below (w : World) (n : Nat) : Below w.heap.size w (w.drewN n) := pw_below_drewN (Below.refl _ _) _

set_option maxHeartbeats 8000000 in
set_option maxRecDepth 1000000 in
theorem qread_short (s s1 : ByteArray) (w : World) (hE : Env w) (hs : s1.size < 4294967281) (hp : Aside0 (strings_CutPrefix.f s ⟨#[39]⟩ = some (s1, true))) (he : endsI s1 < 0) :
    Calls Tryd.prog 16 #[.string s] w fun e w' => e = .returned (.tuple #[.slice none 0 0, .string ⟨#[]⟩, .bool false]) ∧ Below w.heap.size w w' := by
  obtain ⟨r, hr⟩ : ∃ r, r = endsI s1 := ⟨_, rfl⟩
  rw [← hr] at he
  have hd : decide (r < 0) = true := decide_eq_true he
  have HRR := Aside0.mk hr
  have HS := Aside0.mk (show s1.size ≤ 4611686018427387904 by omega)
  clear hr
  go_enter Tryd.func16, Tryd.ntmps16
  go_wp2_with (first
    | (go_at_call 45; (with_reducible refine (strings_CutPrefix.calls _ _ s1 true _ hp.out).mono ?_); rintro e w' ⟨rfl, ⟨nd, rfl⟩⟩)
    | (go_at_call 46; (with_reducible refine (ends_calls _ r _ HS.out HRR).mono ?_); rintro e w' ⟨rfl, ⟨nd2, rfl⟩⟩))
  go_ret3
  exact ⟨rfl, pw_below_drewN (Below.refl _ _) _⟩

set_option maxHeartbeats 8000000 in
set_option maxRecDepth 1000000 in
theorem qread_bad (s s1 : ByteArray) (e1 : Nat) (w : World) (hE : Env w) (hs : s1.size < 4294967281) (hp : Aside0 (strings_CutPrefix.f s ⟨#[39]⟩ = some (s1, true))) (he : Aside0 ((e1 : Int) = endsI s1)) (hlt : e1 < s1.size) (hv : Aside0 (Lib.validD (s1.extract 0 e1).data.toList = false)) :
    Calls Tryd.prog 16 #[.string s] w fun e w' => e = .returned (.tuple #[.slice none 0 0, .string ⟨#[]⟩, .bool false]) ∧ Below w.heap.size w w' := by
  have HS := Aside0.mk (show s1.size ≤ 4611686018427387904 by omega)
  have HE := Aside0.mk hE
  have hz : (s1.extract 0 e1).size ≤ 4611686018427387904 := by rw [ByteArray.size_extract]; omega
  have HZ := Aside0.mk hz
  clear hz hE
  go_enter Tryd.func16, Tryd.ntmps16
  go_wp2_with (first
    | (go_at_call 45; (with_reducible refine (strings_CutPrefix.calls _ _ s1 true _ hp.out).mono ?_); rintro e w' ⟨rfl, ⟨nd, rfl⟩⟩)
    | (go_at_call 46; (with_reducible refine (ends_calls _ (e1 : Int) _ HS.out he).mono ?_); rintro e w' ⟨rfl, ⟨nd2, rfl⟩⟩))
  refine (valid_calls _ false _ (HE.out.below (drewN_below _ _)) HZ.out hv).mono ?_
  rintro e w1 ⟨rfl, hb⟩
  go_wp2
  go_ret3
  exact ⟨rfl, (drewN_below _ _).trans hb⟩

set_option maxHeartbeats 8000000 in
set_option maxRecDepth 1000000 in
theorem qread_yes (s s1 S : ByteArray) (e1 : Nat) (w : World) (hE : Env w) (hs : s1.size < 4294967281) (hp : Aside0 (strings_CutPrefix.f s ⟨#[39]⟩ = some (s1, true))) (he : Aside0 ((e1 : Int) = endsI s1)) (hlt : e1 < s1.size) (hv : Aside0 (Lib.validD (s1.extract 0 e1).data.toList = true))
    (hS : Aside0 (S = ⟨(Lib.replaceAll (s1.extract 0 e1).data.toList [39, 39] [39]).toArray⟩)) (hSz : S.size < 4294967281) :
    Calls Tryd.prog 16 #[.string s] w fun e w' => ∃ v_ : Value, e = .returned (.tuple #[v_, .string (s1.extract (e1 + 1) s1.size), .bool true]) ∧ Kd.R (Kd.int .i64) 3 w' w.heap.size (fun _ => True) v_ (runesOf S) ∧ Below w.heap.size w w' := by
  have HS := Aside0.mk (show s1.size ≤ 4611686018427387904 by omega)
  have HE := Aside0.mk hE
  have hz : (s1.extract 0 e1).size < 4294967281 := by rw [ByteArray.size_extract]; omega
  have HZ := Aside0.mk hz
  clear hz hE
  go_enter Tryd.func16, Tryd.ntmps16
  go_wp2_with (first
    | (go_at_call 45; (with_reducible refine (strings_CutPrefix.calls _ _ s1 true _ hp.out).mono ?_); rintro e w' ⟨rfl, ⟨nd, rfl⟩⟩)
    | (go_at_call 46; (with_reducible refine (ends_calls _ (e1 : Int) _ HS.out he).mono ?_); rintro e w' ⟨rfl, ⟨nd2, rfl⟩⟩))
  refine (valid_calls _ true _ (HE.out.below (drewN_below _ _)) (by have := HZ.out; omega) hv).mono ?_
  rintro e w1 ⟨rfl, hb⟩
  have hB := (drewN_below w (nd + nd2)).trans hb
  have hE1 := HE.out.below hB
  obtain ⟨m, hm⟩ := hE1.ml
  have HM := Aside0.mk hm
  clear hb hE1 hm
  have hC : (s1.extract 0 e1).size + Lib.countB (s1.extract 0 e1) ⟨#[39, 39]⟩ * (⟨#[39]⟩ : ByteArray).size ≤ 140737488355328 := by
    have h1 := Lib.countB_mul_le ⟨#[39, 39]⟩ (by decide) _ (s1.extract 0 e1) (Nat.le_refl _)
    have h2 : (⟨#[39, 39]⟩ : ByteArray).size = 2 := rfl
    have h3 : (⟨#[39]⟩ : ByteArray).size = 1 := rfl
    have h4 := HZ.out
    rw [h2] at h1
    rw [h3]
    omega
  have HC := Aside0.mk hC
  clear hC
  go_wp2_with fail
  refine (Tryd.strings_ReplaceAll _ ⟨#[39, 39]⟩ ⟨#[39]⟩ m _ HZ.out HM.out (by decide) HC.out).mono ?_
  rintro e w2 ⟨rfl, hb⟩
  have hB2 := hB.trans (hb.mono hB.size)
  rw [show (⟨(Lib.replaceAll (s1.extract 0 e1).data.toList [39, 39] [39]).toArray⟩ : ByteArray) = S from hS.out.symm]
  have HB := Aside0.mk hB2
  have HSZ := Aside0.mk hSz
  clear hB hb hB2 HM hSz
  go_wp2
  go_loopw [2] (fun v wr => ∃ (pos b : Nat) (acc : List Int), wr.heap[w2.heap.size]? = some (.stringIter S pos) ∧ Aside0 (Kd.R (Kd.int .i64) 3 wr w.heap.size (fun k => k ≠ w2.heap.size) v acc) ∧ Aside0 (Below w.heap.size w wr) ∧ Aside0 (acc ++ runesFrom S b pos = runesOf S) ∧ S.size ≤ pos + b ∧ Aside0 (acc.length ≤ pos))
    (fun _ wr => S.size - wr.iterPos w2.heap.size)
  case atStart =>
    exact ⟨0, S.size, [], World.iter_heap w2 S 0, ⟨Kd.R_nil _ _ _ _ _⟩, ⟨HB.out.alloc HB.out.size _⟩, ⟨rfl⟩, by omega, ⟨by simp⟩⟩
  case round =>
    obtain ⟨pos, b, acc, hit, hR, hBr, hacc, hpb, hal⟩ := hrel
    have hgs : w2.heap.size < wr.heap.size := (Array.getElem?_eq_some_iff.1 hit).1
    have HG := Aside0.mk hgs
    clear hgs
    by_cases hp2 : pos < S.size
    · have hnx : ∀ ty, (Instr.next (.pointer (some ⟨w2.heap.size, 0, none⟩)) true ty).run Tryd.prog wr = _ := fun ty => Lib.run_next_any_at wr w2.heap.size S pos ty hit hp2
      have hwd := decode_posQ S pos hp2
      have hit2 := Lib.iterAt_heap wr w2.heap.size S pos (pos + (Utf8.decode S pos).2) hit
      have hbw2 := Lib.below_iterAt hBr.out (k := w2.heap.size) HB.out.size S (pos + (Utf8.decode S pos).2)
      have HBW := Aside0.mk hbw2
      have HR2 : Aside0 (Kd.R (Kd.int .i64) 3 (wr.iterAt w2.heap.size S (pos + (Utf8.decode S pos).2)) w.heap.size (fun k => k ≠ w2.heap.size) _ acc) := ⟨Kd.R_move hR.out (fun k hk => Lib.iterAt_other _ _ _ _ _ hk)⟩
      obtain ⟨b, rfl⟩ : ∃ m, b = m + 1 := ⟨b - 1, by omega⟩
      have hu : runesFrom S (b + 1) pos = ((Utf8.decode S pos).1 : Int) :: runesFrom S b (pos + (Utf8.decode S pos).2) := by
        rw [runesFrom, if_pos hp2]
      have HU := Aside0.mk hu
      have hm : (wr.iterAt w2.heap.size S (pos + (Utf8.decode S pos).2)).iterPos w2.heap.size = pos + (Utf8.decode S pos).2 := by
        simp only [World.iterPos, hit2]
      have hm0 : wr.iterPos w2.heap.size = pos := by simp only [World.iterPos, hit]
      have HM := Aside0.mk hm
      have HM0 := Aside0.mk hm0
      have HIT := Aside0.mk hit2
      have hd1 := decode_le S pos
      have hpS : pos < 4294967281 := Nat.lt_trans hp2 HSZ.out
      have HSI : Aside0 (w2.heap.size < (wr.iterAt w2.heap.size S (pos + (Utf8.decode S pos).2)).heap.size) := ⟨by rw [Lib.iterAt_size]; exact HG.out⟩
      clear hu hm hm0 hbw2 hit2
      go_wp2_with ((with_reducible refine gate_builtin (b := .append) (xs := #[.tmp 36, .tmp 39]) rfl ?_); at_builtin; refine Kd.R_append (Kd.int .i64) (w0 := w) w.heap.size rfl (.tmp 36) (.tmp 39) 22 3 (.int .i64 0) 8 rfl Tryd.underlying22 info3 rfl (by decide) (by omega) _ acc ((Utf8.decode S pos).1 : Int) [.int .i64 ((Utf8.decode S pos).1 : Int)] (fun k => k ≠ w2.heap.size) (fun _ => False) rfl rfl ?aP (fun _ hk => hk.elim) ?aF ?aO ?aB ?aS ?aL ?_; (case aP => exact rfl); (case aB => exact HBW.out); (case aF => exact (fun k hk => by have := HSI.out; omega)); (case aO => exact HR2.out); (case aS => exact HBW.out.size); (case aL => have := hal.out; omega); intro v1 w8 ho hb hg hat; have HO := Aside0.mk ho; have HBN := Aside0.mk hb; have HGR := Aside0.mk hg; clear ho hb hg hat)
      go_roundw
      case rel =>
        refine ⟨pos + (Utf8.decode S pos).2, b, acc ++ [((Utf8.decode S pos).1 : Int)], ?_, HO, HBN, ⟨?_⟩, by omega, ⟨?_⟩⟩
        · exact (HGR.out.block _ HSI.out (fun e => HR2.out.1 _ e.symm rfl)).trans HIT.out
        · rw [← hacc.out, HU.out]; simp
        · rw [List.length_append]; have := hal.out; simp; omega
      case measure =>
        have hit3 := (HGR.out.block _ HSI.out (fun e => HR2.out.1 _ e.symm rfl)).trans HIT.out
        rw [HM0.out]
        simp only [World.iterPos, hit3]
        omega
    · have hnx : ∀ ty, (Instr.next (.pointer (some ⟨w2.heap.size, 0, none⟩)) true ty).run Tryd.prog wr = _ := fun ty => Lib.run_next_end_at wr w2.heap.size S pos ty hit hp2
      have HF : Aside0 (acc = runesOf S) := ⟨by rw [← hacc.out, runesFrom_end S b pos hp2, List.append_nil]⟩
      go_wp2
      have hwr : IntKind.i64.wrap ((e1 : Int) + 1) = (e1 : Int) + 1 := IntWalk.i64_in _ (by omega)
      have hw0 : (0 : Int) ≤ (e1 : Int) + 1 := by clear hwr; omega
      have hw1 : ((e1 : Int) + 1).toNat = e1 + 1 := by clear hwr; omega
      have hw2 : (e1 : Int) + 1 ≤ (s1.size : Int) := by clear hwr hw1; omega
      go_quiet (fail)
      go_wp2
      go_ret3
      refine ⟨_, rfl, ?_, ?_⟩
      · rw [← HF.out]
        exact Kd.R_drewN (Kd.R_mono hR.out (fun _ _ => trivial)) _
      · exact pw_below_drewN hBr.out _
theorem replace_len (s : ByteArray) (hs : s.size < 4294967281) : (⟨(Lib.replaceAll s.data.toList [39, 39] [39]).toArray⟩ : ByteArray).size ≤ s.size := by
  have h1 := Q.unq_len _ s.data.toList (Nat.le_refl _)
  rw [← Q.replaceAll_unq] at h1
  rw [← length_dataR, ← length_dataR s]
  exact h1
theorem quote_Read.calls (a0 : ByteArray) (r1 : List Int) (r2 : ByteArray) (r3 : Bool) (w : World) (hE_ : Env w) (h : quote_Read.f a0 = some (r1, r2, r3)) :
    Calls Tryd.prog 16 #[.string a0] w fun e w' => ∃ v_ : Value, e = .returned (.tuple #[v_, .string r2, .bool r3]) ∧ Kd.R (Kd.int .i64) 3 w' w.heap.size (fun _ => True) v_ r1 ∧ Below w.heap.size w w' := by
  unfold quote_Read.f at h
  split at h
  · rename_i hs
    have h := Option.some.inj h
    have no : Calls Tryd.prog 16 #[.string a0] w (fun e w' => e = .returned (.tuple #[.slice none 0 0, .string ⟨#[]⟩, .bool false]) ∧ Below w.heap.size w w') → qOk a0 = false → Calls Tryd.prog 16 #[.string a0] w fun e w' => ∃ v_ : Value, e = .returned (.tuple #[v_, .string r2, .bool r3]) ∧ Kd.R (Kd.int .i64) 3 w' w.heap.size (fun _ => True) v_ r1 ∧ Below w.heap.size w w' := by
      intro hc hq
      rw [if_neg (by simp [hq])] at h
      simp only [Prod.mk.injEq] at h
      obtain ⟨rfl, rfl, rfl⟩ := h
      refine hc.mono ?_
      rintro e w' ⟨rfl, hb⟩
      exact ⟨_, rfl, Kd.R_nil _ _ _ _ _, hb⟩
    by_cases hp : [39] <+: a0.data.toList
    · have hp2 : Aside0 (strings_CutPrefix.f a0 ⟨#[39]⟩ = some (a0.extract 1 a0.size, true)) := ⟨by
        rw [cutPrefix_q, if_pos hp]; rfl⟩
      have hz : (a0.extract 1 a0.size).size < 4294967281 := by rw [ByteArray.size_extract]; omega
      have hlt := endsAt_lt (a0.extract 1 a0.size) (a0.extract 1 a0.size).size 0
      by_cases he : endsI (a0.extract 1 a0.size) < 0
      · exact no (qread_short a0 _ w hE_ hz hp2 he) (by unfold qOk; rw [decide_eq_false (show ¬ 0 ≤ endsI (a0.extract 1 a0.size) by omega)]; simp)
      · obtain ⟨e1, he1⟩ : ∃ e1 : Nat, (e1 : Int) = endsI (a0.extract 1 a0.size) := ⟨(endsI (a0.extract 1 a0.size)).toNat, by omega⟩
        have he2 : (endsI (a0.extract 1 a0.size)).toNat = e1 := by omega
        have hlt2 : e1 < (a0.extract 1 a0.size).size := by
          have : endsI (a0.extract 1 a0.size) < ((a0.extract 1 a0.size).size : Int) := hlt.1
          omega
        cases hv : Lib.validD ((a0.extract 1 a0.size).extract 0 e1).data.toList with
        | false => exact no (qread_bad a0 _ e1 w hE_ hz hp2 ⟨he1⟩ hlt2 ⟨hv⟩) (by unfold qOk qIn; rw [he2, hv]; simp)
        | true =>
          have hq : qOk a0 = true := by
            unfold qOk qIn
            rw [he2, hv, decide_eq_true hp, decide_eq_true (show 0 ≤ endsI (a0.extract 1 a0.size) by omega)]
            rfl
          rw [if_pos hq] at h
          simp only [Prod.mk.injEq] at h
          obtain ⟨rfl, rfl, rfl⟩ := h
          have hz2 : ((a0.extract 1 a0.size).extract 0 e1).size < 4294967281 := by rw [ByteArray.size_extract]; omega
          unfold qOne qRest qIn
          rw [he2]
          exact qread_yes a0 _ _ e1 w hE_ hz hp2 ⟨he1⟩ hlt2 ⟨hv⟩ ⟨rfl⟩ (Nat.lt_of_le_of_lt (replace_len _ hz2) hz2)
    · exact no (qread_no a0 w hE_ hs hp) (by unfold qOk; rw [decide_eq_false hp]; rfl)
  · cases h
end Go.Proofs.YtmddkjmcbddhiaaDoor.P
