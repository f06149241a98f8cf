/-
  The walk of quote.Text: signs in quotes. Condition: no more than 2^40 numbers.
  Plain: signs in quotes: quotes doubled (esc), halved (unq), where they end; strings.ReplaceAll of two quotes by one is unq. No program in sight.
  The walks of quote.ends and quote.Read: signs in quotes are read. Condition: the text has fewer than 2^32 - 15 bytes.
  Plain: signs and their bytes: what is encoded is decoded as it was, and what quote.Read comes to over lists of bytes. No memory in sight.
-/
import Derived.Test.YtmddkjmcbddhiaaDoorGLibKQ
import Derived.Test.YtmddkjmcbddhiaaDoorP0KQ
import Derived.Lib.OthersKept
import Derived.Lib.Replace
import Derived.Lib.MapLaws
import Derived.Lib.RuneBytes
import Derived.Test.YtmddkjmcbddhiaaDoorGTakeKQ
import Derived.Deep.QuietTactic
import Derived.BigQuiet
import Derived.IntWalk
section
namespace Go.Proofs.YtmddkjmcbddhiaaDoor.P
open Go.RowKit Go.Proofs.YtmddkjmcbddhiaaDoorW.PrintWords
set_option linter.unusedVariables false
set_option linter.unusedSimpArgs false

/-- Is a number a sign's? -/
def signB (n : Int) : Bool := decide (0 ≤ n ∧ n ≤ 1114111 ∧ ¬ (55296 ≤ n ∧ n ≤ 57343))
/-- A sign's bytes in quotes. -/
def qEnc (n : Int) : List UInt8 := if n = 39 then [39, 39] else Lib.encodeRune n
def qText (l : List Int) : List UInt8 := 39 :: l.flatMap qEnc ++ [39]
/-- What quote.Text comes to. -/
def qRes (l : List Int) : ByteArray × Bool := if l.all signB = true then (⟨(qText l).toArray⟩, true) else (⟨#[]⟩, false)
theorem rd_get (l : List Int) (k : Nat) (h : k < l.length) : rd l (k : Int) = l[k] := by
  unfold rd
  rw [Int.toNat_natCast, List.getD_eq_getElem?_getD, List.getElem?_eq_getElem h, Option.getD_some]
def quote_Text.f (l0 : List Int) : Option (ByteArray × Bool) := if l0.length ≤ 1099511627776 then some (qRes l0) else none
end Go.Proofs.YtmddkjmcbddhiaaDoor.P
end
section
namespace Go.Proofs.YtmddkjmcbddhiaaDoor.Q
set_option linter.unusedVariables false
set_option linter.unusedSimpArgs false

/-- Two quotes made one. -/
def unq : List UInt8 → List UInt8
  | [] => []
  | [c] => [c]
  | c :: d :: t => if c = 39 ∧ d = 39 then 39 :: unq t else c :: unq (d :: t)
/-- Every quote doubled. -/
def esc : List UInt8 → List UInt8
  | [] => []
  | c :: t => if c = 39 then 39 :: 39 :: esc t else c :: esc t
/-- Where signs end: the place of the first quote that no quote follows, quotes taken in twos; none: nowhere. -/
def endsL : List UInt8 → Option Nat
  | [] => none
  | [c] => if c = 39 then some 0 else none
  | c :: d :: t => if c = 39 then (if d = 39 then (endsL t).map (· + 2) else some 0) else (endsL (d :: t)).map (· + 1)
end Go.Proofs.YtmddkjmcbddhiaaDoor.Q
end
section
namespace Go.Proofs.YtmddkjmcbddhiaaDoor.P
open Go.RowKit Go.Proofs.YtmddkjmcbddhiaaDoorW.PrintWords
set_option linter.unusedVariables false
set_option linter.unusedSimpArgs false

/-- Where signs end that begin at place k; -1: nowhere. -/
def endsAt (s : ByteArray) : Nat → Nat → Int
  | 0, _ => -1
  | b + 1, k => if h : k < s.size then (if s[k].toNat ≠ 39 then endsAt s b (k + 1) else if h2 : k + 1 < s.size then (if s[k + 1].toNat ≠ 39 then (k : Int) else endsAt s b (k + 2)) else (k : Int)) else -1
def endsI (s : ByteArray) : Int := endsAt s s.size 0
theorem length_dataR (s : ByteArray) : s.data.toList.length = s.size := by rw [Array.length_toList]; rfl
/-- The runes of a text, read from place pos on, by at most b runes. -/
def runesFrom (s : ByteArray) : Nat → Nat → List Int
  | 0, _ => []
  | b + 1, pos => if pos < s.size then ((Utf8.decode s pos).1 : Int) :: runesFrom s b (pos + (Utf8.decode s pos).2) else []
def runesOf (s : ByteArray) : List Int := runesFrom s s.size 0
/-- What quote.Read comes to. -/
def qIn (s : ByteArray) : ByteArray := (s.extract 1 s.size).extract 0 (endsI (s.extract 1 s.size)).toNat
def qRest (s : ByteArray) : ByteArray := (s.extract 1 s.size).extract ((endsI (s.extract 1 s.size)).toNat + 1) (s.extract 1 s.size).size
def qOne (s : ByteArray) : ByteArray := ⟨(Lib.replaceAll (qIn s).data.toList [39, 39] [39]).toArray⟩
def qOk (s : ByteArray) : Bool := decide ([39] <+: s.data.toList) && (decide (0 ≤ endsI (s.extract 1 s.size)) && Lib.validD (qIn s).data.toList)
def quote_Read.f (s : ByteArray) : Option (List Int × ByteArray × Bool) :=
  if s.size < 4294967281 then some (if qOk s = true then (runesOf (qOne s), qRest s, true) else ([], ⟨#[]⟩, false)) else none
end Go.Proofs.YtmddkjmcbddhiaaDoor.P
end
section
namespace Go.Proofs.YtmddkjmcbddhiaaDoor.P
open Go.RowKit Go.Proofs.YtmddkjmcbddhiaaDoorW.PrintWords Go.Proofs.YtmddkjmcbddhiaaDoor.Q
set_option linter.unusedVariables false
set_option linter.unusedSimpArgs false

theorem tb {z : Int} {k : Nat} (h : z = (k : Int)) (hk : k < 256) : (z.toNat.toUInt8).toNat = k := by
  subst h
  rw [Int.toNat_natCast]
  show (UInt8.ofNat k).toNat = k
  rw [UInt8.toNat_ofNat']
  omega
theorem signB_iff (n : Int) : signB n = true ↔ 0 ≤ n ∧ n ≤ 1114111 ∧ ¬ (55296 ≤ n ∧ n ≤ 57343) := by
  unfold signB
  exact decide_eq_true_iff
/-- What is encoded is decoded as it was. -/
theorem dec_enc {n : Int} (h : signB n = true) (t : List UInt8) : Lib.decodeL (Lib.encodeRune n ++ t) = (n.toNat, (Lib.encodeRune n).length) := by
  obtain ⟨h0, h1, h2⟩ := (signB_iff n).1 h
  obtain ⟨m, rfl⟩ : ∃ m : Nat, n = (m : Int) := ⟨n.toNat, by omega⟩
  unfold Lib.encodeRune
  rw [Int.toNat_natCast]
  by_cases c1 : m ≤ 127
  · rw [Lib.encodeRuneZ_one (by omega) (by omega)]
    simp only [List.map_cons, List.map_nil, List.cons_append, List.nil_append, List.length_cons, List.length_nil]
    have e0 := tb (z := (m : Int)) (k := m) rfl (by omega)
    rw [Lib.decodeL_ascii _ _ (by rw [e0]; omega), e0]
  · by_cases c2 : m ≤ 2047
    · rw [Lib.encodeRuneZ_two (by omega) (by omega), Lib.decodeL_N]
      simp only [List.map_cons, List.map_nil, List.cons_append, List.nil_append, List.length_cons, List.length_nil, List.getD_cons_zero, List.getD_cons_succ]
      rw [tb (z := 192 + (m : Int) / 64) (k := 192 + m / 64) (by omega) (by omega), tb (z := 128 + (m : Int) % 64) (k := 128 + m % 64) (by omega) (by omega)]
      unfold Lib.decodeN
      rw [if_neg (by omega), if_pos (by omega), if_pos (by omega)]
      congr 1
      omega
    · by_cases c3 : m ≤ 65535
      · rw [Lib.encodeRuneZ_three (by omega), Lib.decodeL_N]
        simp only [List.map_cons, List.map_nil, List.cons_append, List.nil_append, List.length_cons, List.length_nil, List.getD_cons_zero, List.getD_cons_succ]
        rw [tb (z := 224 + (m : Int) / 4096) (k := 224 + m / 4096) (by omega) (by omega), tb (z := 128 + (m : Int) / 64 % 64) (k := 128 + m / 64 % 64) (by omega) (by omega), tb (z := 128 + (m : Int) % 64) (k := 128 + m % 64) (by omega) (by omega)]
        have e : (224 + m / 4096) % 16 * 4096 + (128 + m / 64 % 64) % 64 * 64 + (128 + m % 64) % 64 = m := by omega
        unfold Lib.decodeN
        rw [if_neg (by omega), if_neg (by omega), if_pos (by omega), e, if_pos (by omega)]
      · rw [Lib.encodeRuneZ_four (by omega) (by omega), Lib.decodeL_N]
        simp only [List.map_cons, List.map_nil, List.cons_append, List.nil_append, List.length_cons, List.length_nil, List.getD_cons_zero, List.getD_cons_succ]
        rw [tb (z := 240 + (m : Int) / 262144) (k := 240 + m / 262144) (by omega) (by omega), tb (z := 128 + (m : Int) / 4096 % 64) (k := 128 + m / 4096 % 64) (by omega) (by omega), tb (z := 128 + (m : Int) / 64 % 64) (k := 128 + m / 64 % 64) (by omega) (by omega), tb (z := 128 + (m : Int) % 64) (k := 128 + m % 64) (by omega) (by omega)]
        have e : (240 + m / 262144) % 8 * 262144 + (128 + m / 4096 % 64) % 64 * 4096 + (128 + m / 64 % 64) % 64 * 64 + (128 + m % 64) % 64 = m := by omega
        unfold Lib.decodeN
        rw [if_neg (by omega), if_neg (by omega), if_neg (by omega), if_pos (by omega), e, if_pos (by omega)]
/-- What is decoded is a sign. -/
theorem dec_sign {l : List UInt8} (hne : l ≠ []) (hv : ¬ ((Lib.decodeL l).1 = 65533 ∧ (Lib.decodeL l).2 = 1)) : signB ((Lib.decodeL l).1 : Int) = true := by
  rw [signB_iff]
  rw [Lib.decodeL_N] at hv ⊢
  have k0 := (l.getD 0 0).toNat_lt
  have k1 := (l.getD 1 0).toNat_lt
  have k2 := (l.getD 2 0).toNat_lt
  have k3 := (l.getD 3 0).toNat_lt
  rcases Lib.decodeN_shape l.length (l.getD 0 0).toNat (l.getD 1 0).toNat (l.getD 2 0).toNat (l.getD 3 0).toNat with ⟨c, e⟩ | ⟨c1, c2, c3, cv, e⟩ | ⟨c1, c2, c3, c4, cv, cs, e⟩ | ⟨c1, c2, c3, c4, c5, cv, cw, e⟩ | e
  · rw [e]; dsimp only; omega
  · rw [e]; dsimp only; omega
  · rw [e]; dsimp only; omega
  · rw [e]; dsimp only
    refine ⟨by omega, by omega, ?_⟩
    omega
  · rw [e] at hv
    exact absurd ⟨rfl, rfl⟩ hv
/-- The bytes of signs. -/
def utf8 (ls : List Int) : List UInt8 := ls.flatMap Lib.encodeRune
theorem utf8_cons (n : Int) (ls : List Int) : utf8 (n :: ls) = Lib.encodeRune n ++ utf8 ls := by simp [utf8]
theorem enc_pos (n : Int) : 1 ≤ (Lib.encodeRune n).length := by
  have := (Lib.runeCells_le n).1
  rw [Lib.runeCells_length] at this
  exact this
theorem enc_ne (n : Int) (t : List UInt8) : Lib.encodeRune n ++ t ≠ [] := by
  intro h
  have h1 := congrArg List.length h
  rw [List.length_append] at h1
  have := enc_pos n
  simp only [List.length_nil] at h1
  omega
theorem dec_ok {n : Int} (h : signB n = true) (t : List UInt8) : ¬ ((Lib.decodeL (Lib.encodeRune n ++ t)).1 = 65533 ∧ (Lib.decodeL (Lib.encodeRune n ++ t)).2 = 1) := by
  rw [dec_enc h]
  rintro ⟨h1, h2⟩
  have h1 : n.toNat = 65533 := h1
  have h2 : (Lib.encodeRune n).length = 1 := h2
  obtain ⟨h0, _, _⟩ := (signB_iff n).1 h
  have e : n = 65533 := by omega
  rw [e] at h2
  revert h2
  decide
theorem valid_utf8 : ∀ (ls : List Int) (n : Nat), ls.all signB = true → (utf8 ls).length ≤ n → Lib.validGoD n (utf8 ls) = true
  | [], 0, _, _ => rfl
  | [], n + 1, _, _ => by simp [Lib.validGoD, utf8]
  | x :: t, 0, _, hn => by
    rw [utf8_cons, List.length_append] at hn
    have := enc_pos x
    omega
  | x :: t, n + 1, h, hn => by
    rw [List.all_cons, Bool.and_eq_true] at h
    rw [utf8_cons] at hn ⊢
    rw [Lib.validGoD, if_neg (enc_ne _ _), if_neg (dec_ok h.1 _), dec_enc h.1, List.drop_left]
    refine valid_utf8 t n h.2 ?_
    rw [List.length_append] at hn
    have := enc_pos x
    omega
theorem utf8_of_valid : ∀ (n : Nat) (u : List UInt8), u.length ≤ n → Lib.validGoD n u = true → ∃ ls, ls.all signB = true ∧ u = utf8 ls
  | 0, u, hn, _ => ⟨[], rfl, by cases u with | nil => rfl | cons => simp at hn⟩
  | n + 1, u, hn, h => by
    by_cases hz : u = []
    · exact ⟨[], rfl, hz⟩
    · rw [Lib.validGoD, if_neg hz] at h
      split at h
      · cases h
      · rename_i hv
        have hw := Lib.decodeL_width u
        obtain ⟨ls, h1, h2⟩ := utf8_of_valid n (u.drop (Lib.decodeL u).2) (by rw [List.length_drop]; omega) h
        refine ⟨((Lib.decodeL u).1 : Int) :: ls, by rw [List.all_cons, dec_sign hz hv, h1]; rfl, ?_⟩
        rw [utf8_cons, ← h2, Lib.encode_decode u hz hv, List.take_append_drop]
theorem valid_iff (u : List UInt8) : Lib.validD u = true ↔ ∃ ls, ls.all signB = true ∧ u = utf8 ls :=
  ⟨fun h => utf8_of_valid _ u (Nat.le_refl _) h, fun ⟨ls, h1, h2⟩ => by rw [h2]; exact valid_utf8 ls _ h1 (Nat.le_refl _)⟩
end Go.Proofs.YtmddkjmcbddhiaaDoor.P
end
