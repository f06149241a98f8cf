/-
  Plain: the small case of the statements on quotes. No memory in sight.
-/
import Derived.Test.YtmddkjmcbddhiaaDoorQe
import Derived.Test.YtmddkjmcbddhiaaDoorP7
namespace Go.Proofs.YtmddkjmcbddhiaaDoor.P
open Go.RowKit Go.Proofs.YtmddkjmcbddhiaaDoorW.PrintWords Go.Proofs.YtmddkjmcbddhiaaDoor.Q
set_option linter.unusedVariables false
set_option linter.unusedSimpArgs false

theorem small13_ev : Ev (fun k => decklelaw13_small.f k) true := by
  obtain ⟨K, hK⟩ := sameI_self [97, 39] (by decide)
  have t1 := quote_Text_yes (l := [97, 39, 8592]) (by decide) (by decide)
  have t2 := quote_Text_no (l := [55296]) (by decide) (by decide)
  have t3 := quote_Text_yes (l := []) (by decide) (by decide)
  have r1 := quote_Read_yes (s := ⟨#[39, 97, 39, 39, 39, 120]⟩) (ls := [97, 39]) (r := [120]) (by decide) (by decide) (by decide) (by intro u h; cases h)
  have r2 := quote_Read_yes (s := ⟨#[39, 39]⟩) (ls := []) (r := []) (by decide) (by decide) (by decide) (by intro u h; cases h)
  have r3 := quote_Read_no (s := ⟨#[39, 97]⟩) (by decide) (by kernel_rfl)
  have r4 := quote_Read_no (s := ⟨#[39, 97, 39, 39]⟩) (by decide) (by kernel_rfl)
  have r5 := quote_Read_no (s := ⟨#[39, 255, 39]⟩) (by decide) (by kernel_rfl)
  refine ⟨K, fun k hk => ?_⟩
  have e1 : deckleref01_Same.f k [97, 39] [97, 39] = some true := hK k hk
  have q1 : qText [97, 39, 8592] = [39, 97, 39, 39, 226, 134, 144, 39] := by decide
  have q3 : qText [] = [39, 39] := by decide
  show decklelaw13_small.f k = _
  unfold decklelaw13_small.f
  simp only [t1, t2, t3, r1, r2, r3, r4, r5, Option.bind_some, ByteArray.toList_eq, q1, q3, e1]
  rfl
theorem bt_head {s : ByteArray} {c : UInt8} {t : List UInt8} (h : s.data.toList = c :: t) : bt s 0 = (c.toNat : Int) := by
  have hs : 0 < s.size := by rw [← length_dataR, h]; simp
  have h2 := data_get s 0 hs
  rw [List.drop_zero, h] at h2
  unfold bt
  rw [dif_pos (by exact hs)]
  have := (List.cons.inj h2).1
  rw [this]
  rfl
theorem app_data (a b : ByteArray) : (a ++ b).data.toList = a.data.toList ++ b.data.toList := by simp
theorem qText_len (ls : List Int) : (qText ls).length = 2 + (ls.flatMap qEnc).length := by
  unfold qText
  simp only [List.length_append, List.length_cons, List.length_nil]
  omega
theorem wrap1 {i m : Nat} (h : m = i + 1) (hm : m ≤ 4611686018427387904) : wrap64 ((i : Int) + 1) = (m : Int) := by unfold wrap64; omega
end Go.Proofs.YtmddkjmcbddhiaaDoor.P
