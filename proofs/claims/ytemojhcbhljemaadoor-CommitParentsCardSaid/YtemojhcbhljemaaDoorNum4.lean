/- The reference's TakeNumber: the number that digits of 10 say. Conditions: the text is at most 2^40 bytes long. -/
import Derived.Test.YtemojhcbhljemaaDoorWords2
import Derived.Test.YtemojhcbhljemaaDoorNum2
import Derived.Lib.IndexBytes
namespace Go.Proofs.YtemojhcbhljemaaDoor
set_option linter.unusedVariables false
set_option linter.unusedSimpArgs false
open Go.RowKit

theorem list_len (s : ByteArray) : s.data.toList.length = s.size := Array.length_toList
theorem list_empty {s : ByteArray} (h : s.size = 0) : s.data.toList = [] := List.eq_nil_of_length_eq_zero (by rw [list_len]; exact h)
theorem list_head {s : ByteArray} (h : 0 < s.size) : s.data.toList.head? = some (s[0]'h) := by rw [List.head?_eq_getElem?]; exact Lib.data_getElem? s 0 h
theorem empty_false {s : ByteArray} (h : 0 < s.size) : s.toList.isEmpty = false := by
  rw [ByteArray.toList_eq]
  cases hl : s.data.toList with
  | nil => have := list_len s; rw [hl] at this; simp at this; omega
  | cons a b => rfl
theorem empty_true {s : ByteArray} (h : s.size = 0) : s.toList.isEmpty = true := by rw [ByteArray.toList_eq, list_empty h]; rfl
theorem takeV_R {l : List UInt8} (h : l ≠ []) : takeV l = match Pure.takeR l with
    | some v => .tuple #[.int .i64 v, .int .i64 0]
    | none => .tuple #[.int .i64 0, .int .i64 4] := by unfold takeV; rw [if_neg h, Pure.take_same]; cases Pure.takeN l <;> rfl
theorem takeV_none {l : List UInt8} (h : l ≠ []) (hn : Pure.takeR l = none) : takeV l = .tuple #[.int .i64 0, .int .i64 4] := by rw [takeV_R h, hn]
theorem takeV_some {l : List UInt8} {v : Int} (h : l ≠ []) (hn : Pure.takeR l = some v) : takeV l = .tuple #[.int .i64 v, .int .i64 0] := by rw [takeV_R h, hn]
theorem ret_two {a b : Int} (h : a = b) : Ending.returned (.tuple #[.int .i64 a, .int .i64 0]) = .returned (.tuple #[.int .i64 b, .int .i64 0]) := by rw [h]
theorem pow_grow {a k d : Nat} (h : a < 10 ^ k) (hd : d < 10) : a * 10 + d < 10 ^ (k + 1) := by rw [Nat.pow_succ]; omega
theorem pow_19 {a k : Nat} (h : a < 10 ^ k) (hk : k ≤ 19) : a < 10000000000000000000 := Nat.lt_of_lt_of_le h (Nat.pow_le_pow_right (by decide) hk)

end Go.Proofs.YtemojhcbhljemaaDoor
