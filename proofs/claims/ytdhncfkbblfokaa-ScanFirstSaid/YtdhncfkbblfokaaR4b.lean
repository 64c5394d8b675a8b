/-
  Small facts for the laws of the scanner.
-/
import Derived.Test.YtdhncfkbblfokaaR4
namespace Go.Proofs.Ytdhncfkbblfokaa.R
open Go.RowKit Go.Proofs.YtdhncfkbblfokaaW.PrintWords Go.Proofs.YtdhncfkbblfokaaW.PrintLast Go.Proofs.Ytdhncfkbblfokaa.M Go.Proofs.Ytdhncfkbblfokaa.G Go.Proofs.Ytdhncfkbblfokaa.Q
set_option linter.unusedVariables false
set_option linter.unusedSimpArgs false

theorem nameEnd_zero (s : ByteArray) : nameEnd s 0 = name (by_ s) := by
  unfold nameEnd; rw [if_pos ⟨by omega, by omega⟩, at_zero]; omega
theorem upto_zero (q : Int → Bool) (s : ByteArray) : G.upto q s 0 = cnt q (by_ s) := by
  unfold G.upto; rw [if_pos ⟨by omega, by omega⟩, at_zero]; omega
theorem blank_zero (s : ByteArray) : G.blank s 0 = bl false (by_ s) := by
  unfold G.blank; rw [if_pos ⟨by omega, by omega⟩, at_zero]; omega
theorem nameF (s : ByteArray) (h : s.size ≤ 1000000) : scan_Name.f s 0 = some (name (by_ s) : Int) := by
  rw [← nameEnd_zero]; exact if_pos h
theorem digitsF (s : ByteArray) (h : s.size ≤ 1000000) : scan_Digits.f s 0 = some (cnt isDig (by_ s) : Int) := by
  rw [← upto_zero]; exact if_pos h
theorem blankF (s : ByteArray) (h : s.size ≤ 1000000) : scan_Blank.f s 0 = some (bl false (by_ s) : Int) := by
  rw [← blank_zero]; exact if_pos h
theorem name_cnt {c : Int} (l : List Int) (h : isLet c = true) : name (c :: l) = cnt isWord (c :: l) := by
  rw [cnt_yes _ (by simp [isWord, h])]; simp [name, h]
theorem name_no {c : Int} (l : List Int) (h : isLet c = false) : name (c :: l) = 0 := by simp [name, h]
theorem name_le (l : List Int) : name l ≤ l.length := by
  cases l with
  | nil => simp [name]
  | cons c l =>
    cases h : isLet c with
    | true => rw [name_cnt l h]; exact cnt_le _ _
    | false => rw [name_no l h]; omega
theorem name_joins (a b : List Int) (ha : a ≠ []) (h : name a = a.length) : name (a ++ b) + 1 = a.length + name (97 :: b) := by
  cases a with
  | nil => exact absurd rfl ha
  | cons c l =>
    cases hc : isLet c with
    | false => rw [name_no l hc] at h; simp at h
    | true =>
      rw [name_cnt l hc] at h
      rw [List.cons_append, name_cnt _ hc, ← List.cons_append, cnt_all h, name_cnt b (by decide), cnt_yes b (by decide)]
      omega
theorem toList_nil (s : ByteArray) : s.toList = ([] : List UInt8) ↔ by_ s = [] := by
  rw [Lib.toList_data]
  unfold by_
  rw [List.map_eq_nil_iff]
end Go.Proofs.Ytdhncfkbblfokaa.R
