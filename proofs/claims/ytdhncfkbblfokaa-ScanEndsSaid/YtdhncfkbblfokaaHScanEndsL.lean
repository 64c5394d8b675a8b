/-
  The law ScanEnds, walked: where something ends is no place ahead, nor behind the text; a name is made of bytes that go on.
-/
import Derived.Test.YtdhncfkbblfokaaA4
import Derived.Test.YtdhncfkbblfokaaR4b
namespace Go.Proofs.Ytdhncfkbblfokaa.G
open Go.RowKit Go.Proofs.YtdhncfkbblfokaaW.PrintWords Go.Proofs.Ytdhncfkbblfokaa.M
set_option linter.unusedVariables false
set_option linter.unusedSimpArgs false

theorem bl_stays : ∀ (b : Bool) (l : List Int), bl false (l.drop (bl b l)) = 0
  | b, [] => by rw [bl_nil]; rfl
  | true, c :: l => by
    rw [bl_true]
    split
    · rw [List.drop_succ_cons]; exact bl_stays true l
    · rw [List.drop_succ_cons]; exact bl_stays false l
  | false, c :: l => by
    have hself : bl false (c :: l) = 0 → bl false ((c :: l).drop 0) = 0 := fun h => by rw [List.drop_zero]; exact h
    have hb := bl_false c l
    by_cases h1 : isBl c = true
    · rw [if_pos h1] at hb; rw [hb, List.drop_succ_cons]; exact bl_stays false l
    · rw [if_neg h1] at hb
      by_cases h2 : c = 35
      · rw [if_pos h2] at hb; rw [hb, List.drop_succ_cons]; exact bl_stays true l
      · rw [if_neg h2] at hb
        by_cases h3 : c = 239
        · rw [if_pos h3] at hb
          match l, hb, hself with
          | [], hb, hself => rw [hb]; exact hself hb
          | [x], hb, hself =>
            have hz : bl false [c, x] = 0 := by
              rw [hb]
              split
              · rename_i e; simp at e
              · rfl
            rw [hz]; exact hself hz
          | x :: y :: q, hb, hself =>
            by_cases hxy : x = 187 ∧ y = 191
            · obtain ⟨rfl, rfl⟩ := hxy
              have hb : bl false (c :: 187 :: 191 :: q) = bl false q + 3 := hb
              rw [hb, List.drop_succ_cons, List.drop_succ_cons, List.drop_succ_cons]; exact bl_stays false q
            · have hz : bl false (c :: x :: y :: q) = 0 := by
                rw [hb]
                split
                · rename_i e
                  simp only [List.cons.injEq] at e
                  exact absurd ⟨e.1, e.2.1⟩ hxy
                · rfl
              rw [hz]; exact hself hz
        · rw [if_neg h3] at hb; rw [hb]; exact hself hb
theorem name_word {l : List Int} {k : Nat} (h : k < name l) : ∃ c, l[k]? = some c ∧ isWord c = true := by
  cases l with
  | nil => simp [name] at h
  | cons c l =>
    cases hc : isLet c with
    | false => rw [R.name_no l hc] at h; omega
    | true => rw [R.name_cnt l hc] at h; exact cnt_get h
theorem name_first {l : List Int} (h : 0 < name l) : ∃ c m, l = c :: m ∧ isLet c = true := by
  cases l with
  | nil => simp [name] at h
  | cons c l =>
    cases hc : isLet c with
    | false => rw [R.name_no l hc] at h; omega
    | true => exact ⟨c, l, rfl, hc⟩
theorem name_stop {l : List Int} (h : 0 < name l) : l.drop (name l) = [] ∨ ∃ c m, l.drop (name l) = c :: m ∧ isLet c = false ∧ isDig c = false := by
  obtain ⟨c, m, rfl, hc⟩ := name_first h
  rw [R.name_cnt m hc]
  rcases cnt_stop isWord (c :: m) with h | ⟨x, y, h, hx⟩
  · exact .inl h
  · simp only [isWord, Bool.or_eq_false_iff] at hx
    exact .inr ⟨x, y, h, hx.1, hx.2⟩
theorem bt_get (s : ByteArray) (n k : Nat) (c : Int) (h : (at_ s (n : Int))[k]? = some c) : bt s ((n + k : Nat) : Int) = c ∧ n + k < s.size := by
  unfold at_ at h
  rw [Int.toNat_natCast, List.getElem?_drop] at h
  have hlt : n + k < s.size := by
    have := (List.getElem?_eq_some_iff.1 h).1
    rw [by_length] at this; exact this
  have := bt_by s ((n + k : Nat) : Int) (by rw [Int.toNat_natCast]; exact hlt)
  rw [Int.toNat_natCast, h] at this
  exact ⟨(Option.some.inj this).symm, hlt⟩
theorem bt_head (s : ByteArray) (n : Nat) (c : Int) (m : List Int) (h : at_ s (n : Int) = c :: m) : bt s (n : Int) = c ∧ n < s.size := by
  have := bt_get s n 0 c (by rw [h]; rfl)
  simpa using this
end Go.Proofs.Ytdhncfkbblfokaa.G
