/-
  The lexer on lists of bytes: all tokens. Plain Lean.
-/
import Derived.Test.YtjgpmfjkcioinaaDoorLX0
namespace Go.Proofs.YtjgpmfjkcioinaaDoor.M
set_option linter.unusedVariables false
set_option linter.unusedSimpArgs false

theorem strB_le : ∀ (n : Nat) (l : List Int), l.length ≤ n → (strB l).1 = true → (strB l).2.2 ≤ l.length := by
  intro n l hl h
  obtain ⟨b, m, _, h2, h3⟩ := (strB_tells n l hl).1 h
  rw [h3]
  have := congrArg List.length h2
  rw [List.length_append, List.length_cons] at this
  omega
theorem num_pos {c : Int} {r : List Int} (h : (lNum (c :: r)).2.2 = true) : 0 < (lNum (c :: r)).2.1 := by
  rw [lNum_cons] at h ⊢
  by_cases h45 : c = 45
  · rw [if_pos h45]; show 0 < 1 + _; omega
  · rw [if_neg h45] at h ⊢
    rw [lInt_cons] at h ⊢
    by_cases h48 : c = 48
    · rw [if_pos h48]; show 0 < 1 + _; omega
    · rw [if_neg h48] at h ⊢
      unfold lDigs at h ⊢
      by_cases hd : 0 < dig (c :: r)
      · rw [if_pos hd]; show 0 < dig (c :: r) + _; omega
      · rw [if_neg hd] at h; cases h
/-- A token goes on, and not too far. -/
theorem one_step {l : List Int} (h : (lexone l).e = 0) : 0 < (lexone l).n ∧ (lexone l).n ≤ l.length := by
  cases l with
  | nil => cases h
  | cons c r =>
    have hl : (c :: r).length = r.length + 1 := rfl
    rw [lexone_cons] at h ⊢
    unfold lexc at h ⊢
    by_cases h46 : c = 46
    · rw [if_pos h46] at h ⊢
      by_cases hd : dots3 (c :: r) = true
      · rw [if_pos hd]
        have h4 := congrArg List.length (of_decide_eq_true hd)
        rw [List.length_take] at h4
        simp at h4
        exact ⟨by show 0 < 3; decide, by show 3 ≤ _; rw [hl]; omega⟩
      · rw [if_neg hd] at h; cases h
    rw [if_neg h46] at h ⊢
    by_cases hp : isPun c = true
    · rw [if_pos hp]; exact ⟨by show 0 < 1; decide, by show 1 ≤ _; rw [hl]; omega⟩
    rw [if_neg hp] at h ⊢
    by_cases hL : isLet c = true
    · rw [if_pos hL]
      refine ⟨?_, by show name (c :: r) ≤ _; exact lname_le _⟩
      show 0 < (if isLet c = true then cnt isWord r + 1 else 0)
      rw [if_pos hL]; omega
    rw [if_neg hL] at h ⊢
    by_cases hn : c = 45 ∨ isDig c = true
    · rw [if_pos hn] at h ⊢
      by_cases hq : (lNum (c :: r)).2.2 = true
      · rw [if_pos hq]; exact ⟨num_pos hq, short_num _⟩
      · rw [if_neg hq] at h; cases h
    rw [if_neg hn] at h ⊢
    by_cases h3 : three (c :: r) = true
    · rw [if_pos h3] at h ⊢
      by_cases hq : (rawB ((c :: r).drop 3)).1 = true
      · rw [if_pos hq]
        have h1 := (rawB_own _ hq).2.1
        obtain ⟨m, hm⟩ := three_iff.1 h3
        have hm2 := congrArg List.length hm
        rw [List.length_drop] at h1
        simp only [List.length_cons] at hm2
        refine ⟨by show 0 < 3 + _; omega, ?_⟩
        show 3 + (rawB ((c :: r).drop 3)).2.2 ≤ (c :: r).length
        rw [hl] at h1 ⊢; omega
      · rw [if_neg hq] at h; cases h
    rw [if_neg h3] at h ⊢
    by_cases h34 : c = 34
    · rw [if_pos h34] at h ⊢
      by_cases hq : (strB r).1 = true
      · rw [if_pos hq]
        have := strB_le _ r (Nat.le_refl _) hq
        refine ⟨by show 0 < 1 + _; omega, ?_⟩
        show 1 + (strB r).2.2 ≤ (c :: r).length
        rw [hl]; omega
      · rw [if_neg hq] at h; cases h
    · rw [if_neg h34] at h; cases h
/-- All tokens from a place on, where no blank stands; the last one may be none. -/
def tks (l : List Int) (k : Nat) : List (LOne × Nat) :=
  if hl : l = [] then []
  else if he : (lexone l).e = 0 then (lexone l, k) :: tks ((l.drop (lexone l).n).drop (bl false (l.drop (lexone l).n))) (k + (lexone l).n + bl false (l.drop (lexone l).n))
  else [(lexone l, k)]
termination_by l.length
decreasing_by
  have := one_step he
  rw [List.length_drop, List.length_drop]; omega
theorem tks_nil (k : Nat) : tks [] k = [] := by rw [tks, dif_pos rfl]
theorem tks_bad {l : List Int} (k : Nat) (hl : l ≠ []) (he : (lexone l).e ≠ 0) : tks l k = [(lexone l, k)] := by rw [tks, dif_neg hl, dif_neg he]
theorem tks_step {l : List Int} (k : Nat) (hl : l ≠ []) (he : (lexone l).e = 0) : tks l k = (lexone l, k) :: tks ((l.drop (lexone l).n).drop (bl false (l.drop (lexone l).n))) (k + (lexone l).n + bl false (l.drop (lexone l).n)) := by
  conv => lhs; rw [tks]
  rw [dif_neg hl, dif_pos he]
/-- All steps of a text. -/
def stepsL (l : List Int) : List (LOne × Nat) := tks (l.drop (bl false l)) (bl false l)
theorem tks_length : ∀ (n : Nat) (l : List Int) (k : Nat), l.length ≤ n → (tks l k).length ≤ l.length
  | 0, l, k, h => by rw [List.eq_nil_of_length_eq_zero (Nat.le_zero.1 h), tks_nil]; exact Nat.le_refl _
  | n + 1, l, k, h => by
    by_cases hl : l = []
    · rw [hl, tks_nil]; exact Nat.le_refl _
    have hp := List.length_pos_iff.2 hl
    by_cases he : (lexone l).e = 0
    · have h1 := one_step he
      have := tks_length n ((l.drop (lexone l).n).drop (bl false (l.drop (lexone l).n))) (k + (lexone l).n + bl false (l.drop (lexone l).n)) (by rw [List.length_drop, List.length_drop]; omega)
      rw [tks_step k hl he, List.length_cons]
      rw [List.length_drop, List.length_drop] at this
      omega
    · rw [tks_bad k hl he]; exact hp
theorem stepsL_length (l : List Int) : (stepsL l).length ≤ l.length := by
  have := tks_length _ (l.drop (bl false l)) (bl false l) (Nat.le_refl _)
  rw [List.length_drop] at this
  unfold stepsL; omega
/-- What Lex answers: the tokens, or why not, and where. -/
def lexL (l : List Int) : List (LOne × Nat) × Int × Int :=
  match (stepsL l).find? (fun x => decide (x.1.e ≠ 0)) with
  | some x => ([], x.1.e, (x.2 : Int) + x.1.n)
  | none => (stepsL l, 0, (l.length : Int))
theorem lexL_bad {l : List Int} {ys : List (LOne × Nat)} {x : LOne × Nat} (h : ys ++ [x] <+: stepsL l) (hy : ∀ y ∈ ys, y.1.e = 0) (hx : x.1.e ≠ 0) : lexL l = ([], x.1.e, (x.2 : Int) + x.1.n) := by
  obtain ⟨r, hr⟩ := h
  unfold lexL
  have : (stepsL l).find? (fun x => decide (x.1.e ≠ 0)) = some x := by
    rw [← hr, List.append_assoc, List.find?_append]
    have h1 : ys.find? (fun x => decide (x.1.e ≠ 0)) = none := by
      rw [List.find?_eq_none]; intro y hy2; simp [hy y hy2]
    rw [h1, Option.none_or, List.singleton_append, List.find?_cons_of_pos (by simp [hx])]
  rw [this]
theorem lexL_good {l : List Int} (h : ∀ y ∈ stepsL l, y.1.e = 0) : lexL l = (stepsL l, 0, (l.length : Int)) := by
  unfold lexL
  have : (stepsL l).find? (fun x => decide (x.1.e ≠ 0)) = none := by
    rw [List.find?_eq_none]; intro y hy2; simp [h y hy2]
  rw [this]
end Go.Proofs.YtjgpmfjkcioinaaDoor.M
