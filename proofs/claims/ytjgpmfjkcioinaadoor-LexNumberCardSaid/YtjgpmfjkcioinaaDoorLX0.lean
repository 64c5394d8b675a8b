/-
  The lexer on lists of bytes: one token. Plain Lean.
-/
import Derived.Test.YtjgpmfjkcioinaaDoorM2
import Derived.Test.YtjgpmfjkcioinaaDoorF2
import Derived.Test.YtjgpmfjkcioinaaDoorF3
import Derived.Test.YtjgpmfjkcioinaaDoorT1
namespace Go.Proofs.YtjgpmfjkcioinaaDoor.M
set_option linter.unusedVariables false
set_option linter.unusedSimpArgs false

def isPun (c : Int) : Bool := [33, 36, 38, 40, 41, 58, 61, 64, 91, 93, 123, 124, 125].any fun p => c == p
def dots3 (l : List Int) : Bool := decide (l.take 3 = [46, 46, 46])
/-- A token, or why there is none (e), and how far it goes. -/
structure LOne where
  k : Int
  t : List Int
  e : Int
  n : Nat
  deriving DecidableEq
def lbad (e : Int) (n : Nat) : LOne := ⟨0, [], e, n⟩
def lexc (c : Int) (r : List Int) : LOne :=
    if c = 46 then (if dots3 (c :: r) = true then ⟨1, (c :: r).take 3, 0, 3⟩ else lbad 2 0)
    else if isPun c = true then ⟨1, (c :: r).take 1, 0, 1⟩
    else if isLet c = true then ⟨2, (c :: r).take (name (c :: r)), 0, name (c :: r)⟩
    else if c = 45 ∨ isDig c = true then (if (lNum (c :: r)).2.2 = true then ⟨(lNum (c :: r)).1, (c :: r).take (lNum (c :: r)).2.1, 0, (lNum (c :: r)).2.1⟩ else lbad 3 (lNum (c :: r)).2.1)
    else if three (c :: r) = true then (if (rawB ((c :: r).drop 3)).1 = true then ⟨5, foldL (rawB ((c :: r).drop 3)).2.1, 0, 3 + (rawB ((c :: r).drop 3)).2.2⟩ else lbad 4 (3 + (rawB ((c :: r).drop 3)).2.2))
    else if c = 34 then (if (strB r).1 = true then ⟨5, (strB r).2.1, 0, 1 + (strB r).2.2⟩ else lbad 4 (1 + (strB r).2.2))
    else lbad 2 0
def lexone : List Int → LOne
  | [] => lbad 2 0
  | c :: r => lexc c r
theorem lexone_cons (c : Int) (r : List Int) : lexone (c :: r) = lexc c r := rfl
theorem raw_text_le (l : List Int) : (rawB l).2.1.length ≤ l.length := by
  refine raw_ind (P := fun l => (rawB l).2.1.length ≤ l.length) ?_ ?_ ?_ ?_ ?_ l.length l (Nat.le_refl _)
  · rw [rawB_nil]; exact Nat.zero_le _
  · intro l h; rw [rawB_end h]; exact Nat.zero_le _
  · intro l h ih
    obtain ⟨m, rfl⟩ := thre4_iff.1 h
    rw [rawB_esc h]
    have hd : (92 :: 34 :: 34 :: 34 :: m : List Int).drop 4 = m := rfl
    rw [hd] at ih ⊢
    unfold radd
    split
    · show ([34, 34, 34] ++ (rawB m).2.1).length ≤ _; simp; omega
    · exact Nat.zero_le _
  · intro l _ h h4 hn; rw [rawB_no h h4 hn]; exact Nat.zero_le _
  · intro l h h4 hn ih
    have hle := nxp_le isc l
    rw [rawB_step h h4 hn]
    rw [List.length_drop] at ih
    unfold radd
    split
    · show (l.take (nxp isc l).2 ++ (rawB (l.drop (nxp isc l).2)).2.1).length ≤ _
      rw [List.length_append, List.length_take]; omega
    · exact Nat.zero_le _
theorem raw_text_all {P : Int → Prop} (h34 : P 34) (l : List Int) : (∀ c ∈ l, P c) → ∀ c ∈ (rawB l).2.1, P c := by
  refine raw_ind (P := fun l => (∀ c ∈ l, P c) → ∀ c ∈ (rawB l).2.1, P c) ?_ ?_ ?_ ?_ ?_ l.length l (Nat.le_refl _)
  · intro _; rw [rawB_nil]; intro c hc; cases hc
  · intro l h _; rw [rawB_end h]; intro c hc; cases hc
  · intro l h ih hl
    obtain ⟨m, rfl⟩ := thre4_iff.1 h
    rw [rawB_esc h]
    have hd : (92 :: 34 :: 34 :: 34 :: m : List Int).drop 4 = m := rfl
    rw [hd] at ih ⊢
    have ih2 := ih (fun c hc => hl c (by simp [hc]))
    unfold radd
    split
    · intro c hc
      rcases List.mem_append.1 hc with hc | hc
      · simp at hc; rw [hc]; exact h34
      · exact ih2 c hc
    · intro c hc; cases hc
  · intro l _ h h4 hn _; rw [rawB_no h h4 hn]; intro c hc; cases hc
  · intro l h h4 hn ih hl
    rw [rawB_step h h4 hn]
    have ih2 := ih (fun c hc => hl c (List.mem_of_mem_drop hc))
    unfold radd
    split
    · intro c hc
      rcases List.mem_append.1 hc with hc | hc
      · exact hl c (List.mem_of_mem_take hc)
      · exact ih2 c hc
    · intro c hc; cases hc
theorem lname_le (l : List Int) : name l ≤ l.length := by
  cases l with
  | nil => exact Nat.le_refl _
  | cons c r =>
    have := cnt_le isWord r
    show (if isLet c = true then cnt isWord r + 1 else 0) ≤ (c :: r).length
    rw [List.length_cons]
    split <;> omega
end Go.Proofs.YtjgpmfjkcioinaaDoor.M
