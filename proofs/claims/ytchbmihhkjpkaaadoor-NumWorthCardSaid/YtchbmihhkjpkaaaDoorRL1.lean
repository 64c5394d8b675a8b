/-
  Real numbers' texts: what they say, as a law on lists of bytes. Plain Lean.
-/
import Derived.Test.YtchbmihhkjpkaaaDoorM1
namespace Go.Proofs.YtchbmihhkjpkaaaDoor.M
set_option linter.unusedVariables false
set_option linter.unusedSimpArgs false

/-- An exponent's digits, held at a million. -/
def sat (l : List Int) : Int := l.foldl (fun x c => min 1000000 (10 * x + (c - 48))) 0
def expd (q : List Int) : Option Int := if dig q = 0 ∨ dig q < q.length then none else some (sat q)
/-- What stands behind the digits: nothing, or an exponent. -/
def expo (l : List Int) : Option Int :=
  if l = [] then some 0
  else if l.head? = some 101 ∨ l.head? = some 69 then (if l.tail.head? = some 45 then (expd l.tail.tail).map (- ·) else if l.tail.head? = some 43 then expd l.tail.tail else expd l.tail)
  else none
/-- The digits, without the dot, and the place of the last one; none: it is no number. -/
def worth (l : List Int) : Option (List Int × Int) :=
  if dig l = 0 then none
  else if (l.drop (dig l)).head? = some 46 then
    (if dig (l.drop (dig l)).tail = 0 then none
     else (expo ((l.drop (dig l)).tail.drop (dig (l.drop (dig l)).tail))).map fun x => (l.take (dig l) ++ (l.drop (dig l)).tail.take (dig (l.drop (dig l)).tail), x - dig (l.drop (dig l)).tail))
  else (expo (l.drop (dig l))).map fun x => (l.take (dig l), x)
def noZero (l : List Int) : List Int := l.dropWhile fun c => decide (c = 48)
/-- What a number is worth, by its digits and its place. -/
inductive Val where
  | nan | zero | inf
  | fin (m : List Int) (x : Int)
  deriving DecidableEq
def valOf (m : List Int) (x : Int) : Val :=
  if m = [] then .zero else if (m.length : Int) + x > 400 then .inf else if (m.length : Int) + x < -400 then .zero else if 15 < m.length ∨ x < -22 ∨ 22 < x then .nan else .fin m x
def rval (l : List Int) : Val := match worth l with | none => .nan | some (m, x) => valOf (noZero m) x
theorem dig_zero (l : List Int) : dig (48 :: l) = dig l + 1 := cnt_yes _ (by decide)
theorem dig_app {a : List Int} (h : dig a = a.length) (b : List Int) : dig (a ++ b) = a.length + dig b := cnt_all h b
theorem dig_le' (l : List Int) : dig l ≤ l.length := cnt_le _ _
theorem noZero_zero (l : List Int) : noZero (48 :: l) = noZero l := by unfold noZero; rw [List.dropWhile_cons, if_pos (by decide)]
/-- A 0 ahead of a number's text changes nothing. -/
theorem rval_zero {c : Int} {l : List Int} (h : isDig c = true) : rval (48 :: c :: l) = rval (c :: l) := by
  have hc : dig (c :: l) = dig l + 1 := cnt_yes _ h
  have e1 : dig (48 :: c :: l) = dig (c :: l) + 1 := dig_zero _
  have e2 : (48 :: c :: l).drop (dig (48 :: c :: l)) = (c :: l).drop (dig (c :: l)) := by rw [e1]; rfl
  have e3 : (48 :: c :: l).take (dig (48 :: c :: l)) = 48 :: (c :: l).take (dig (c :: l)) := by rw [e1]; rfl
  unfold rval worth
  rw [e2, e3, if_neg (show ¬ dig (48 :: c :: l) = 0 by omega), if_neg (show ¬ dig (c :: l) = 0 by omega)]
  obtain ⟨r, hr⟩ : ∃ r, (c :: l).drop (dig (c :: l)) = r := ⟨_, rfl⟩
  rw [hr]
  by_cases h1 : r.head? = some 46
  · rw [if_pos h1, if_pos h1]
    by_cases h2 : dig r.tail = 0
    · rw [if_pos h2, if_pos h2]
    · rw [if_neg h2, if_neg h2]
      cases expo (r.tail.drop (dig r.tail)) with
      | none => rfl
      | some x =>
        show valOf (noZero (48 :: ((c :: l).take (dig (c :: l)) ++ r.tail.take (dig r.tail)))) _ = _
        rw [noZero_zero]; rfl
  · rw [if_neg h1, if_neg h1]
    cases expo r with
    | none => rfl
    | some x =>
      show valOf (noZero (48 :: (c :: l).take (dig (c :: l)))) _ = _
      rw [noZero_zero]; rfl
/-- A text that begins by a minus is no number without one. -/
theorem rval_minus (l : List Int) : rval (45 :: l) = .nan := by
  unfold rval worth
  have : dig (45 :: l) = 0 := cnt_no _ (by decide)
  rw [if_pos this]
end Go.Proofs.YtchbmihhkjpkaaaDoor.M
