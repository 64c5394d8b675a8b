/-
  The law KindPlace over what its text computes: plain Lean, no program's walk in sight.
-/
import Derived.Test.YthbphgchnloipaaDoorQ3
import Derived.Test.YthbphgchnloipaaDoorPB
namespace Go.Proofs.YthbphgchnloipaaDoor.G
open Go.RowKit Go.Proofs.YthbphgchnloipaaDoor.Q Go.Proofs.YthbphgchnloipaaDoorW.PrintWords Go.Proofs.YthbphgchnloipaaDoorW.PrintLast Go.Proofs.YthbphgchnloipaaDoor.M
set_option linter.unusedVariables false
set_option linter.unusedSimpArgs false

theorem kindPlace_pure (k : Int) (s : ByteArray) (a b c d : Int) : copperplatelaw10_KindPlace.f 11 k s a b c d = some true := by
  unfold copperplatelaw10_KindPlace.f
  rw [awake10 11 (by omega)]
  simp only [kind_Of.f, Option.bind_some, in_eq, if_true]
  have hI : inB 0 (kOf k s) = (k == 2) := by
    show isName (kOf k s) = _
    by_cases h2 : k = 2
    · subst h2; exact (decide_eq_true (of_name s)).trans rfl
    · have hne : (k == 2) = false := by simpa using h2
      rw [hne]
      unfold isName
      apply decide_eq_false
      unfold kOf
      have := kFind_zero s
      by_cases h1 : k = 1
      · rw [if_pos h1]; omega
      · rw [if_neg h1, if_neg h2]
        repeat' split
        all_goals omega
  have h0 : k < 1 ∨ k > 5 → kOf k s = 0 := by
    intro h
    unfold kOf
    rw [if_neg (by omega), if_neg (by omega), if_neg (by omega), if_neg (by omega), if_neg (by omega)]
  rw [hI]
  by_cases h1 : k < 1
  · rw [if_pos h1, if_pos (h0 (.inl h1))]; simp
  · rw [if_neg h1]
    by_cases h5 : k > 5
    · rw [if_pos h5, if_pos (h0 (.inr h5))]; simp
    · rw [if_neg h5]; simp

theorem copperplatelaw10_KindPlace.walk (k : Int) (s : ByteArray) (a b a1 a2 : Int) (w : World) (hL : LW w) :
    Calls Tryd.prog 7 #[.agg #[.int .i64 k, .string s, .int .i64 a, .int .i64 b], .int .i64 a1, .int .i64 a2] w fun e w' => e = .returned (.bool true) ∧ Below w.heap.size w w' :=
  Q.copperplatelaw10_KindPlace.calls 11 k s a b a1 a2 true w (kindPlace_pure k s a b a1 a2) hL
end Go.Proofs.YthbphgchnloipaaDoor.G
