/-
  The law TextJoins, over what its text computes.
-/
import Derived.Test.YtcebkppagamjiaaDoorPD1
import Derived.Test.YtcebkppagamjiaaDoorQ2
namespace Go.Proofs.YtcebkppagamjiaaDoor.G
open Go.RowKit Go.Proofs.YtcebkppagamjiaaDoor.Q Go.Proofs.YtcebkppagamjiaaDoorW.PrintWords Go.Proofs.YtcebkppagamjiaaDoor.M
set_option linter.unusedVariables false
set_option linter.unusedSimpArgs false

theorem it_len {e t : List Int} (h : It e t) : t.length ≤ 4 * e.length := by
  cases h with
  | esc _ h h0 =>
    have hp := List.length_pos_iff.2 h0
    obtain ⟨r, hr, e1, _⟩ := esc_some (l := e) (by omega)
    rw [e1]; have := enc_len r; omega
  | plain r h _ _ _ _ => omega
theorem str_len {b t : List Int} (h : Str b t) : t.length ≤ 4 * b.length := by
  induction h with
  | nil => simp
  | cons hi _ ih => have := it_len hi; rw [List.length_append, List.length_append]; omega
theorem str_zero {s : ByteArray} (h : StB s 0 = true) : ∃ b m t, Str b t ∧ by_ s = 34 :: (b ++ 34 :: m) ∧ strAt s 0 = (true, t, ((b.length + 2 : Nat) : Int)) ∧ s.size = b.length + m.length + 2 := by
  have hB : (sL (by_ s)).1 = true := by unfold StB at h; rw [strAt_zero] at h; exact h
  obtain ⟨b, m, hS, hl, hn⟩ := sL_tells hB
  refine ⟨b, m, _, hS, hl, by rw [strAt_zero, hB, hn], ?_⟩
  rw [← by_length, hl]; simp; omega
theorem by_head (s : ByteArray) (n : Nat) (l m : List Int) (h : by_ s = l ++ m) (hn : n = l.length) : by_ (s.extract 0 n) = l := by
  rw [by_extract, h, List.drop_zero, hn, List.take_left]
theorem textJoins_pure : copperplatelaw06_TextJoins.Pure := by
  intro a b ha hb
  refine ⟨1, ?_⟩
  unfold copperplatelaw06_TextJoins.f
  rw [awake6]
  simp only [Option.bind_some, if_true]
  by_cases h1 : (a.size : Int) > 300
  · rw [if_pos h1]; rfl
  by_cases h2 : (b.size : Int) > 300
  · rw [if_neg h1, decide_eq_true h2]; rfl
  rw [if_neg h1, decide_eq_false h2]
  rw [copperplatelaw06_TextJoins.j0, f_String (by omega), f_String (by omega)]
  simp only [Option.bind_some, Bool.false_eq_true, if_false]
  cases hA : StB a 0 with
  | false => rfl
  | true =>
    cases hB : StB b 0 with
    | false => rfl
    | true =>
      simp only [if_true]
      obtain ⟨b1, m1, t1, hS1, hl1, hr1, hz1⟩ := str_zero hA
      obtain ⟨b2, m2, t2, hS2, hl2, hr2, hz2⟩ := str_zero hB
      have hI1 : StI a 0 = ((b1.length + 2 : Nat) : Int) := by unfold StI; rw [hr1]
      have hI2 : StI b 0 = ((b2.length + 2 : Nat) : Int) := by unfold StI; rw [hr2]
      have hT1 : StT a 0 = ba t1 := by unfold StT; rw [hr1]
      have hT2 : StT b 0 = ba t2 := by unfold StT; rw [hr2]
      rw [hI1, hI2, hT1, hT2]
      have hw1 : wrap64 (((b1.length + 2 : Nat) : Int) - 1) = ((b1.length + 1 : Nat) : Int) := by rw [IntWalk.wrap64_in _ (by omega)]; omega
      have hw2 : wrap64 (((b1.length + 2 : Nat) : Int) + ((b2.length + 2 : Nat) : Int)) = ((b1.length + b2.length + 4 : Nat) : Int) := by rw [IntWalk.wrap64_in _ (by omega)]; omega
      have hw3 : wrap64 (((b1.length + b2.length + 4 : Nat) : Int) - 2) = ((b1.length + b2.length + 2 : Nat) : Int) := by rw [IntWalk.wrap64_in _ (by omega)]; omega
      rw [hw1, hw2, hw3]
      rw [if_neg (by omega), if_neg (by omega), if_neg (by omega), if_neg (by omega), if_pos (by omega), if_pos (by omega), if_pos (by omega), if_pos (by omega)]
      simp only [Int.toNat_natCast]
      have hx1 : by_ (a.extract 0 (b1.length + 1)) = 34 :: b1 := by_head a _ (34 :: b1) (34 :: m1) (by rw [hl1]; simp) (by simp)
      have hx2 : by_ (b.extract 1 (b2.length + 2)) = b2 ++ [34] := by
        rw [by_extract, hl2]
        show ((34 :: (b2 ++ 34 :: m2)).take (b2.length + 2)).drop 1 = _
        rw [List.take_succ_cons, List.drop_succ_cons, List.drop_zero, show (b2 ++ 34 :: m2 : List Int) = (b2 ++ [34]) ++ m2 by simp, List.take_left' (by simp)]
      have hy : by_ (a.extract 0 (b1.length + 1) ++ b.extract 1 (b2.length + 2)) = 34 :: ((b1 ++ b2) ++ 34 :: []) := by
        rw [by_append, hx1, hx2]; simp
      obtain ⟨x, hx⟩ : ∃ x, a.extract 0 (b1.length + 1) ++ b.extract 1 (b2.length + 2) = x := ⟨_, rfl⟩
      have hsz : (a.extract 0 (b1.length + 1)).size + (b.extract 1 (b2.length + 2)).size ≤ 9223372036854775807 := by rw [ByteArray.size_extract, ByteArray.size_extract]; omega
      rw [if_pos hsz]
      rw [hx] at hy ⊢
      have hxz : x.size = b1.length + b2.length + 2 := by rw [← by_length, hy]; simp; omega
      rw [f_String (by omega)]
      simp only [Option.bind_some]
      have r : strAt x 0 = (true, t1 ++ t2, ((b1.length + b2.length + 2 : Nat) : Int)) := by
        rw [strAt_zero, hy, sL_done (hS1.append hS2), List.length_append]
      unfold StB StT StI
      rw [r]
      have q1 := str_len hS1
      have q2 := str_len hS2
      simp only [if_true]
      rw [if_pos (by rw [ba_size, ba_size]; omega), if_pos (by rw [ba_append])]
      rw [beq_self_eq_true]
end Go.Proofs.YtcebkppagamjiaaDoor.G
