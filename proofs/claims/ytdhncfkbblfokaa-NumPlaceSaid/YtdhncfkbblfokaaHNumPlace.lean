/-
  The law NumPlace, walked: what stands ahead does not matter; a place that is none has no number.
-/
import Derived.Test.YtdhncfkbblfokaaG9
import Derived.Test.YtdhncfkbblfokaaR5
import Derived.Test.YtdhncfkbblfokaaA5
namespace Go.Proofs.Ytdhncfkbblfokaa.G
open Go.RowKit Go.Proofs.YtdhncfkbblfokaaW.PrintWords Go.Proofs.Ytdhncfkbblfokaa.M
set_option linter.unusedVariables false
set_option linter.unusedSimpArgs false

set_option maxHeartbeats 1600000 in
set_option maxRecDepth 100000 in
theorem copperplatelaw05_NumPlace.walk (a0 a1 : ByteArray) (w : World) (w0 : a0.size ≤ 140737488351232) (w1 : a1.size ≤ 140737488351232) :
    Calls Try.prog 13 #[.string a0, .string a1] w fun e w' => e = .returned (.bool true) ∧ Below w.heap.size w w' := by
  have HAw := Lib.hid (fun W => Q.copperplatelaw05_awake.calls true W awake5)
  by_cases h1 : a0.size ≤ 300
  · by_cases h2 : a1.size ≤ 300
    · have h1' : ¬ (300 : Int) < (a0.size : Int) := by omega
      have h2' : ¬ (300 : Int) < (a1.size : Int) := by omega
      have hn1 := number_zero a1
      have hn2 : number (a0 ++ a1) a0.size = ((lNum (by_ a1)).1, ((lNum (by_ a1)).2.1 : Int) + (a0.size : Int), (lNum (by_ a1)).2.2) := by
        rw [number_list _ _ (by omega) (by rw [ByteArray.size_append]; omega)]
        have e : at_ (a0 ++ a1) (a0.size : Int) = by_ a1 := by
          unfold at_
          rw [by_append, Int.toNat_natCast, ← by_length a0, List.drop_left]
        rw [e]; unfold ab; simp only [Prod.mk.injEq, true_and, and_true]; omega
      have hn3 : number a1 a1.size = (0, (a1.size : Int), false) := by unfold number; rw [if_neg (by omega)]
      have hn4 : number a1 (-1) = (0, -1, false) := by unfold number; rw [if_neg (by omega)]
      have hsh := short_num (by_ a1)
      rw [by_length] at hsh
      obtain ⟨k, e, b, hk⟩ : ∃ k e b, lNum (by_ a1) = (k, e, b) := ⟨_, _, _, rfl⟩
      rw [hk] at hn1 hn2 hsh
      simp only [] at hn1 hn2 hsh
      clear hk
      go_enter Try.func13, Try.ntmps13
      go_wp2_with (first
        | (go_at_call 23; (with_reducible refine (HAw.out _).mono ?_); rintro e W1 ⟨rfl, hb1⟩)
        | (go_at_call 24; (with_reducible refine (number_st w _ _ _ ?c1 ?c2).mono ?_); (case c1 => (first | omega | (simp only [ByteArray.size_append, lit_size, List.size_toArray, List.length_cons, List.length_nil, ByteArray.size_extract]; omega))); (case c2 => repeat (first | assumption | exact Below.refl _ _ | apply below_alloc | apply below_drawn | apply below_drew)); rintro e w' ⟨rfl, hb⟩))
      go_ret
      exact ⟨rfl, by repeat (first | assumption | exact Below.refl _ _ | apply below_alloc | apply below_drawn | apply below_drew)⟩
    · have h1' : ¬ (300 : Int) < (a0.size : Int) := by omega
      have h2' : (300 : Int) < (a1.size : Int) := by omega
      go_enter Try.func13, Try.ntmps13
      go_wp2_with (go_at_call 23; (with_reducible refine (HAw.out _).mono ?_); rintro e W1 ⟨rfl, hb1⟩)
      go_ret
      exact ⟨rfl, by repeat (first | assumption | exact Below.refl _ _ | apply below_alloc | apply below_drawn | apply below_drew)⟩
  · have h1' : (300 : Int) < (a0.size : Int) := by omega
    go_enter Try.func13, Try.ntmps13
    go_wp2_with (go_at_call 23; (with_reducible refine (HAw.out _).mono ?_); rintro e W1 ⟨rfl, hb1⟩)
    go_ret
    exact ⟨rfl, by repeat (first | assumption | exact Below.refl _ _ | apply below_alloc | apply below_drawn | apply below_drew)⟩
end Go.Proofs.Ytdhncfkbblfokaa.G
