/-
  The law NumMinus, walked: with a minus ahead a number without one is one, a place farther on; with two it is none.
-/
import Derived.Test.YtdhncfkbblfokaaA5
namespace Go.Proofs.Ytdhncfkbblfokaa.G
open Go.RowKit Go.Proofs.YtdhncfkbblfokaaW.PrintWords Go.Proofs.Ytdhncfkbblfokaa.M
set_option linter.unusedVariables false
set_option linter.unusedSimpArgs false

set_option maxHeartbeats 1600000 in
set_option maxRecDepth 100000 in
theorem copperplatelaw05_NumMinus.walk (a0 : ByteArray) (w : World) (w0 : a0.size ≤ 140737488351232) :
    Calls Try.prog 11 #[.string a0] w fun e w' => e = .returned (.bool true) ∧ Below w.heap.size w w' := by
  by_cases h1 : a0.size ≤ 600
  · have h1' : ¬ (600 : Int) < (a0.size : Int) := by omega
    have hn3 : number (⟨#[45, 45]⟩ ++ a0) 0 = (0, 1, false) := by
      rw [number_zero, by_append, show by_ ⟨#[45, 45]⟩ = [45, 45] from rfl]
      simp only [List.cons_append, List.nil_append]
      rw [lNum_cons, if_pos rfl, lInt_cons, if_neg (by decide)]
      rfl
    have hsh := short_num (by_ a0)
    rw [by_length] at hsh
    by_cases h2 : 0 < a0.size
    · have h2' : (0 : Int) < (a0.size : Int) := by omega
      have hz : ((a0.size : Int) == 0) = false := beq_eq_false_iff_ne.2 (by omega)
      have hat : ∀ h : 0 < a0.size, (((a0[0]'h).toNat : Nat) : Int) = bt a0 0 := fun h => bt_at a0 0 h
      have hc := at_cons a0 0 (by omega) h2'
      obtain ⟨b, hb⟩ : ∃ b, bt a0 0 = b := ⟨_, rfl⟩
      simp only [hb] at hat
      rw [hb, at_zero] at hc
      have Hb := Lib.hid hb
      clear hb
      by_cases h45 : b = 45
      · have h45b : (b == 45) = true := by rw [h45]; rfl
        clear h45 hn3 hsh hc
        go_enter Try.func11, Try.ntmps11
        go_wp2_with (go_at_call 23; (with_reducible refine (awake5_st w _ ?c2).mono ?_); (case c2 => repeat (first | assumption | exact Below.refl _ _ | apply below_alloc | apply below_drawn | apply below_drew)); rintro e w' ⟨rfl, hb⟩)
        go_ret
        exact ⟨rfl, by repeat (first | assumption | exact Below.refl _ _ | apply below_alloc | apply below_drawn | apply below_drew)⟩
      · have h45b : (b == 45) = false := beq_eq_false_iff_ne.2 h45
        have hn1 := number_zero a0
        have hn2 : number (⟨#[45]⟩ ++ a0) 0 = ((lNum (by_ a0)).1, ((lNum (by_ a0)).2.1 : Int) + 1, (lNum (by_ a0)).2.2) := by
          rw [number_zero, by_append, show by_ ⟨#[45]⟩ = [45] from rfl, List.singleton_append, lNum_cons, if_pos rfl, hc, lNum_cons, if_neg h45]
          unfold shift; simp only [Prod.mk.injEq, true_and, and_true]; omega
        obtain ⟨k, e, bb, hk⟩ : ∃ k e b, lNum (by_ a0) = (k, e, b) := ⟨_, _, _, rfl⟩
        rw [hk] at hn1 hn2 hsh
        simp only [] at hn1 hn2 hsh
        clear hk hc h45
        go_enter Try.func11, Try.ntmps11
        go_wp2_with (first
          | (go_at_call 23; (with_reducible refine (awake5_st w _ ?c2).mono ?_); (case c2 => repeat (first | assumption | exact Below.refl _ _ | apply below_alloc | apply below_drawn | apply below_drew)); rintro e w' ⟨rfl, hb⟩)
          | (go_at_call 24; (with_reducible refine (number_st w _ _ _ ?c1 ?c2).mono ?_); (case c1 => (first | omega | (simp only [ByteArray.size_append, lit_size, List.size_toArray, List.length_cons, List.length_nil, ByteArray.size_extract]; omega))); (case c2 => repeat (first | assumption | exact Below.refl _ _ | apply below_alloc | apply below_drawn | apply below_drew)); rintro e w' ⟨rfl, hb⟩))
        go_ret
        exact ⟨rfl, by repeat (first | assumption | exact Below.refl _ _ | apply below_alloc | apply below_drawn | apply below_drew)⟩
    · have hz : ((a0.size : Int) == 0) = true := by rw [beq_iff_eq]; omega
      have h2' : ¬ (0 : Int) < (a0.size : Int) := by omega
      have hnil : by_ a0 = [] := List.length_eq_zero_iff.1 (by rw [by_length]; omega)
      have hn1 : number a0 0 = (0, 0, false) := by rw [number_zero, hnil]; rfl
      have hn2 : number (⟨#[45]⟩ ++ a0) 0 = (0, 1, false) := by
        rw [number_zero, by_append, show by_ ⟨#[45]⟩ = [45] from rfl, hnil]; rfl
      clear hnil hsh
      go_enter Try.func11, Try.ntmps11
      go_wp2_with (first
        | (go_at_call 23; (with_reducible refine (awake5_st w _ ?c2).mono ?_); (case c2 => repeat (first | assumption | exact Below.refl _ _ | apply below_alloc | apply below_drawn | apply below_drew)); rintro e w' ⟨rfl, hb⟩)
        | (go_at_call 24; (with_reducible refine (number_st w _ _ _ ?c1 ?c2).mono ?_); (case c1 => (first | omega | (simp only [ByteArray.size_append, lit_size, List.size_toArray, List.length_cons, List.length_nil, ByteArray.size_extract]; omega))); (case c2 => repeat (first | assumption | exact Below.refl _ _ | apply below_alloc | apply below_drawn | apply below_drew)); rintro e w' ⟨rfl, hb⟩))
      go_ret
      exact ⟨rfl, by repeat (first | assumption | exact Below.refl _ _ | apply below_alloc | apply below_drawn | apply below_drew)⟩
  · have h1' : (600 : Int) < (a0.size : Int) := by omega
    go_enter Try.func11, Try.ntmps11
    go_wp2_with (go_at_call 23; (with_reducible refine (awake5_st w _ ?c2).mono ?_); (case c2 => repeat (first | assumption | exact Below.refl _ _ | apply below_alloc | apply below_drawn | apply below_drew)); rintro e w' ⟨rfl, hb⟩)
    go_ret
    exact ⟨rfl, by repeat (first | assumption | exact Below.refl _ _ | apply below_alloc | apply below_drawn | apply below_drew)⟩
end Go.Proofs.Ytdhncfkbblfokaa.G
