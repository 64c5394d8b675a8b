/-
  The law NumDigits, walked: digits without a 0 ahead are a whole number; with a dot, or an exponent, and digits behind, another one.
-/
import Derived.Test.YtdhncfkbblfokaaA5
import Derived.Test.YtdhncfkbblfokaaR4b
namespace Go.Proofs.Ytdhncfkbblfokaa.G
open Go.RowKit Go.Proofs.YtdhncfkbblfokaaW.PrintWords Go.Proofs.Ytdhncfkbblfokaa.M
set_option linter.unusedVariables false
set_option linter.unusedSimpArgs false

theorem dig_run : ∀ (l r : List Int), dig l = l.length → dig r = 0 → dig (l ++ r) = l.length
  | [], r, _, h => h
  | c :: l, r, h, hr => by
    rw [dig_cons] at h
    by_cases hc : isDig c = true
    · rw [if_pos hc, List.length_cons] at h
      rw [List.cons_append, dig_cons, if_pos hc, dig_run l r (by omega) hr, List.length_cons]
    · rw [if_neg hc, List.length_cons] at h; omega
theorem digs_run (F : List Int → LNum) (l r : List Int) (h : dig l = l.length) (h0 : 0 < l.length) (hr : dig r = 0) : lDigs F (l ++ r) = shift l.length (F r) := by
  unfold lDigs; rw [dig_run l r h hr, if_pos h0, List.drop_left]
theorem dig_first {c : Int} {l : List Int} (h : dig (c :: l) = (c :: l).length) : isDig c = true ∧ dig l = l.length := by
  rw [dig_cons] at h
  by_cases hc : isDig c = true
  · rw [if_pos hc, List.length_cons] at h; exact ⟨hc, by omega⟩
  · rw [if_neg hc, List.length_cons] at h; omega
theorem num_run (c : Int) (l r : List Int) (h : dig (c :: l) = (c :: l).length) (hz : c = 48 → l = []) (hr : dig r = 0) : lNum (c :: l ++ r) = shift (c :: l).length (lDot r) := by
  have hc := (dig_first h).1
  simp only [isDig, decide_eq_true_eq] at hc
  rw [List.cons_append, lNum_cons, if_neg (by omega), lInt_cons]
  by_cases h48 : c = 48
  · rw [if_pos h48, hz h48, List.nil_append]; rfl
  · rw [if_neg h48, ← List.cons_append, digs_run lDot _ r h (by simp) hr]
theorem dot_run (b : List Int) (h : dig b = b.length) (h0 : 0 < b.length) : lDot (46 :: b) = (4, 1 + b.length, true) := by
  rw [lDot_cons, if_pos rfl]
  have := digs_run (lExp 4) b [] h h0 rfl
  rw [List.append_nil] at this
  rw [this]; rfl
theorem exp_run (b : List Int) (h : dig b = b.length) (h0 : 0 < b.length) : lDot (101 :: 45 :: b) = (4, 2 + b.length, true) := by
  rw [lDot_cons, if_neg (by decide), lExp_cons, if_pos (by decide), lTail_cons, if_pos (by decide)]
  have := digs_run (lFin 4) b [] h h0 rfl
  rw [List.append_nil] at this
  rw [this]
  have : lFin 4 [] = (4, 0, true) := rfl
  rw [this]; unfold shift; simp only [Prod.mk.injEq, true_and, and_true]; omega

theorem empty_of {a : ByteArray} (h : a.size = 0) : a.toList.isEmpty = true := by
  have : a.toList = [] := by rw [ByteArray.toList_eq]; exact List.length_eq_zero_iff.1 h
  rw [this]; rfl
theorem empty_no {a : ByteArray} (h : 0 < a.size) : a.toList.isEmpty = false := by
  have : 0 < a.toList.length := by rw [ByteArray.toList_eq]; exact h
  cases hl : a.toList with
  | nil => rw [hl] at this; exact absurd this (by decide)
  | cons x l => rfl

set_option maxHeartbeats 1600000 in
set_option maxRecDepth 100000 in
theorem numDigits_e1 (a0 a1 : ByteArray) (w : World) (e1 : a0.toList.isEmpty = true) :
    Calls Try.prog 12 #[.string a0, .string a1] w fun e w' => e = .returned (.bool true) ∧ Below w.heap.size w w' := by
  go_enter Try.func12, Try.ntmps12
  go_wp2_with (go_at_call 23; (with_reducible refine (awake5_st w _ ?c2).mono ?_); (case c2 => repeat (first | assumption | exact Below.refl _ _ | apply below_alloc | apply below_drawn | apply below_drew)); rintro e w' ⟨rfl, hb⟩)
  all_goals go_ret
  all_goals exact ⟨rfl, by repeat (first | assumption | exact Below.refl _ _ | apply below_alloc | apply below_drawn | apply below_drew)⟩

set_option maxHeartbeats 1600000 in
set_option maxRecDepth 100000 in
theorem numDigits_e2 (a0 a1 : ByteArray) (w : World) (e1 : a0.toList.isEmpty = false) (e2 : a1.toList.isEmpty = true) :
    Calls Try.prog 12 #[.string a0, .string a1] w fun e w' => e = .returned (.bool true) ∧ Below w.heap.size w w' := by
  go_enter Try.func12, Try.ntmps12
  go_wp2_with (go_at_call 23; (with_reducible refine (awake5_st w _ ?c2).mono ?_); (case c2 => repeat (first | assumption | exact Below.refl _ _ | apply below_alloc | apply below_drawn | apply below_drew)); rintro e w' ⟨rfl, hb⟩)
  all_goals go_ret
  all_goals exact ⟨rfl, by repeat (first | assumption | exact Below.refl _ _ | apply below_alloc | apply below_drawn | apply below_drew)⟩

set_option maxHeartbeats 1600000 in
set_option maxRecDepth 100000 in
theorem numDigits_q1 (a0 a1 : ByteArray) (w : World) (e1 : a0.toList.isEmpty = false) (e2 : a1.toList.isEmpty = false) (q1 : (100 : Int) < (a0.size : Int)) :
    Calls Try.prog 12 #[.string a0, .string a1] w fun e w' => e = .returned (.bool true) ∧ Below w.heap.size w w' := by
  go_enter Try.func12, Try.ntmps12
  go_wp2_with (go_at_call 23; (with_reducible refine (awake5_st w _ ?c2).mono ?_); (case c2 => repeat (first | assumption | exact Below.refl _ _ | apply below_alloc | apply below_drawn | apply below_drew)); rintro e w' ⟨rfl, hb⟩)
  all_goals go_ret
  all_goals exact ⟨rfl, by repeat (first | assumption | exact Below.refl _ _ | apply below_alloc | apply below_drawn | apply below_drew)⟩

set_option maxHeartbeats 1600000 in
set_option maxRecDepth 100000 in
theorem numDigits_q2 (a0 a1 : ByteArray) (w : World) (e1 : a0.toList.isEmpty = false) (e2 : a1.toList.isEmpty = false) (q1 : ¬ (100 : Int) < (a0.size : Int)) (q2 : (100 : Int) < (a1.size : Int)) :
    Calls Try.prog 12 #[.string a0, .string a1] w fun e w' => e = .returned (.bool true) ∧ Below w.heap.size w w' := by
  go_enter Try.func12, Try.ntmps12
  go_wp2_with (go_at_call 23; (with_reducible refine (awake5_st w _ ?c2).mono ?_); (case c2 => repeat (first | assumption | exact Below.refl _ _ | apply below_alloc | apply below_drawn | apply below_drew)); rintro e w' ⟨rfl, hb⟩)
  all_goals go_ret
  all_goals exact ⟨rfl, by repeat (first | assumption | exact Below.refl _ _ | apply below_alloc | apply below_drawn | apply below_drew)⟩

set_option maxHeartbeats 1600000 in
set_option maxRecDepth 100000 in
theorem numDigits_d1 (a0 a1 : ByteArray) (d : Nat) (w : World) (e1 : a0.toList.isEmpty = false) (e2 : a1.toList.isEmpty = false) (q1 : ¬ (100 : Int) < (a0.size : Int)) (q2 : ¬ (100 : Int) < (a1.size : Int)) (d1 : upto isDig a0 0 = (d : Int)) (n1 : ((d : Int) == (a0.size : Int)) = false) (n2 : (d == a0.size) = false) (n3 : ((d : Int) != (a0.size : Int)) = true) (n4 : (d != a0.size) = true) :
    Calls Try.prog 12 #[.string a0, .string a1] w fun e w' => e = .returned (.bool true) ∧ Below w.heap.size w w' := by
  go_enter Try.func12, Try.ntmps12
  go_wp2_with (first
    | (go_at_call 23; (with_reducible refine (awake5_st w _ ?c2).mono ?_); (case c2 => repeat (first | assumption | exact Below.refl _ _ | apply below_alloc | apply below_drawn | apply below_drew)); rintro e w' ⟨rfl, hb⟩)
    | (go_at_call 19; (with_reducible refine (dig_st w _ _ _ ?c1 ?c2).mono ?_); (case c1 => (first | omega | (simp only [ByteArray.size_append, lit_size, List.size_toArray, List.length_cons, List.length_nil, ByteArray.size_extract]; omega))); (case c2 => repeat (first | assumption | exact Below.refl _ _ | apply below_alloc | apply below_drawn | apply below_drew)); rintro e w' ⟨rfl, hb⟩))
  all_goals go_ret
  all_goals exact ⟨rfl, by repeat (first | assumption | exact Below.refl _ _ | apply below_alloc | apply below_drawn | apply below_drew)⟩

set_option maxHeartbeats 1600000 in
set_option maxRecDepth 100000 in
theorem numDigits_d2 (a0 a1 : ByteArray) (d : Nat) (w : World) (e1 : a0.toList.isEmpty = false) (e2 : a1.toList.isEmpty = false) (q1 : ¬ (100 : Int) < (a0.size : Int)) (q2 : ¬ (100 : Int) < (a1.size : Int)) (d1 : upto isDig a0 0 = (a0.size : Int)) (d2 : upto isDig a1 0 = (d : Int)) (n1 : ((d : Int) == (a1.size : Int)) = false) (n2 : (d == a1.size) = false) (n3 : ((d : Int) != (a1.size : Int)) = true) (n4 : (d != a1.size) = true) :
    Calls Try.prog 12 #[.string a0, .string a1] w fun e w' => e = .returned (.bool true) ∧ Below w.heap.size w w' := by
  go_enter Try.func12, Try.ntmps12
  go_wp2_with (first
    | (go_at_call 23; (with_reducible refine (awake5_st w _ ?c2).mono ?_); (case c2 => repeat (first | assumption | exact Below.refl _ _ | apply below_alloc | apply below_drawn | apply below_drew)); rintro e w' ⟨rfl, hb⟩)
    | (go_at_call 19; (with_reducible refine (dig_st w _ _ _ ?c1 ?c2).mono ?_); (case c1 => (first | omega | (simp only [ByteArray.size_append, lit_size, List.size_toArray, List.length_cons, List.length_nil, ByteArray.size_extract]; omega))); (case c2 => repeat (first | assumption | exact Below.refl _ _ | apply below_alloc | apply below_drawn | apply below_drew)); rintro e w' ⟨rfl, hb⟩))
  all_goals go_ret
  all_goals exact ⟨rfl, by repeat (first | assumption | exact Below.refl _ _ | apply below_alloc | apply below_drawn | apply below_drew)⟩

set_option maxHeartbeats 1600000 in
set_option maxRecDepth 100000 in
theorem numDigits_1 (a0 a1 : ByteArray) (w : World) (p1 : (0 : Int) < (a0.size : Int)) (p2 : (0 : Int) < (a1.size : Int)) (q1 : ¬ (100 : Int) < (a0.size : Int)) (q2 : ¬ (100 : Int) < (a1.size : Int)) (e1 : a0.toList.isEmpty = false) (e2 : a1.toList.isEmpty = false) (d1 : upto isDig a0 0 = (a0.size : Int)) (d2 : upto isDig a1 0 = (a1.size : Int)) (hl : (1 : Int) < (a0.size : Int)) (hat : ∀ h : 0 < a0.size, (((a0[0]'h).toNat : Nat) : Int) = 48) (hn : number a0 0 = (0, 1, false)) :
    Calls Try.prog 12 #[.string a0, .string a1] w fun e w' => e = .returned (.bool true) ∧ Below w.heap.size w w' := by
  go_enter Try.func12, Try.ntmps12
  go_wp2_with (first
    | (go_at_call 23; (with_reducible refine (awake5_st w _ ?c2).mono ?_); (case c2 => repeat (first | assumption | exact Below.refl _ _ | apply below_alloc | apply below_drawn | apply below_drew)); rintro e w' ⟨rfl, hb⟩)
    | (go_at_call 19; (with_reducible refine (dig_st w _ _ _ ?c1 ?c2).mono ?_); (case c1 => (first | omega | (simp only [ByteArray.size_append, lit_size, List.size_toArray, List.length_cons, List.length_nil, ByteArray.size_extract]; omega))); (case c2 => repeat (first | assumption | exact Below.refl _ _ | apply below_alloc | apply below_drawn | apply below_drew)); rintro e w' ⟨rfl, hb⟩)
    | (go_at_call 24; (with_reducible refine (number_st w _ _ _ ?c1 ?c2).mono ?_); (case c1 => (first | omega | (simp only [ByteArray.size_append, lit_size, List.size_toArray, List.length_cons, List.length_nil, ByteArray.size_extract]; omega))); (case c2 => repeat (first | assumption | exact Below.refl _ _ | apply below_alloc | apply below_drawn | apply below_drew)); rintro e w' ⟨rfl, hb⟩))
  all_goals go_ret
  all_goals exact ⟨rfl, by repeat (first | assumption | exact Below.refl _ _ | apply below_alloc | apply below_drawn | apply below_drew)⟩

set_option maxHeartbeats 1600000 in
set_option maxRecDepth 100000 in
theorem numDigits_2 (a0 a1 : ByteArray) (w : World) (p1 : (0 : Int) < (a0.size : Int)) (p2 : (0 : Int) < (a1.size : Int)) (q1 : ¬ (100 : Int) < (a0.size : Int)) (q2 : ¬ (100 : Int) < (a1.size : Int)) (e1 : a0.toList.isEmpty = false) (e2 : a1.toList.isEmpty = false) (d1 : upto isDig a0 0 = (a0.size : Int)) (d2 : upto isDig a1 0 = (a1.size : Int)) (hl : ¬ (1 : Int) < (a0.size : Int)) (hat : ∀ h : 0 < a0.size, (((a0[0]'h).toNat : Nat) : Int) = 48) (hn1 : number a0 0 = (3, (a0.size : Int), true)) (hn2 : number (a0 ++ ⟨#[46]⟩ ++ a1) 0 = (4, (a0.size : Int) + 1 + (a1.size : Int), true)) (hn3 : number (a0 ++ ⟨#[101, 45]⟩ ++ a1) 0 = (4, (a0.size : Int) + 2 + (a1.size : Int), true)) :
    Calls Try.prog 12 #[.string a0, .string a1] w fun e w' => e = .returned (.bool true) ∧ Below w.heap.size w w' := by
  go_enter Try.func12, Try.ntmps12
  go_wp2_with (first
    | (go_at_call 23; (with_reducible refine (awake5_st w _ ?c2).mono ?_); (case c2 => repeat (first | assumption | exact Below.refl _ _ | apply below_alloc | apply below_drawn | apply below_drew)); rintro e w' ⟨rfl, hb⟩)
    | (go_at_call 19; (with_reducible refine (dig_st w _ _ _ ?c1 ?c2).mono ?_); (case c1 => (first | omega | (simp only [ByteArray.size_append, lit_size, List.size_toArray, List.length_cons, List.length_nil, ByteArray.size_extract]; omega))); (case c2 => repeat (first | assumption | exact Below.refl _ _ | apply below_alloc | apply below_drawn | apply below_drew)); rintro e w' ⟨rfl, hb⟩)
    | (go_at_call 24; (with_reducible refine (number_st w _ _ _ ?c1 ?c2).mono ?_); (case c1 => (first | omega | (simp only [ByteArray.size_append, lit_size, List.size_toArray, List.length_cons, List.length_nil, ByteArray.size_extract]; omega))); (case c2 => repeat (first | assumption | exact Below.refl _ _ | apply below_alloc | apply below_drawn | apply below_drew)); rintro e w' ⟨rfl, hb⟩))
  all_goals go_ret
  all_goals exact ⟨rfl, by repeat (first | assumption | exact Below.refl _ _ | apply below_alloc | apply below_drawn | apply below_drew)⟩

set_option maxHeartbeats 1600000 in
set_option maxRecDepth 100000 in
theorem numDigits_3 (a0 a1 : ByteArray) (b : Int) (w : World) (p1 : (0 : Int) < (a0.size : Int)) (p2 : (0 : Int) < (a1.size : Int)) (q1 : ¬ (100 : Int) < (a0.size : Int)) (q2 : ¬ (100 : Int) < (a1.size : Int)) (e1 : a0.toList.isEmpty = false) (e2 : a1.toList.isEmpty = false) (d1 : upto isDig a0 0 = (a0.size : Int)) (d2 : upto isDig a1 0 = (a1.size : Int)) (hb : (b == 48) = false) (hat : ∀ h : 0 < a0.size, (((a0[0]'h).toNat : Nat) : Int) = b) (hn1 : number a0 0 = (3, (a0.size : Int), true)) (hn2 : number (a0 ++ ⟨#[46]⟩ ++ a1) 0 = (4, (a0.size : Int) + 1 + (a1.size : Int), true)) (hn3 : number (a0 ++ ⟨#[101, 45]⟩ ++ a1) 0 = (4, (a0.size : Int) + 2 + (a1.size : Int), true)) :
    Calls Try.prog 12 #[.string a0, .string a1] w fun e w' => e = .returned (.bool true) ∧ Below w.heap.size w w' := by
  go_enter Try.func12, Try.ntmps12
  go_wp2_with (first
    | (go_at_call 23; (with_reducible refine (awake5_st w _ ?c2).mono ?_); (case c2 => repeat (first | assumption | exact Below.refl _ _ | apply below_alloc | apply below_drawn | apply below_drew)); rintro e w' ⟨rfl, hb⟩)
    | (go_at_call 19; (with_reducible refine (dig_st w _ _ _ ?c1 ?c2).mono ?_); (case c1 => (first | omega | (simp only [ByteArray.size_append, lit_size, List.size_toArray, List.length_cons, List.length_nil, ByteArray.size_extract]; omega))); (case c2 => repeat (first | assumption | exact Below.refl _ _ | apply below_alloc | apply below_drawn | apply below_drew)); rintro e w' ⟨rfl, hb⟩)
    | (go_at_call 24; (with_reducible refine (number_st w _ _ _ ?c1 ?c2).mono ?_); (case c1 => (first | omega | (simp only [ByteArray.size_append, lit_size, List.size_toArray, List.length_cons, List.length_nil, ByteArray.size_extract]; omega))); (case c2 => repeat (first | assumption | exact Below.refl _ _ | apply below_alloc | apply below_drawn | apply below_drew)); rintro e w' ⟨rfl, hb⟩))
  all_goals go_ret
  all_goals exact ⟨rfl, by repeat (first | assumption | exact Below.refl _ _ | apply below_alloc | apply below_drawn | apply below_drew)⟩

set_option maxHeartbeats 1600000 in
set_option maxRecDepth 100000 in
theorem copperplatelaw05_NumDigits.walk (a0 a1 : ByteArray) (w : World) (w0 : a0.size ≤ 140737488351232) (w1 : a1.size ≤ 140737488351232) :
    Calls Try.prog 12 #[.string a0, .string a1] w fun e w' => e = .returned (.bool true) ∧ Below w.heap.size w w' := by
  by_cases z1 : a0.size = 0
  · exact numDigits_e1 a0 a1 w (empty_of z1)
  have e1 := empty_no (a := a0) (by omega)
  by_cases z2 : a1.size = 0
  · exact numDigits_e2 a0 a1 w e1 (empty_of z2)
  have e2 := empty_no (a := a1) (by omega)
  by_cases q1 : a0.size ≤ 100
  case neg => exact numDigits_q1 a0 a1 w e1 e2 (by omega)
  by_cases q2 : a1.size ≤ 100
  case neg => exact numDigits_q2 a0 a1 w e1 e2 (by omega) (by omega)
  have u1 : upto isDig a0 0 = (cnt isDig (by_ a0) : Int) := R.upto_zero isDig a0
  have u2 : upto isDig a1 0 = (cnt isDig (by_ a1) : Int) := R.upto_zero isDig a1
  have l1 := by_length a0
  have l2 := by_length a1
  by_cases d1 : cnt isDig (by_ a0) = a0.size
  case neg => exact numDigits_d1 a0 a1 _ w e1 e2 (by omega) (by omega) u1 (beq_eq_false_iff_ne.2 (by omega)) (beq_eq_false_iff_ne.2 d1) (bne_iff_ne.2 (by omega)) (bne_iff_ne.2 d1)
  by_cases d2 : cnt isDig (by_ a1) = a1.size
  case neg => exact numDigits_d2 a0 a1 _ w e1 e2 (by omega) (by omega) (by rw [u1, d1]) u2 (beq_eq_false_iff_ne.2 (by omega)) (beq_eq_false_iff_ne.2 d2) (bne_iff_ne.2 (by omega)) (bne_iff_ne.2 d2)
  rw [d1] at u1
  rw [d2] at u2
  have hd1 : dig (by_ a0) = (by_ a0).length := by rw [l1]; exact d1
  have hd2 : dig (by_ a1) = (by_ a1).length := by rw [l2]; exact d2
  have hat : ∀ h : 0 < a0.size, (((a0[0]'h).toNat : Nat) : Int) = bt a0 0 := fun h => bt_at a0 0 h
  have hc := at_cons a0 0 (by omega) (by omega)
  rw [at_zero] at hc
  obtain ⟨l, hl⟩ : ∃ l, at_ a0 (0 + 1) = l := ⟨_, rfl⟩
  obtain ⟨c, hcc⟩ : ∃ c, bt a0 0 = c := ⟨_, rfl⟩
  rw [hl, hcc] at hc
  rw [hcc] at hat
  rw [hc] at hd1 l1
  have hlen : l.length + 1 = a0.size := by rw [← l1, List.length_cons]
  have hN : (c = 48 → l = []) → number a0 0 = (3, (a0.size : Int), true) ∧ number (a0 ++ ⟨#[46]⟩ ++ a1) 0 = (4, (a0.size : Int) + 1 + (a1.size : Int), true) ∧ number (a0 ++ ⟨#[101, 45]⟩ ++ a1) 0 = (4, (a0.size : Int) + 2 + (a1.size : Int), true) := by
    intro hz
    refine ⟨?_, ?_, ?_⟩
    · have := num_run c l [] hd1 hz rfl
      rw [List.append_nil] at this
      rw [number_zero, hc, this, l1]
      have : lDot [] = (3, 0, true) := rfl
      rw [this]; simp [shift]
    · rw [number_zero, by_append, by_append, hc, show by_ ⟨#[46]⟩ = [46] from rfl, List.append_assoc, List.singleton_append, num_run c l _ hd1 hz rfl, l1, dot_run _ hd2 (by omega), l2]
      simp only [shift, Prod.mk.injEq, true_and, and_true]; omega
    · rw [number_zero, by_append, by_append, hc, List.append_assoc, show by_ ⟨#[101, 45]⟩ ++ by_ a1 = 101 :: 45 :: by_ a1 from rfl, num_run c l _ hd1 hz rfl, l1, exp_run _ hd2 (by omega), l2]
      simp only [shift, Prod.mk.injEq, true_and, and_true]; omega
  by_cases h48 : c = 48
  · subst h48
    by_cases h1 : 1 < a0.size
    · have hn : number a0 0 = (0, 1, false) := by
        obtain ⟨x, m, rfl⟩ : ∃ x m, l = x :: m := by
          cases l with
          | nil => rw [List.length_nil] at hlen; omega
          | cons x m => exact ⟨x, m, rfl⟩
        have hx := (dig_first (dig_first hd1).2).1
        have hg : goes x = true := by simp [goes, hx]
        simp only [isDig, decide_eq_true_eq] at hx
        rw [number_zero, hc, lNum_cons, if_neg (by decide), lInt_cons, if_pos rfl, lDot_cons, if_neg (by omega), lExp_cons, if_neg (by omega)]
        unfold lFin; rw [show hd goes (x :: m) = goes x from rfl, if_pos hg]; rfl
      exact numDigits_1 a0 a1 w (by omega) (by omega) (by omega) (by omega) e1 e2 u1 u2 (by omega) hat hn
    · obtain ⟨n1, n2, n3⟩ := hN fun _ => List.length_eq_zero_iff.1 (by omega)
      exact numDigits_2 a0 a1 w (by omega) (by omega) (by omega) (by omega) e1 e2 u1 u2 (by omega) hat n1 n2 n3
  · obtain ⟨n1, n2, n3⟩ := hN fun h => absurd h h48
    exact numDigits_3 a0 a1 c w (by omega) (by omega) (by omega) (by omega) e1 e2 u1 u2 (beq_eq_false_iff_ne.2 h48) hat n1 n2 n3
end Go.Proofs.Ytdhncfkbblfokaa.G
