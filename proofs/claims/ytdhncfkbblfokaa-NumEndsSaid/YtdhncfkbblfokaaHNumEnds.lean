/-
  The law NumEnds, walked: a number that ends somewhere is one, alone and in front of what does not go on with it.
-/
import Derived.Test.YtdhncfkbblfokaaA5
import Derived.Test.YtdhncfkbblfokaaR4b
namespace Go.Proofs.Ytdhncfkbblfokaa.G
open Go.RowKit Go.Proofs.YtdhncfkbblfokaaW.PrintWords Go.Proofs.Ytdhncfkbblfokaa.M
set_option linter.unusedVariables false
set_option linter.unusedSimpArgs false

set_option maxHeartbeats 1600000 in
set_option maxRecDepth 100000 in
theorem numEnds_q (a0 : ByteArray) (n : Int) (w : World) (q1 : (600 : Int) < (a0.size : Int)) :
    Calls Try.prog 10 #[.string a0, .int .i64 n] w fun e w' => e = .returned (.bool true) ∧ Below w.heap.size w w' := by
  go_enter Try.func10, Try.ntmps10
  go_wp2_with (go_at_call 23; (with_reducible refine (awake5_st w _ ?c2).mono ?_); (case c2 => repeat (first | assumption | exact Below.refl _ _ | apply below_alloc | apply below_drawn | apply below_drew)); rintro e w' ⟨rfl, hb⟩)
  all_goals go_ret
  all_goals exact ⟨rfl, by repeat (first | assumption | exact Below.refl _ _ | apply below_alloc | apply below_drawn | apply below_drew)⟩

set_option maxHeartbeats 1600000 in
set_option maxRecDepth 100000 in
theorem numEnds_n0 (a0 : ByteArray) (n : Int) (w : World) (q1 : ¬ (600 : Int) < (a0.size : Int)) (hn : number a0 n = (0, n, false)) :
    Calls Try.prog 10 #[.string a0, .int .i64 n] w fun e w' => e = .returned (.bool true) ∧ Below w.heap.size w w' := by
  go_enter Try.func10, Try.ntmps10
  go_wp2_with (first
    | (go_at_call 23; (with_reducible refine (awake5_st w _ ?c2).mono ?_); (case c2 => repeat (first | assumption | exact Below.refl _ _ | apply below_alloc | apply below_drawn | apply below_drew)); rintro e w' ⟨rfl, hb⟩)
    | (go_at_call 24; (with_reducible refine (number_st w _ _ _ ?c1 ?c2).mono ?_); (case c1 => (first | omega | (simp only [ByteArray.size_append, lit_size, List.size_toArray, List.length_cons, List.length_nil, ByteArray.size_extract]; omega))); (case c2 => repeat (first | assumption | exact Below.refl _ _ | apply below_alloc | apply below_drawn | apply below_drew)); rintro e w' ⟨rfl, hb⟩))
  all_goals go_ret
  all_goals exact ⟨rfl, by repeat (first | assumption | exact Below.refl _ _ | apply below_alloc | apply below_drawn | apply below_drew)⟩

set_option maxHeartbeats 1600000 in
set_option maxRecDepth 100000 in
theorem numEnds_n1 (a0 : ByteArray) (n e : Nat) (w : World) (q1 : ¬ (600 : Int) < (a0.size : Int)) (hn : number a0 n = (0, (e : Int), false)) (h1 : n < e) (h2 : e ≤ a0.size) (g1 : ((e : Int) == (n : Int)) = false) (g2 : (e == n) = false) :
    Calls Try.prog 10 #[.string a0, .int .i64 n] w fun e w' => e = .returned (.bool true) ∧ Below w.heap.size w w' := by
  go_enter Try.func10, Try.ntmps10
  go_wp2_with (first
    | (go_at_call 23; (with_reducible refine (awake5_st w _ ?c2).mono ?_); (case c2 => repeat (first | assumption | exact Below.refl _ _ | apply below_alloc | apply below_drawn | apply below_drew)); rintro e w' ⟨rfl, hb⟩)
    | (go_at_call 24; (with_reducible refine (number_st w _ _ _ ?c1 ?c2).mono ?_); (case c1 => (first | omega | (simp only [ByteArray.size_append, lit_size, List.size_toArray, List.length_cons, List.length_nil, ByteArray.size_extract]; omega))); (case c2 => repeat (first | assumption | exact Below.refl _ _ | apply below_alloc | apply below_drawn | apply below_drew)); rintro e w' ⟨rfl, hb⟩))
  all_goals go_ret
  all_goals exact ⟨rfl, by repeat (first | assumption | exact Below.refl _ _ | apply below_alloc | apply below_drawn | apply below_drew)⟩

set_option maxHeartbeats 1600000 in
set_option maxRecDepth 100000 in
theorem numEnds_i (a0 : ByteArray) (own : ByteArray) (n e : Nat) (w : World) (q1 : ¬ (600 : Int) < (a0.size : Int)) (hn : number a0 n = (3, (e : Int), true)) (h1 : n < e) (h2 : e ≤ a0.size) (h3 : own.size ≤ 600) (hx : a0.extract n e = own)
    (hn1 : number own 0 = (3, (own.size : Int), true)) (hn2 : number (own ++ ⟨#[32, 120]⟩) 0 = (3, (own.size : Int), true)) (hn3 : number (own ++ ⟨#[93]⟩) 0 = (3, (own.size : Int), true))
    (k4 e4 k5 e5 : Int) (hn4 : number (own ++ ⟨#[46]⟩) 0 = (k4, e4, false)) (hn5 : number (own ++ ⟨#[120]⟩) 0 = (k5, e5, false)) :
    Calls Try.prog 10 #[.string a0, .int .i64 n] w fun e w' => e = .returned (.bool true) ∧ Below w.heap.size w w' := by
  go_enter Try.func10, Try.ntmps10
  go_wp2_with (first
    | (go_at_call 23; (with_reducible refine (awake5_st w _ ?c2).mono ?_); (case c2 => repeat (first | assumption | exact Below.refl _ _ | apply below_alloc | apply below_drawn | apply below_drew)); rintro e w' ⟨rfl, hb⟩)
    | (go_at_call 27; (with_reducible refine (whole_st w _ _ ?c1 ?c2).mono ?_); (case c1 => (first | omega | (simp only [ByteArray.size_append, lit_size, List.size_toArray, List.length_cons, List.length_nil, ByteArray.size_extract]; omega))); (case c2 => repeat (first | assumption | exact Below.refl _ _ | apply below_alloc | apply below_drawn | apply below_drew)); rintro e w' ⟨rfl, hb⟩)
    | (go_at_call 24; (with_reducible refine (number_st w _ _ _ ?c1 ?c2).mono ?_); (case c1 => (first | omega | (simp only [ByteArray.size_append, lit_size, List.size_toArray, List.length_cons, List.length_nil, ByteArray.size_extract]; omega))); (case c2 => repeat (first | assumption | exact Below.refl _ _ | apply below_alloc | apply below_drawn | apply below_drew)); rintro e w' ⟨rfl, hb⟩))
  all_goals go_ret
  all_goals exact ⟨rfl, by repeat (first | assumption | exact Below.refl _ _ | apply below_alloc | apply below_drawn | apply below_drew)⟩

set_option maxHeartbeats 1600000 in
set_option maxRecDepth 100000 in
theorem numEnds_f (a0 : ByteArray) (own : ByteArray) (n e : Nat) (w : World) (q1 : ¬ (600 : Int) < (a0.size : Int)) (hn : number a0 n = (4, (e : Int), true)) (h1 : n < e) (h2 : e ≤ a0.size) (h3 : own.size ≤ 600) (hx : a0.extract n e = own)
    (hn1 : number own 0 = (4, (own.size : Int), true)) (hn2 : number (own ++ ⟨#[32, 120]⟩) 0 = (4, (own.size : Int), true)) (hn3 : number (own ++ ⟨#[93]⟩) 0 = (4, (own.size : Int), true))
    (k4 e4 k5 e5 : Int) (hn4 : number (own ++ ⟨#[46]⟩) 0 = (k4, e4, false)) (hn5 : number (own ++ ⟨#[120]⟩) 0 = (k5, e5, false)) :
    Calls Try.prog 10 #[.string a0, .int .i64 n] w fun e w' => e = .returned (.bool true) ∧ Below w.heap.size w w' := by
  go_enter Try.func10, Try.ntmps10
  go_wp2_with (first
    | (go_at_call 23; (with_reducible refine (awake5_st w _ ?c2).mono ?_); (case c2 => repeat (first | assumption | exact Below.refl _ _ | apply below_alloc | apply below_drawn | apply below_drew)); rintro e w' ⟨rfl, hb⟩)
    | (go_at_call 27; (with_reducible refine (whole_st w _ _ ?c1 ?c2).mono ?_); (case c1 => (first | omega | (simp only [ByteArray.size_append, lit_size, List.size_toArray, List.length_cons, List.length_nil, ByteArray.size_extract]; omega))); (case c2 => repeat (first | assumption | exact Below.refl _ _ | apply below_alloc | apply below_drawn | apply below_drew)); rintro e w' ⟨rfl, hb⟩)
    | (go_at_call 24; (with_reducible refine (number_st w _ _ _ ?c1 ?c2).mono ?_); (case c1 => (first | omega | (simp only [ByteArray.size_append, lit_size, List.size_toArray, List.length_cons, List.length_nil, ByteArray.size_extract]; omega))); (case c2 => repeat (first | assumption | exact Below.refl _ _ | apply below_alloc | apply below_drawn | apply below_drew)); rintro e w' ⟨rfl, hb⟩))
  all_goals go_ret
  all_goals exact ⟨rfl, by repeat (first | assumption | exact Below.refl _ _ | apply below_alloc | apply below_drawn | apply below_drew)⟩

theorem num_pos {l : List Int} {k : Int} {m : Nat} (h : lNum l = (k, m, true)) : 0 < m := by
  have hi : ∀ (l : List Int) (k : Int) (m : Nat), lInt l = (k, m, true) → 0 < m := by
    intro l k m h
    cases l with
    | nil => simp [lInt] at h
    | cons c l =>
      rw [lInt_cons] at h
      split at h
      · simp only [shift, Prod.mk.injEq] at h; omega
      · exact digs_pos h
  cases l with
  | nil => simp [lNum] at h
  | cons c l =>
    rw [lNum_cons] at h
    split at h
    · simp only [shift, Prod.mk.injEq] at h; omega
    · exact hi _ _ _ h

set_option maxHeartbeats 1600000 in
set_option maxRecDepth 100000 in
theorem copperplatelaw05_NumEnds.walk (a0 : ByteArray) (a1 : Int) (w : World) (w0 : a0.size ≤ 140737488351232) (w1 : (Lit.int .i64 a1).wf = true) :
    Calls Try.prog 10 #[.string a0, .int .i64 a1] w fun e w' => e = .returned (.bool true) ∧ Below w.heap.size w w' := by
  by_cases q1 : a0.size ≤ 600
  case neg => exact numEnds_q a0 a1 w (by omega)
  by_cases hin : 0 ≤ a1 ∧ a1 ≤ a0.size
  case neg => exact numEnds_n0 a0 a1 w (by omega) (by unfold number; rw [if_neg (by omega)])
  obtain ⟨n, rfl⟩ : ∃ n : Nat, a1 = n := ⟨a1.toNat, by omega⟩
  have hN := number_list a0 n (by omega) (by omega)
  have hlen := at_length a0 n (by omega) (by omega)
  have hsh := short_num (at_ a0 n)
  have hk := kinds_num (at_ a0 n)
  have hE := ends_num ((at_ a0 n).take (lNum (at_ a0 n)).2.1) ((at_ a0 n).drop (lNum (at_ a0 n)).2.1)
  rw [List.take_append_drop, List.length_take, Nat.min_eq_left hsh] at hE
  obtain ⟨k, m, b, hr⟩ : ∃ k m b, lNum (at_ a0 n) = (k, m, b) := ⟨_, _, _, rfl⟩
  rw [hr] at hN hsh hk hE
  simp only [ab] at hN hsh hk hE
  cases b with
  | false =>
    have hk0 : k = 0 := by rcases hk with h | h; exact h.2; exact absurd h.1 (by decide)
    subst hk0
    by_cases hm : m = 0
    · exact numEnds_n0 a0 n w (by omega) (by rw [hN, hm]; simp)
    · exact numEnds_n1 a0 n (n + m) w (by omega) (by rw [hN]; simp) (by omega) (by omega) (beq_eq_false_iff_ne.2 (by omega)) (beq_eq_false_iff_ne.2 (by omega))
  | true =>
    have hm := num_pos hr
    have hk3 : k = 3 ∨ k = 4 := by rcases hk with h | h; exact absurd h.1 (by decide); exact h.2
    obtain ⟨hok, hbad⟩ := hE k rfl
    have hby : by_ (a0.extract n (n + m)) = (at_ a0 n).take m := by
      rw [by_extract]; unfold at_; rw [Int.toNat_natCast, List.take_drop, List.drop_take]
    have hsz : (a0.extract n (n + m)).size = m := by rw [ByteArray.size_extract]; omega
    have hN' : number a0 n = (k, ((n + m : Nat) : Int), true) := by rw [hN]; simp
    have g1 : number (a0.extract n (n + m)) 0 = (k, ((a0.extract n (n + m)).size : Int), true) := by
      rw [number_zero, hby, ← List.append_nil (List.take m _), hok [] rfl, hsz]
    have g2 : number (a0.extract n (n + m) ++ ⟨#[32, 120]⟩) 0 = (k, ((a0.extract n (n + m)).size : Int), true) := by
      rw [number_zero, by_append, hby, show by_ ⟨#[32, 120]⟩ = [32, 120] from rfl, hok [32, 120] rfl, hsz]
    have g3 : number (a0.extract n (n + m) ++ ⟨#[93]⟩) 0 = (k, ((a0.extract n (n + m)).size : Int), true) := by
      rw [number_zero, by_append, hby, show by_ ⟨#[93]⟩ = [93] from rfl, hok [93] rfl, hsz]
    have g4 : ∃ x y : Int, number (a0.extract n (n + m) ++ ⟨#[46]⟩) 0 = (x, y, false) := by
      refine ⟨_, _, Prod.ext rfl (Prod.ext rfl ?_)⟩
      rw [number_zero, by_append, hby, show by_ ⟨#[46]⟩ = [46] from rfl]
      exact hbad [46] (.inl rfl)
    have g5 : ∃ x y : Int, number (a0.extract n (n + m) ++ ⟨#[120]⟩) 0 = (x, y, false) := by
      refine ⟨_, _, Prod.ext rfl (Prod.ext rfl ?_)⟩
      rw [number_zero, by_append, hby, show by_ ⟨#[120]⟩ = [120] from rfl]
      exact hbad [120] (.inr rfl)
    obtain ⟨k4, e4, g4⟩ := g4
    obtain ⟨k5, e5, g5⟩ := g5
    rcases hk3 with rfl | rfl
    · exact numEnds_i a0 _ n (n + m) w (by omega) hN' (by omega) (by omega) (by omega) rfl g1 g2 g3 k4 e4 k5 e5 g4 g5
    · exact numEnds_f a0 _ n (n + m) w (by omega) hN' (by omega) (by omega) (by omega) rfl g1 g2 g3 k4 e4 k5 e5 g4 g5
end Go.Proofs.Ytdhncfkbblfokaa.G
