/-
  The law RealSorts: its walk. (Printed by gen_c10.py.)
-/
import Derived.Test.YtchbmihhkjpkaaaDoorC9
namespace Go.Proofs.YtchbmihhkjpkaaaDoor.G
open Go.RowKit Go.Proofs.YtchbmihhkjpkaaaDoorW.PrintWords Go.Proofs.YtchbmihhkjpkaaaDoor.M
set_option linter.unusedVariables false
set_option linter.unusedSimpArgs false

set_option maxHeartbeats 1600000 in
theorem sorts_0_t (a b : Nat) (w : World)
    (hS : (∀ W : World, Calls Tryd.prog 16 #[.float .f64 a] W fun e w' => e = .returned (.int .i64 0) ∧ w' = W))
    (m0 : (∀ W : World, Calls Tryd.prog 15 #[.float .f64 a, .float .f64 a] W fun e w' => e = .returned (.bool true) ∧ w' = W))
    (m1 : (∀ W : World, Calls Tryd.prog 15 #[.float .f64 a, .float .f64 b] W fun e w' => e = .returned (.bool true) ∧ w' = W))
    (m2 : (∀ W : World, Calls Tryd.prog 15 #[.float .f64 b, .float .f64 a] W fun e w' => e = .returned (.bool true) ∧ w' = W))
    (e1 : (FloatKind.f64.format.order a a == some Ordering.eq) = false)
    (e2 : (FloatKind.f64.format.order a a != some Ordering.eq) = true)
    (e3 : (FloatKind.f64.format.order b b == some Ordering.eq) = false)
    (e4 : (FloatKind.f64.format.order b b != some Ordering.eq) = true)
    : Calls Tryd.prog 6 #[.float .f64 a, .float .f64 b] w fun e w' => e = .returned (.bool true) ∧ Below w.heap.size w w' := by
  have hA := awake3 w
  all_goals
    go_enter Tryd.func6, Tryd.ntmps6
    dsimp only [List.append]
    go_wp2_with (first
      | (go_at_call 10; (with_reducible refine hA.mono ?_); rintro e w1 ⟨rfl, b1⟩)
      | (go_at_call 16; (with_reducible refine (hS _).mono ?_); rintro e w' ⟨rfl, rfl⟩)
      | (go_at_call 15; (with_reducible refine (m0 _).mono ?_); rintro e w' ⟨rfl, rfl⟩)
      | (go_at_call 15; (with_reducible refine (m1 _).mono ?_); rintro e w' ⟨rfl, rfl⟩)
      | (go_at_call 15; (with_reducible refine (m2 _).mono ?_); rintro e w' ⟨rfl, rfl⟩))
    go_ret
    exact ⟨rfl, b1⟩
set_option maxHeartbeats 1600000 in
theorem sorts_0_f (a b : Nat) (w : World)
    (hS : (∀ W : World, Calls Tryd.prog 16 #[.float .f64 a] W fun e w' => e = .returned (.int .i64 0) ∧ w' = W))
    (m0 : (∀ W : World, Calls Tryd.prog 15 #[.float .f64 a, .float .f64 a] W fun e w' => e = .returned (.bool true) ∧ w' = W))
    (m1 : (∀ W : World, Calls Tryd.prog 15 #[.float .f64 a, .float .f64 b] W fun e w' => e = .returned (.bool false) ∧ w' = W))
    (m2 : (∀ W : World, Calls Tryd.prog 15 #[.float .f64 b, .float .f64 a] W fun e w' => e = .returned (.bool false) ∧ w' = W))
    (e1 : (FloatKind.f64.format.order a a == some Ordering.eq) = false)
    (e2 : (FloatKind.f64.format.order a a != some Ordering.eq) = true)
    (e3 : (FloatKind.f64.format.order b b == some Ordering.eq) = true)
    (e4 : (FloatKind.f64.format.order b b != some Ordering.eq) = false)
    : Calls Tryd.prog 6 #[.float .f64 a, .float .f64 b] w fun e w' => e = .returned (.bool true) ∧ Below w.heap.size w w' := by
  have hA := awake3 w
  all_goals
    go_enter Tryd.func6, Tryd.ntmps6
    dsimp only [List.append]
    go_wp2_with (first
      | (go_at_call 10; (with_reducible refine hA.mono ?_); rintro e w1 ⟨rfl, b1⟩)
      | (go_at_call 16; (with_reducible refine (hS _).mono ?_); rintro e w' ⟨rfl, rfl⟩)
      | (go_at_call 15; (with_reducible refine (m0 _).mono ?_); rintro e w' ⟨rfl, rfl⟩)
      | (go_at_call 15; (with_reducible refine (m1 _).mono ?_); rintro e w' ⟨rfl, rfl⟩)
      | (go_at_call 15; (with_reducible refine (m2 _).mono ?_); rintro e w' ⟨rfl, rfl⟩))
    go_ret
    exact ⟨rfl, b1⟩
set_option maxHeartbeats 1600000 in
theorem sorts_1_t (a b : Nat) (w : World) (n : Bool)
    (hS : (∀ W : World, Calls Tryd.prog 16 #[.float .f64 a] W fun e w' => e = .returned (.int .i64 1) ∧ w' = W))
    (m0 : (∀ W : World, Calls Tryd.prog 15 #[.float .f64 a, .float .f64 a] W fun e w' => e = .returned (.bool true) ∧ w' = W))
    (m1 : (∀ W : World, Calls Tryd.prog 15 #[.float .f64 a, .float .f64 b] W fun e w' => e = .returned (.bool true) ∧ w' = W))
    (m2 : (∀ W : World, Calls Tryd.prog 15 #[.float .f64 b, .float .f64 a] W fun e w' => e = .returned (.bool true) ∧ w' = W))
    (e1 : (FloatKind.f64.format.order a a == some Ordering.eq) = true)
    (e2 : (FloatKind.f64.format.order a a != some Ordering.eq) = false)
    (n1 : (∀ W : World, Calls Tryd.prog 18 #[.float .f64 (flip a)] W fun e w' => e = .returned (.bool (!n)) ∧ w' = W))
    (n2 : (∀ W : World, Calls Tryd.prog 18 #[.float .f64 a] W fun e w' => e = .returned (.bool n) ∧ w' = W))
    (z1 : (FloatKind.f64.format.order a 0 == some Ordering.eq) = false)
    (z2 : (FloatKind.f64.format.order a 0 != some Ordering.eq) = true)
    (m : ∀ W : World, (binOp .add 22 (.float .f64 a) (.float .f64 a)).run Tryd.prog W = .ok (.float .f64 a) W)
    : Calls Tryd.prog 6 #[.float .f64 a, .float .f64 b] w fun e w' => e = .returned (.bool true) ∧ Below w.heap.size w w' := by
  have hA := awake3 w
  cases n
  all_goals
    go_enter Tryd.func6, Tryd.ntmps6
    dsimp only [List.append]
    go_wp2_with (first
      | (go_at_call 10; (with_reducible refine hA.mono ?_); rintro e w1 ⟨rfl, b1⟩)
      | (go_at_call 16; (with_reducible refine (hS _).mono ?_); rintro e w' ⟨rfl, rfl⟩)
      | (go_at_call 15; (with_reducible refine (m0 _).mono ?_); rintro e w' ⟨rfl, rfl⟩)
      | (go_at_call 15; (with_reducible refine (m1 _).mono ?_); rintro e w' ⟨rfl, rfl⟩)
      | (go_at_call 15; (with_reducible refine (m2 _).mono ?_); rintro e w' ⟨rfl, rfl⟩)
      | (go_at_call 18; (with_reducible refine (n1 _).mono ?_); rintro e w' ⟨rfl, rfl⟩)
      | (go_at_call 18; (with_reducible refine (n2 _).mono ?_); rintro e w' ⟨rfl, rfl⟩))
    go_ret
    exact ⟨rfl, b1⟩
set_option maxHeartbeats 1600000 in
theorem sorts_1_f (a b : Nat) (w : World) (n : Bool)
    (hS : (∀ W : World, Calls Tryd.prog 16 #[.float .f64 a] W fun e w' => e = .returned (.int .i64 1) ∧ w' = W))
    (m0 : (∀ W : World, Calls Tryd.prog 15 #[.float .f64 a, .float .f64 a] W fun e w' => e = .returned (.bool true) ∧ w' = W))
    (m1 : (∀ W : World, Calls Tryd.prog 15 #[.float .f64 a, .float .f64 b] W fun e w' => e = .returned (.bool false) ∧ w' = W))
    (m2 : (∀ W : World, Calls Tryd.prog 15 #[.float .f64 b, .float .f64 a] W fun e w' => e = .returned (.bool false) ∧ w' = W))
    (e1 : (FloatKind.f64.format.order a a == some Ordering.eq) = true)
    (e2 : (FloatKind.f64.format.order a a != some Ordering.eq) = false)
    (n1 : (∀ W : World, Calls Tryd.prog 18 #[.float .f64 (flip a)] W fun e w' => e = .returned (.bool (!n)) ∧ w' = W))
    (n2 : (∀ W : World, Calls Tryd.prog 18 #[.float .f64 a] W fun e w' => e = .returned (.bool n) ∧ w' = W))
    (z1 : (FloatKind.f64.format.order a 0 == some Ordering.eq) = false)
    (z2 : (FloatKind.f64.format.order a 0 != some Ordering.eq) = true)
    (m : ∀ W : World, (binOp .add 22 (.float .f64 a) (.float .f64 a)).run Tryd.prog W = .ok (.float .f64 a) W)
    : Calls Tryd.prog 6 #[.float .f64 a, .float .f64 b] w fun e w' => e = .returned (.bool true) ∧ Below w.heap.size w w' := by
  have hA := awake3 w
  cases n
  all_goals
    go_enter Tryd.func6, Tryd.ntmps6
    dsimp only [List.append]
    go_wp2_with (first
      | (go_at_call 10; (with_reducible refine hA.mono ?_); rintro e w1 ⟨rfl, b1⟩)
      | (go_at_call 16; (with_reducible refine (hS _).mono ?_); rintro e w' ⟨rfl, rfl⟩)
      | (go_at_call 15; (with_reducible refine (m0 _).mono ?_); rintro e w' ⟨rfl, rfl⟩)
      | (go_at_call 15; (with_reducible refine (m1 _).mono ?_); rintro e w' ⟨rfl, rfl⟩)
      | (go_at_call 15; (with_reducible refine (m2 _).mono ?_); rintro e w' ⟨rfl, rfl⟩)
      | (go_at_call 18; (with_reducible refine (n1 _).mono ?_); rintro e w' ⟨rfl, rfl⟩)
      | (go_at_call 18; (with_reducible refine (n2 _).mono ?_); rintro e w' ⟨rfl, rfl⟩))
    go_ret
    exact ⟨rfl, b1⟩
set_option maxHeartbeats 1600000 in
theorem sorts_2_t (a b : Nat) (w : World) (n : Bool)
    (hS : (∀ W : World, Calls Tryd.prog 16 #[.float .f64 a] W fun e w' => e = .returned (.int .i64 2) ∧ w' = W))
    (m0 : (∀ W : World, Calls Tryd.prog 15 #[.float .f64 a, .float .f64 a] W fun e w' => e = .returned (.bool true) ∧ w' = W))
    (m1 : (∀ W : World, Calls Tryd.prog 15 #[.float .f64 a, .float .f64 b] W fun e w' => e = .returned (.bool true) ∧ w' = W))
    (m2 : (∀ W : World, Calls Tryd.prog 15 #[.float .f64 b, .float .f64 a] W fun e w' => e = .returned (.bool true) ∧ w' = W))
    (e1 : (FloatKind.f64.format.order a a == some Ordering.eq) = true)
    (e2 : (FloatKind.f64.format.order a a != some Ordering.eq) = false)
    (n1 : (∀ W : World, Calls Tryd.prog 18 #[.float .f64 (flip a)] W fun e w' => e = .returned (.bool (!n)) ∧ w' = W))
    (n2 : (∀ W : World, Calls Tryd.prog 18 #[.float .f64 a] W fun e w' => e = .returned (.bool n) ∧ w' = W))
    (z1 : (FloatKind.f64.format.order a 0 == some Ordering.eq) = true)
    (z2 : (FloatKind.f64.format.order a 0 != some Ordering.eq) = false)
    : Calls Tryd.prog 6 #[.float .f64 a, .float .f64 b] w fun e w' => e = .returned (.bool true) ∧ Below w.heap.size w w' := by
  have hA := awake3 w
  cases n
  all_goals
    go_enter Tryd.func6, Tryd.ntmps6
    dsimp only [List.append]
    go_wp2_with (first
      | (go_at_call 10; (with_reducible refine hA.mono ?_); rintro e w1 ⟨rfl, b1⟩)
      | (go_at_call 16; (with_reducible refine (hS _).mono ?_); rintro e w' ⟨rfl, rfl⟩)
      | (go_at_call 15; (with_reducible refine (m0 _).mono ?_); rintro e w' ⟨rfl, rfl⟩)
      | (go_at_call 15; (with_reducible refine (m1 _).mono ?_); rintro e w' ⟨rfl, rfl⟩)
      | (go_at_call 15; (with_reducible refine (m2 _).mono ?_); rintro e w' ⟨rfl, rfl⟩)
      | (go_at_call 18; (with_reducible refine (n1 _).mono ?_); rintro e w' ⟨rfl, rfl⟩)
      | (go_at_call 18; (with_reducible refine (n2 _).mono ?_); rintro e w' ⟨rfl, rfl⟩))
    go_ret
    exact ⟨rfl, b1⟩
set_option maxHeartbeats 1600000 in
theorem sorts_2_f (a b : Nat) (w : World) (n : Bool)
    (hS : (∀ W : World, Calls Tryd.prog 16 #[.float .f64 a] W fun e w' => e = .returned (.int .i64 2) ∧ w' = W))
    (m0 : (∀ W : World, Calls Tryd.prog 15 #[.float .f64 a, .float .f64 a] W fun e w' => e = .returned (.bool true) ∧ w' = W))
    (m1 : (∀ W : World, Calls Tryd.prog 15 #[.float .f64 a, .float .f64 b] W fun e w' => e = .returned (.bool false) ∧ w' = W))
    (m2 : (∀ W : World, Calls Tryd.prog 15 #[.float .f64 b, .float .f64 a] W fun e w' => e = .returned (.bool false) ∧ w' = W))
    (e1 : (FloatKind.f64.format.order a a == some Ordering.eq) = true)
    (e2 : (FloatKind.f64.format.order a a != some Ordering.eq) = false)
    (n1 : (∀ W : World, Calls Tryd.prog 18 #[.float .f64 (flip a)] W fun e w' => e = .returned (.bool (!n)) ∧ w' = W))
    (n2 : (∀ W : World, Calls Tryd.prog 18 #[.float .f64 a] W fun e w' => e = .returned (.bool n) ∧ w' = W))
    (z1 : (FloatKind.f64.format.order a 0 == some Ordering.eq) = true)
    (z2 : (FloatKind.f64.format.order a 0 != some Ordering.eq) = false)
    : Calls Tryd.prog 6 #[.float .f64 a, .float .f64 b] w fun e w' => e = .returned (.bool true) ∧ Below w.heap.size w w' := by
  have hA := awake3 w
  cases n
  all_goals
    go_enter Tryd.func6, Tryd.ntmps6
    dsimp only [List.append]
    go_wp2_with (first
      | (go_at_call 10; (with_reducible refine hA.mono ?_); rintro e w1 ⟨rfl, b1⟩)
      | (go_at_call 16; (with_reducible refine (hS _).mono ?_); rintro e w' ⟨rfl, rfl⟩)
      | (go_at_call 15; (with_reducible refine (m0 _).mono ?_); rintro e w' ⟨rfl, rfl⟩)
      | (go_at_call 15; (with_reducible refine (m1 _).mono ?_); rintro e w' ⟨rfl, rfl⟩)
      | (go_at_call 15; (with_reducible refine (m2 _).mono ?_); rintro e w' ⟨rfl, rfl⟩)
      | (go_at_call 18; (with_reducible refine (n1 _).mono ?_); rintro e w' ⟨rfl, rfl⟩)
      | (go_at_call 18; (with_reducible refine (n2 _).mono ?_); rintro e w' ⟨rfl, rfl⟩))
    go_ret
    exact ⟨rfl, b1⟩
set_option maxHeartbeats 1600000 in
theorem sorts_3_t (a b : Nat) (w : World) (n : Bool)
    (hS : (∀ W : World, Calls Tryd.prog 16 #[.float .f64 a] W fun e w' => e = .returned (.int .i64 3) ∧ w' = W))
    (m0 : (∀ W : World, Calls Tryd.prog 15 #[.float .f64 a, .float .f64 a] W fun e w' => e = .returned (.bool true) ∧ w' = W))
    (m1 : (∀ W : World, Calls Tryd.prog 15 #[.float .f64 a, .float .f64 b] W fun e w' => e = .returned (.bool true) ∧ w' = W))
    (m2 : (∀ W : World, Calls Tryd.prog 15 #[.float .f64 b, .float .f64 a] W fun e w' => e = .returned (.bool true) ∧ w' = W))
    (e1 : (FloatKind.f64.format.order a a == some Ordering.eq) = true)
    (e2 : (FloatKind.f64.format.order a a != some Ordering.eq) = false)
    (n1 : (∀ W : World, Calls Tryd.prog 18 #[.float .f64 (flip a)] W fun e w' => e = .returned (.bool (!n)) ∧ w' = W))
    (n2 : (∀ W : World, Calls Tryd.prog 18 #[.float .f64 a] W fun e w' => e = .returned (.bool n) ∧ w' = W))
    : Calls Tryd.prog 6 #[.float .f64 a, .float .f64 b] w fun e w' => e = .returned (.bool true) ∧ Below w.heap.size w w' := by
  have hA := awake3 w
  cases n
  all_goals
    go_enter Tryd.func6, Tryd.ntmps6
    dsimp only [List.append]
    go_wp2_with (first
      | (go_at_call 10; (with_reducible refine hA.mono ?_); rintro e w1 ⟨rfl, b1⟩)
      | (go_at_call 16; (with_reducible refine (hS _).mono ?_); rintro e w' ⟨rfl, rfl⟩)
      | (go_at_call 15; (with_reducible refine (m0 _).mono ?_); rintro e w' ⟨rfl, rfl⟩)
      | (go_at_call 15; (with_reducible refine (m1 _).mono ?_); rintro e w' ⟨rfl, rfl⟩)
      | (go_at_call 15; (with_reducible refine (m2 _).mono ?_); rintro e w' ⟨rfl, rfl⟩)
      | (go_at_call 18; (with_reducible refine (n1 _).mono ?_); rintro e w' ⟨rfl, rfl⟩)
      | (go_at_call 18; (with_reducible refine (n2 _).mono ?_); rintro e w' ⟨rfl, rfl⟩))
    go_ret
    exact ⟨rfl, b1⟩
set_option maxHeartbeats 1600000 in
theorem sorts_3_f (a b : Nat) (w : World) (n : Bool)
    (hS : (∀ W : World, Calls Tryd.prog 16 #[.float .f64 a] W fun e w' => e = .returned (.int .i64 3) ∧ w' = W))
    (m0 : (∀ W : World, Calls Tryd.prog 15 #[.float .f64 a, .float .f64 a] W fun e w' => e = .returned (.bool true) ∧ w' = W))
    (m1 : (∀ W : World, Calls Tryd.prog 15 #[.float .f64 a, .float .f64 b] W fun e w' => e = .returned (.bool false) ∧ w' = W))
    (m2 : (∀ W : World, Calls Tryd.prog 15 #[.float .f64 b, .float .f64 a] W fun e w' => e = .returned (.bool false) ∧ w' = W))
    (e1 : (FloatKind.f64.format.order a a == some Ordering.eq) = true)
    (e2 : (FloatKind.f64.format.order a a != some Ordering.eq) = false)
    (n1 : (∀ W : World, Calls Tryd.prog 18 #[.float .f64 (flip a)] W fun e w' => e = .returned (.bool (!n)) ∧ w' = W))
    (n2 : (∀ W : World, Calls Tryd.prog 18 #[.float .f64 a] W fun e w' => e = .returned (.bool n) ∧ w' = W))
    : Calls Tryd.prog 6 #[.float .f64 a, .float .f64 b] w fun e w' => e = .returned (.bool true) ∧ Below w.heap.size w w' := by
  have hA := awake3 w
  cases n
  all_goals
    go_enter Tryd.func6, Tryd.ntmps6
    dsimp only [List.append]
    go_wp2_with (first
      | (go_at_call 10; (with_reducible refine hA.mono ?_); rintro e w1 ⟨rfl, b1⟩)
      | (go_at_call 16; (with_reducible refine (hS _).mono ?_); rintro e w' ⟨rfl, rfl⟩)
      | (go_at_call 15; (with_reducible refine (m0 _).mono ?_); rintro e w' ⟨rfl, rfl⟩)
      | (go_at_call 15; (with_reducible refine (m1 _).mono ?_); rintro e w' ⟨rfl, rfl⟩)
      | (go_at_call 15; (with_reducible refine (m2 _).mono ?_); rintro e w' ⟨rfl, rfl⟩)
      | (go_at_call 18; (with_reducible refine (n1 _).mono ?_); rintro e w' ⟨rfl, rfl⟩)
      | (go_at_call 18; (with_reducible refine (n2 _).mono ?_); rintro e w' ⟨rfl, rfl⟩))
    go_ret
    exact ⟨rfl, b1⟩
theorem flip_neg {a : Nat} (h : isN a = false) : negF (flip a) = !negF a := neg_flip a h
theorem sorts_all (a b : Nat) (w : World) (ha : a < 18446744073709551616) (hb : b < 18446744073709551616) : Calls Tryd.prog 6 #[.float .f64 a, .float .f64 b] w fun e w' => e = .returned (.bool true) ∧ Below w.heap.size w w' := by
  have hS := fun W : World => sort_any a W ha
  have m0 := fun W : World => same_any a a W ha ha
  have m1 := fun W : World => same_any a b W ha hb
  have m2 := fun W : World => same_any b a W hb ha
  have n1 := fun W : World => neg_any (flip a) W (flip_lt ha)
  have n2 := fun W : World => neg_any a W ha
  rw [same_self] at m0
  rw [same_swap b a] at m2
  have hr := sort_range a
  have hn := sort_nan a
  have e2 : (FloatKind.f64.format.order a a != some Ordering.eq) = isN a := by rw [isN_iff]; rfl
  have e1 : (FloatKind.f64.format.order a a == some Ordering.eq) = !isN a := by rw [← e2]; simp [bne]
  have e4 : (FloatKind.f64.format.order b b != some Ordering.eq) = isN b := by rw [isN_iff]; rfl
  have e3 : (FloatKind.f64.format.order b b == some Ordering.eq) = !isN b := by rw [← e4]; simp [bne]
  have z1 : (FloatKind.f64.format.order a 0 == some Ordering.eq) = decide (sortF a = 2) := cmp_zero a
  have z2 : (FloatKind.f64.format.order a 0 != some Ordering.eq) = !decide (sortF a = 2) := by rw [← z1]; rfl
  rcases (show sortF a = 0 ∨ sortF a = 1 ∨ sortF a = 2 ∨ sortF a = 3 by omega) with q | q | q | q
  · have hi : isN a = true := by rw [← hn, q]; rfl
    rw [q] at hS
    have hs : sameF a b = isN b := by unfold sameF; rw [hi]; simp
    rw [hs] at m1 m2
    rw [hi] at e1 e2
    cases hb2 : isN b with
    | true => rw [hb2] at m1 m2 e3 e4; exact sorts_0_t a b w hS m0 m1 m2 e1 e2 e3 e4
    | false => rw [hb2] at m1 m2 e3 e4; exact sorts_0_f a b w hS m0 m1 m2 e1 e2 e3 e4
  · have hi : isN a = false := by rw [← hn, q]; rfl
    rw [flip_neg hi] at n1
    rw [q] at hS z1 z2
    rw [hi] at e1 e2
    cases hs : sameF a b with
    | true => rw [hs] at m1 m2; exact sorts_1_t a b w _ hS m0 m1 m2 e1 e2 n1 n2 z1 z2 (fun W => run_float_arith (P := Tryd.prog) W .add 22 .f64 a a a (twice_inf q ha))
    | false => rw [hs] at m1 m2; exact sorts_1_f a b w _ hS m0 m1 m2 e1 e2 n1 n2 z1 z2 (fun W => run_float_arith (P := Tryd.prog) W .add 22 .f64 a a a (twice_inf q ha))
  · have hi : isN a = false := by rw [← hn, q]; rfl
    rw [flip_neg hi] at n1
    rw [q] at hS z1 z2
    rw [hi] at e1 e2
    cases hs : sameF a b with
    | true => rw [hs] at m1 m2; exact sorts_2_t a b w _ hS m0 m1 m2 e1 e2 n1 n2 z1 z2
    | false => rw [hs] at m1 m2; exact sorts_2_f a b w _ hS m0 m1 m2 e1 e2 n1 n2 z1 z2
  · have hi : isN a = false := by rw [← hn, q]; rfl
    rw [flip_neg hi] at n1
    rw [q] at hS z1 z2
    rw [hi] at e1 e2
    cases hs : sameF a b with
    | true => rw [hs] at m1 m2; exact sorts_3_t a b w _ hS m0 m1 m2 e1 e2 n1 n2 
    | false => rw [hs] at m1 m2; exact sorts_3_f a b w _ hS m0 m1 m2 e1 e2 n1 n2 
end Go.Proofs.YtchbmihhkjpkaaaDoor.G
