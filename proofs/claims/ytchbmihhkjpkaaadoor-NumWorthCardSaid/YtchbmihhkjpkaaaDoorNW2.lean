/-
  The law NumWorth: its walk. (Printed by gen_nw2.py.)
-/
import Derived.Test.YtchbmihhkjpkaaaDoorNW
import Derived.Test.YtchbmihhkjpkaaaDoorG9
import Derived.Test.YtchbmihhkjpkaaaDoorC9
namespace Go.Proofs.YtchbmihhkjpkaaaDoor.G
open Go.RowKit Go.Proofs.YtchbmihhkjpkaaaDoorW.PrintWords Go.Proofs.YtchbmihhkjpkaaaDoor.M
set_option linter.unusedVariables false
set_option linter.unusedSimpArgs false

theorem num_at (s : ByteArray) (r : Int × Int × Bool) (hs : s.size ≤ 1000000) (h : number s 0 = r) (W : World) :
    Calls Tryd.prog 21 #[.string s, .int .i64 0] W fun e w' => e = .returned (.tuple #[.int .i64 r.1, .int .i64 r.2.1, .bool r.2.2]) ∧ Below W.heap.size W w' := by
  subst h; exact number_st W W s 0 hs (Below.refl _ _)
theorem whole_at (s : ByteArray) (b : Bool) (hs : s.size ≤ 1000000) (h : ((number s 0).2.2 && (number s 0).2.1 == (s.size : Int)) = b) (W : World) :
    Calls Tryd.prog 20 #[.string s] W fun e w' => e = .returned (.bool b) ∧ Below W.heap.size W w' := by
  subst h; exact whole_any s hs W
set_option maxHeartbeats 1600000 in
theorem awake5 (w : World) : Calls Tryd.prog 19 #[] w fun e w' => e = .returned (.bool true) ∧ Below w.heap.size w w' := by
  have n1 := fun W : World => num_at ⟨#[45, 49, 50, 46, 53, 101, 51]⟩ (4, 7, true) (by decide) (by decide +kernel) W
  have n2 := fun W : World => num_at ⟨#[48, 49]⟩ (0, 1, false) (by decide) (by decide +kernel) W
  have n3 := fun W : World => num_at ⟨#[49, 46]⟩ (0, 2, false) (by decide) (by decide +kernel) W
  have n4 := fun W : World => num_at ⟨#[49, 97]⟩ (0, 1, false) (by decide) (by decide +kernel) W
  have h1 := fun W : World => whole_at ⟨#[48]⟩ true (by decide) (by decide +kernel) W
  have h2 := fun W : World => whole_at ⟨#[48, 32]⟩ false (by decide) (by decide +kernel) W
  go_enter Tryd.func19, Tryd.ntmps19
  go_wp2_with (first
    | (go_at_call 21; (with_reducible refine (n1 _).mono ?_); rintro e w1 ⟨rfl, b1⟩)
    | (go_at_call 21; (with_reducible refine (n2 _).mono ?_); rintro e w2 ⟨rfl, b2⟩)
    | (go_at_call 21; (with_reducible refine (n3 _).mono ?_); rintro e w3 ⟨rfl, b3⟩)
    | (go_at_call 21; (with_reducible refine (n4 _).mono ?_); rintro e w4 ⟨rfl, b4⟩)
    | (go_at_call 20; (with_reducible refine (h1 _).mono ?_); rintro e w5 ⟨rfl, b5⟩)
    | (go_at_call 20; (with_reducible refine (h2 _).mono ?_); rintro e w6 ⟨rfl, b6⟩))
  go_ret
  refine ⟨rfl, ?_⟩
  have q1 := b1.trans (b2.mono b1.size)
  have q2 := q1.trans (b3.mono q1.size)
  have q3 := q2.trans (b4.mono q2.size)
  have q4 := q3.trans (b5.mono q3.size)
  exact q4.trans (b6.mono q4.size)
set_option maxHeartbeats 800000 in
theorem nworth_long (s : ByteArray) (w : World) (h : 600 < s.size) : Calls Tryd.prog 9 #[.string s] w fun e w' => e = .returned (.bool true) ∧ Below w.heap.size w w' := by
  have hA := awake5 w
  go_enter Tryd.func9, Tryd.ntmps9
  go_wp2_with (go_at_call 19; (with_reducible refine hA.mono ?_); rintro e w1 ⟨rfl, b1⟩)
  go_ret
  exact ⟨rfl, b1⟩
set_option maxHeartbeats 800000 in
theorem nworth_no (s : ByteArray) (w : World) (h : s.size ≤ 600) (cw : ∀ W : World, Calls Tryd.prog 20 #[.string s] W fun e w' => e = .returned (.bool false) ∧ Below W.heap.size W w') : Calls Tryd.prog 9 #[.string s] w fun e w' => e = .returned (.bool true) ∧ Below w.heap.size w w' := by
  have hA := awake5 w
  go_enter Tryd.func9, Tryd.ntmps9
  go_wp2_with (first
    | (go_at_call 19; (with_reducible refine hA.mono ?_); rintro e w1 ⟨rfl, b1⟩)
    | (go_at_call 20; (with_reducible refine (cw _).mono ?_); rintro e w2 ⟨rfl, b2⟩))
  go_ret
  exact ⟨rfl, b1.trans (b2.mono b1.size)⟩
set_option maxHeartbeats 1600000 in
theorem nworth_0z3s (s : ByteArray) (w : World) (h : s.size ≤ 600) (h1 : 0 < s.size) (f : Nat) (hat0 : ∀ h : 0 < s.size, (((s[0]'h).toNat : Nat) : Int) = 48) (d3 : ((s.size : Int) == 0) = false) (d4 : (s.size == 0) = false) (d6 : ¬ 1 < (s.size : Int)) (ln : ¬ 15 < (s.size : Int)) (q : Int) (q0 : (q == 0) = false) (q00 : (q != 0) = true) (q2 : 2 ≤ q)
    (cw : ∀ W : World, Calls Tryd.prog 20 #[.string s] W fun e w' => e = .returned (.bool true) ∧ Below W.heap.size W w')
    (cn : ∀ W : World, Calls Tryd.prog 21 #[.string s, .int .i64 0] W fun e w' => e = .returned (.tuple #[.int .i64 3, .int .i64 (s.size : Int), .bool true]) ∧ Below W.heap.size W w')
    (cd : ∀ W : World, Calls Tryd.prog 22 #[.string s, .int .i64 0] W fun e w' => e = .returned (.int .i64 (s.size : Int)) ∧ Below W.heap.size W w')
    (cr : ∀ W : World, Calls Tryd.prog 12 #[.string s] W fun e w' => e = .returned (.float .f64 f) ∧ Below W.heap.size W w')
    (cs : ∀ W : World, Calls Tryd.prog 16 #[.float .f64 f] W fun e w' => e = .returned (.int .i64 q) ∧ w' = W)
    (cg : ∀ W : World, Calls Tryd.prog 18 #[.float .f64 f] W fun e w' => e = .returned (.bool false) ∧ w' = W) :
    Calls Tryd.prog 9 #[.string s] w fun e w' => e = .returned (.bool true) ∧ Below w.heap.size w w' := by
  have hA := awake5 w
  have z3 : (s = ByteArray.empty) = False := eq_false (fun e => by rw [e] at h1; simp at h1)
  go_enter Tryd.func9, Tryd.ntmps9
  go_wp2_with (first
    | (go_at_call 19; (with_reducible refine hA.mono ?_); rintro e w1 ⟨rfl, b1⟩)
    | (go_at_call 20; (with_reducible refine (cw _).mono ?_); rintro e w2 ⟨rfl, b2⟩)
    | (go_at_call 21; (with_reducible refine (cn _).mono ?_); rintro e w3 ⟨rfl, b3⟩)
    | (go_at_call 22; (with_reducible refine (cd _).mono ?_); rintro e w4 ⟨rfl, b4⟩)
    | (go_at_call 12; (with_reducible refine (cr _).mono ?_); rintro e w5 ⟨rfl, b5⟩)
    | (go_at_call 16; (with_reducible refine (cs _).mono ?_); rintro e w' ⟨rfl, rfl⟩)
    | (go_at_call 18; (with_reducible refine (cg _).mono ?_); rintro e w' ⟨rfl, rfl⟩))
  go_ret
  refine ⟨rfl, ?_⟩
  have q1 := b1.trans (b2.mono b1.size)
  have q2 := q1.trans (b3.mono q1.size)
  have q3 := q2.trans (b4.mono q2.size)
  exact q3.trans (b5.mono q3.size)
set_option maxHeartbeats 1600000 in
theorem nworth_0z4n0 (s : ByteArray) (w : World) (h : s.size ≤ 600) (h1 : 0 < s.size) (f : Nat) (hat0 : ∀ h : 0 < s.size, (((s[0]'h).toNat : Nat) : Int) = 48) (d : Nat) (d1 : ((d : Int) == (s.size : Int)) = false) (d2 : (d == s.size) = false) (d3 : ((d : Int) == 0) = false) (d4 : (d == 0) = false) (d5 : d ≤ 600) (d6 : ¬ 1 < (d : Int))
    (cw : ∀ W : World, Calls Tryd.prog 20 #[.string s] W fun e w' => e = .returned (.bool true) ∧ Below W.heap.size W w')
    (cn : ∀ W : World, Calls Tryd.prog 21 #[.string s, .int .i64 0] W fun e w' => e = .returned (.tuple #[.int .i64 4, .int .i64 (s.size : Int), .bool true]) ∧ Below W.heap.size W w')
    (cd : ∀ W : World, Calls Tryd.prog 22 #[.string s, .int .i64 0] W fun e w' => e = .returned (.int .i64 (d : Int)) ∧ Below W.heap.size W w')
    (cr : ∀ W : World, Calls Tryd.prog 12 #[.string s] W fun e w' => e = .returned (.float .f64 f) ∧ Below W.heap.size W w')
    (cs : ∀ W : World, Calls Tryd.prog 16 #[.float .f64 f] W fun e w' => e = .returned (.int .i64 0) ∧ w' = W) :
    Calls Tryd.prog 9 #[.string s] w fun e w' => e = .returned (.bool true) ∧ Below w.heap.size w w' := by
  have hA := awake5 w
  have z1 : ((s.size : Int) == 0) = false := beq_eq_false_iff_ne.2 (by omega)
  have z2 : (s.size == 0) = false := beq_eq_false_iff_ne.2 (by omega)
  have z3 : (s = ByteArray.empty) = False := eq_false (fun e => by rw [e] at h1; simp at h1)
  go_enter Tryd.func9, Tryd.ntmps9
  go_wp2_with (first
    | (go_at_call 19; (with_reducible refine hA.mono ?_); rintro e w1 ⟨rfl, b1⟩)
    | (go_at_call 20; (with_reducible refine (cw _).mono ?_); rintro e w2 ⟨rfl, b2⟩)
    | (go_at_call 21; (with_reducible refine (cn _).mono ?_); rintro e w3 ⟨rfl, b3⟩)
    | (go_at_call 22; (with_reducible refine (cd _).mono ?_); rintro e w4 ⟨rfl, b4⟩)
    | (go_at_call 12; (with_reducible refine (cr _).mono ?_); rintro e w5 ⟨rfl, b5⟩)
    | (go_at_call 16; (with_reducible refine (cs _).mono ?_); rintro e w' ⟨rfl, rfl⟩))
  go_ret
  refine ⟨rfl, ?_⟩
  have q1 := b1.trans (b2.mono b1.size)
  have q2 := q1.trans (b3.mono q1.size)
  have q3 := q2.trans (b4.mono q2.size)
  exact q3.trans (b5.mono q3.size)
set_option maxHeartbeats 1600000 in
theorem nworth_0z4nx (s : ByteArray) (w : World) (h : s.size ≤ 600) (h1 : 0 < s.size) (f : Nat) (hat0 : ∀ h : 0 < s.size, (((s[0]'h).toNat : Nat) : Int) = 48) (d : Nat) (d1 : ((d : Int) == (s.size : Int)) = false) (d2 : (d == s.size) = false) (d3 : ((d : Int) == 0) = false) (d4 : (d == 0) = false) (d5 : d ≤ 600) (d6 : ¬ 1 < (d : Int)) (q : Int) (q0 : (q == 0) = false) (q00 : (q != 0) = true)
    (cw : ∀ W : World, Calls Tryd.prog 20 #[.string s] W fun e w' => e = .returned (.bool true) ∧ Below W.heap.size W w')
    (cn : ∀ W : World, Calls Tryd.prog 21 #[.string s, .int .i64 0] W fun e w' => e = .returned (.tuple #[.int .i64 4, .int .i64 (s.size : Int), .bool true]) ∧ Below W.heap.size W w')
    (cd : ∀ W : World, Calls Tryd.prog 22 #[.string s, .int .i64 0] W fun e w' => e = .returned (.int .i64 (d : Int)) ∧ Below W.heap.size W w')
    (cr : ∀ W : World, Calls Tryd.prog 12 #[.string s] W fun e w' => e = .returned (.float .f64 f) ∧ Below W.heap.size W w')
    (cs : ∀ W : World, Calls Tryd.prog 16 #[.float .f64 f] W fun e w' => e = .returned (.int .i64 q) ∧ w' = W)
    (cg : ∀ W : World, Calls Tryd.prog 18 #[.float .f64 f] W fun e w' => e = .returned (.bool false) ∧ w' = W) :
    Calls Tryd.prog 9 #[.string s] w fun e w' => e = .returned (.bool true) ∧ Below w.heap.size w w' := by
  have hA := awake5 w
  have z1 : ((s.size : Int) == 0) = false := beq_eq_false_iff_ne.2 (by omega)
  have z2 : (s.size == 0) = false := beq_eq_false_iff_ne.2 (by omega)
  have z3 : (s = ByteArray.empty) = False := eq_false (fun e => by rw [e] at h1; simp at h1)
  go_enter Tryd.func9, Tryd.ntmps9
  go_wp2_with (first
    | (go_at_call 19; (with_reducible refine hA.mono ?_); rintro e w1 ⟨rfl, b1⟩)
    | (go_at_call 20; (with_reducible refine (cw _).mono ?_); rintro e w2 ⟨rfl, b2⟩)
    | (go_at_call 21; (with_reducible refine (cn _).mono ?_); rintro e w3 ⟨rfl, b3⟩)
    | (go_at_call 22; (with_reducible refine (cd _).mono ?_); rintro e w4 ⟨rfl, b4⟩)
    | (go_at_call 12; (with_reducible refine (cr _).mono ?_); rintro e w5 ⟨rfl, b5⟩)
    | (go_at_call 16; (with_reducible refine (cs _).mono ?_); rintro e w' ⟨rfl, rfl⟩)
    | (go_at_call 18; (with_reducible refine (cg _).mono ?_); rintro e w' ⟨rfl, rfl⟩))
  go_ret
  refine ⟨rfl, ?_⟩
  have q1 := b1.trans (b2.mono b1.size)
  have q2 := q1.trans (b3.mono q1.size)
  have q3 := q2.trans (b4.mono q2.size)
  exact q3.trans (b5.mono q3.size)
set_option maxHeartbeats 1600000 in
theorem nworth_0o3l0 (s : ByteArray) (w : World) (h : s.size ≤ 600) (h1 : 0 < s.size) (f : Nat) (c : Int) (hat0 : ∀ h : 0 < s.size, (((s[0]'h).toNat : Nat) : Int) = c) (u1 : (c == 48) = false) (u2 : (c == 45) = false) (d3 : ((s.size : Int) == 0) = false) (d4 : (s.size == 0) = false) (ln : 15 < (s.size : Int))
    (cw : ∀ W : World, Calls Tryd.prog 20 #[.string s] W fun e w' => e = .returned (.bool true) ∧ Below W.heap.size W w')
    (cn : ∀ W : World, Calls Tryd.prog 21 #[.string s, .int .i64 0] W fun e w' => e = .returned (.tuple #[.int .i64 3, .int .i64 (s.size : Int), .bool true]) ∧ Below W.heap.size W w')
    (cd : ∀ W : World, Calls Tryd.prog 22 #[.string s, .int .i64 0] W fun e w' => e = .returned (.int .i64 (s.size : Int)) ∧ Below W.heap.size W w')
    (cr : ∀ W : World, Calls Tryd.prog 12 #[.string s] W fun e w' => e = .returned (.float .f64 f) ∧ Below W.heap.size W w')
    (cs : ∀ W : World, Calls Tryd.prog 16 #[.float .f64 f] W fun e w' => e = .returned (.int .i64 0) ∧ w' = W) :
    Calls Tryd.prog 9 #[.string s] w fun e w' => e = .returned (.bool true) ∧ Below w.heap.size w w' := by
  have hA := awake5 w
  have z3 : (s = ByteArray.empty) = False := eq_false (fun e => by rw [e] at h1; simp at h1)
  go_enter Tryd.func9, Tryd.ntmps9
  go_wp2_with (first
    | (go_at_call 19; (with_reducible refine hA.mono ?_); rintro e w1 ⟨rfl, b1⟩)
    | (go_at_call 20; (with_reducible refine (cw _).mono ?_); rintro e w2 ⟨rfl, b2⟩)
    | (go_at_call 21; (with_reducible refine (cn _).mono ?_); rintro e w3 ⟨rfl, b3⟩)
    | (go_at_call 22; (with_reducible refine (cd _).mono ?_); rintro e w4 ⟨rfl, b4⟩)
    | (go_at_call 12; (with_reducible refine (cr _).mono ?_); rintro e w5 ⟨rfl, b5⟩)
    | (go_at_call 16; (with_reducible refine (cs _).mono ?_); rintro e w' ⟨rfl, rfl⟩))
  go_ret
  refine ⟨rfl, ?_⟩
  have q1 := b1.trans (b2.mono b1.size)
  have q2 := q1.trans (b3.mono q1.size)
  have q3 := q2.trans (b4.mono q2.size)
  exact q3.trans (b5.mono q3.size)
set_option maxHeartbeats 1600000 in
theorem nworth_0o3lx (s : ByteArray) (w : World) (h : s.size ≤ 600) (h1 : 0 < s.size) (f : Nat) (c : Int) (hat0 : ∀ h : 0 < s.size, (((s[0]'h).toNat : Nat) : Int) = c) (u1 : (c == 48) = false) (u2 : (c == 45) = false) (d3 : ((s.size : Int) == 0) = false) (d4 : (s.size == 0) = false) (ln : 15 < (s.size : Int)) (q : Int) (q0 : (q == 0) = false) (q00 : (q != 0) = true)
    (cw : ∀ W : World, Calls Tryd.prog 20 #[.string s] W fun e w' => e = .returned (.bool true) ∧ Below W.heap.size W w')
    (cn : ∀ W : World, Calls Tryd.prog 21 #[.string s, .int .i64 0] W fun e w' => e = .returned (.tuple #[.int .i64 3, .int .i64 (s.size : Int), .bool true]) ∧ Below W.heap.size W w')
    (cd : ∀ W : World, Calls Tryd.prog 22 #[.string s, .int .i64 0] W fun e w' => e = .returned (.int .i64 (s.size : Int)) ∧ Below W.heap.size W w')
    (cr : ∀ W : World, Calls Tryd.prog 12 #[.string s] W fun e w' => e = .returned (.float .f64 f) ∧ Below W.heap.size W w')
    (cs : ∀ W : World, Calls Tryd.prog 16 #[.float .f64 f] W fun e w' => e = .returned (.int .i64 q) ∧ w' = W)
    (cg : ∀ W : World, Calls Tryd.prog 18 #[.float .f64 f] W fun e w' => e = .returned (.bool false) ∧ w' = W) :
    Calls Tryd.prog 9 #[.string s] w fun e w' => e = .returned (.bool true) ∧ Below w.heap.size w w' := by
  have hA := awake5 w
  have z3 : (s = ByteArray.empty) = False := eq_false (fun e => by rw [e] at h1; simp at h1)
  go_enter Tryd.func9, Tryd.ntmps9
  go_wp2_with (first
    | (go_at_call 19; (with_reducible refine hA.mono ?_); rintro e w1 ⟨rfl, b1⟩)
    | (go_at_call 20; (with_reducible refine (cw _).mono ?_); rintro e w2 ⟨rfl, b2⟩)
    | (go_at_call 21; (with_reducible refine (cn _).mono ?_); rintro e w3 ⟨rfl, b3⟩)
    | (go_at_call 22; (with_reducible refine (cd _).mono ?_); rintro e w4 ⟨rfl, b4⟩)
    | (go_at_call 12; (with_reducible refine (cr _).mono ?_); rintro e w5 ⟨rfl, b5⟩)
    | (go_at_call 16; (with_reducible refine (cs _).mono ?_); rintro e w' ⟨rfl, rfl⟩)
    | (go_at_call 18; (with_reducible refine (cg _).mono ?_); rintro e w' ⟨rfl, rfl⟩))
  go_ret
  refine ⟨rfl, ?_⟩
  have q1 := b1.trans (b2.mono b1.size)
  have q2 := q1.trans (b3.mono q1.size)
  have q3 := q2.trans (b4.mono q2.size)
  exact q3.trans (b5.mono q3.size)
set_option maxHeartbeats 1600000 in
theorem nworth_0o3s (s : ByteArray) (w : World) (h : s.size ≤ 600) (h1 : 0 < s.size) (f : Nat) (c : Int) (hat0 : ∀ h : 0 < s.size, (((s[0]'h).toNat : Nat) : Int) = c) (u1 : (c == 48) = false) (u2 : (c == 45) = false) (d3 : ((s.size : Int) == 0) = false) (d4 : (s.size == 0) = false) (ln : ¬ 15 < (s.size : Int)) (q : Int) (q0 : (q == 0) = false) (q00 : (q != 0) = true) (q2 : 2 ≤ q)
    (cw : ∀ W : World, Calls Tryd.prog 20 #[.string s] W fun e w' => e = .returned (.bool true) ∧ Below W.heap.size W w')
    (cn : ∀ W : World, Calls Tryd.prog 21 #[.string s, .int .i64 0] W fun e w' => e = .returned (.tuple #[.int .i64 3, .int .i64 (s.size : Int), .bool true]) ∧ Below W.heap.size W w')
    (cd : ∀ W : World, Calls Tryd.prog 22 #[.string s, .int .i64 0] W fun e w' => e = .returned (.int .i64 (s.size : Int)) ∧ Below W.heap.size W w')
    (cr : ∀ W : World, Calls Tryd.prog 12 #[.string s] W fun e w' => e = .returned (.float .f64 f) ∧ Below W.heap.size W w')
    (cs : ∀ W : World, Calls Tryd.prog 16 #[.float .f64 f] W fun e w' => e = .returned (.int .i64 q) ∧ w' = W)
    (cg : ∀ W : World, Calls Tryd.prog 18 #[.float .f64 f] W fun e w' => e = .returned (.bool false) ∧ w' = W) :
    Calls Tryd.prog 9 #[.string s] w fun e w' => e = .returned (.bool true) ∧ Below w.heap.size w w' := by
  have hA := awake5 w
  have z3 : (s = ByteArray.empty) = False := eq_false (fun e => by rw [e] at h1; simp at h1)
  go_enter Tryd.func9, Tryd.ntmps9
  go_wp2_with (first
    | (go_at_call 19; (with_reducible refine hA.mono ?_); rintro e w1 ⟨rfl, b1⟩)
    | (go_at_call 20; (with_reducible refine (cw _).mono ?_); rintro e w2 ⟨rfl, b2⟩)
    | (go_at_call 21; (with_reducible refine (cn _).mono ?_); rintro e w3 ⟨rfl, b3⟩)
    | (go_at_call 22; (with_reducible refine (cd _).mono ?_); rintro e w4 ⟨rfl, b4⟩)
    | (go_at_call 12; (with_reducible refine (cr _).mono ?_); rintro e w5 ⟨rfl, b5⟩)
    | (go_at_call 16; (with_reducible refine (cs _).mono ?_); rintro e w' ⟨rfl, rfl⟩)
    | (go_at_call 18; (with_reducible refine (cg _).mono ?_); rintro e w' ⟨rfl, rfl⟩))
  go_ret
  refine ⟨rfl, ?_⟩
  have q1 := b1.trans (b2.mono b1.size)
  have q2 := q1.trans (b3.mono q1.size)
  have q3 := q2.trans (b4.mono q2.size)
  exact q3.trans (b5.mono q3.size)
set_option maxHeartbeats 1600000 in
theorem nworth_0o4n0 (s : ByteArray) (w : World) (h : s.size ≤ 600) (h1 : 0 < s.size) (f : Nat) (c : Int) (hat0 : ∀ h : 0 < s.size, (((s[0]'h).toNat : Nat) : Int) = c) (u1 : (c == 48) = false) (u2 : (c == 45) = false) (d : Nat) (d1 : ((d : Int) == (s.size : Int)) = false) (d2 : (d == s.size) = false) (d3 : ((d : Int) == 0) = false) (d4 : (d == 0) = false) (d5 : d ≤ 600)
    (cw : ∀ W : World, Calls Tryd.prog 20 #[.string s] W fun e w' => e = .returned (.bool true) ∧ Below W.heap.size W w')
    (cn : ∀ W : World, Calls Tryd.prog 21 #[.string s, .int .i64 0] W fun e w' => e = .returned (.tuple #[.int .i64 4, .int .i64 (s.size : Int), .bool true]) ∧ Below W.heap.size W w')
    (cd : ∀ W : World, Calls Tryd.prog 22 #[.string s, .int .i64 0] W fun e w' => e = .returned (.int .i64 (d : Int)) ∧ Below W.heap.size W w')
    (cr : ∀ W : World, Calls Tryd.prog 12 #[.string s] W fun e w' => e = .returned (.float .f64 f) ∧ Below W.heap.size W w')
    (cs : ∀ W : World, Calls Tryd.prog 16 #[.float .f64 f] W fun e w' => e = .returned (.int .i64 0) ∧ w' = W) :
    Calls Tryd.prog 9 #[.string s] w fun e w' => e = .returned (.bool true) ∧ Below w.heap.size w w' := by
  have hA := awake5 w
  have z1 : ((s.size : Int) == 0) = false := beq_eq_false_iff_ne.2 (by omega)
  have z2 : (s.size == 0) = false := beq_eq_false_iff_ne.2 (by omega)
  have z3 : (s = ByteArray.empty) = False := eq_false (fun e => by rw [e] at h1; simp at h1)
  go_enter Tryd.func9, Tryd.ntmps9
  go_wp2_with (first
    | (go_at_call 19; (with_reducible refine hA.mono ?_); rintro e w1 ⟨rfl, b1⟩)
    | (go_at_call 20; (with_reducible refine (cw _).mono ?_); rintro e w2 ⟨rfl, b2⟩)
    | (go_at_call 21; (with_reducible refine (cn _).mono ?_); rintro e w3 ⟨rfl, b3⟩)
    | (go_at_call 22; (with_reducible refine (cd _).mono ?_); rintro e w4 ⟨rfl, b4⟩)
    | (go_at_call 12; (with_reducible refine (cr _).mono ?_); rintro e w5 ⟨rfl, b5⟩)
    | (go_at_call 16; (with_reducible refine (cs _).mono ?_); rintro e w' ⟨rfl, rfl⟩))
  go_ret
  refine ⟨rfl, ?_⟩
  have q1 := b1.trans (b2.mono b1.size)
  have q2 := q1.trans (b3.mono q1.size)
  have q3 := q2.trans (b4.mono q2.size)
  exact q3.trans (b5.mono q3.size)
set_option maxHeartbeats 1600000 in
theorem nworth_0o4nx (s : ByteArray) (w : World) (h : s.size ≤ 600) (h1 : 0 < s.size) (f : Nat) (c : Int) (hat0 : ∀ h : 0 < s.size, (((s[0]'h).toNat : Nat) : Int) = c) (u1 : (c == 48) = false) (u2 : (c == 45) = false) (d : Nat) (d1 : ((d : Int) == (s.size : Int)) = false) (d2 : (d == s.size) = false) (d3 : ((d : Int) == 0) = false) (d4 : (d == 0) = false) (d5 : d ≤ 600) (q : Int) (q0 : (q == 0) = false) (q00 : (q != 0) = true)
    (cw : ∀ W : World, Calls Tryd.prog 20 #[.string s] W fun e w' => e = .returned (.bool true) ∧ Below W.heap.size W w')
    (cn : ∀ W : World, Calls Tryd.prog 21 #[.string s, .int .i64 0] W fun e w' => e = .returned (.tuple #[.int .i64 4, .int .i64 (s.size : Int), .bool true]) ∧ Below W.heap.size W w')
    (cd : ∀ W : World, Calls Tryd.prog 22 #[.string s, .int .i64 0] W fun e w' => e = .returned (.int .i64 (d : Int)) ∧ Below W.heap.size W w')
    (cr : ∀ W : World, Calls Tryd.prog 12 #[.string s] W fun e w' => e = .returned (.float .f64 f) ∧ Below W.heap.size W w')
    (cs : ∀ W : World, Calls Tryd.prog 16 #[.float .f64 f] W fun e w' => e = .returned (.int .i64 q) ∧ w' = W)
    (cg : ∀ W : World, Calls Tryd.prog 18 #[.float .f64 f] W fun e w' => e = .returned (.bool false) ∧ w' = W) :
    Calls Tryd.prog 9 #[.string s] w fun e w' => e = .returned (.bool true) ∧ Below w.heap.size w w' := by
  have hA := awake5 w
  have z1 : ((s.size : Int) == 0) = false := beq_eq_false_iff_ne.2 (by omega)
  have z2 : (s.size == 0) = false := beq_eq_false_iff_ne.2 (by omega)
  have z3 : (s = ByteArray.empty) = False := eq_false (fun e => by rw [e] at h1; simp at h1)
  go_enter Tryd.func9, Tryd.ntmps9
  go_wp2_with (first
    | (go_at_call 19; (with_reducible refine hA.mono ?_); rintro e w1 ⟨rfl, b1⟩)
    | (go_at_call 20; (with_reducible refine (cw _).mono ?_); rintro e w2 ⟨rfl, b2⟩)
    | (go_at_call 21; (with_reducible refine (cn _).mono ?_); rintro e w3 ⟨rfl, b3⟩)
    | (go_at_call 22; (with_reducible refine (cd _).mono ?_); rintro e w4 ⟨rfl, b4⟩)
    | (go_at_call 12; (with_reducible refine (cr _).mono ?_); rintro e w5 ⟨rfl, b5⟩)
    | (go_at_call 16; (with_reducible refine (cs _).mono ?_); rintro e w' ⟨rfl, rfl⟩)
    | (go_at_call 18; (with_reducible refine (cg _).mono ?_); rintro e w' ⟨rfl, rfl⟩))
  go_ret
  refine ⟨rfl, ?_⟩
  have q1 := b1.trans (b2.mono b1.size)
  have q2 := q1.trans (b3.mono q1.size)
  have q3 := q2.trans (b4.mono q2.size)
  exact q3.trans (b5.mono q3.size)
set_option maxHeartbeats 1600000 in
theorem nworth_1z3s (s : ByteArray) (w : World) (h : s.size ≤ 600) (h1 : 1 < s.size) (f : Nat) (hat0 : ∀ h : 0 < s.size, (((s[0]'h).toNat : Nat) : Int) = 45) (hat1 : ∀ h : 1 < s.size, (((s[1]'h).toNat : Nat) : Int) = 48) (d3 : ((s.size : Int) == 1) = false) (d4 : (s.size == 1) = false) (d6 : ¬ 2 < (s.size : Int)) (ln : ¬ 15 < (s.size : Int) - 1) (q : Int) (q0 : (q == 0) = false) (q00 : (q != 0) = true) (q2 : 2 ≤ q)
    (cw : ∀ W : World, Calls Tryd.prog 20 #[.string s] W fun e w' => e = .returned (.bool true) ∧ Below W.heap.size W w')
    (cn : ∀ W : World, Calls Tryd.prog 21 #[.string s, .int .i64 0] W fun e w' => e = .returned (.tuple #[.int .i64 3, .int .i64 (s.size : Int), .bool true]) ∧ Below W.heap.size W w')
    (cd : ∀ W : World, Calls Tryd.prog 22 #[.string s, .int .i64 1] W fun e w' => e = .returned (.int .i64 (s.size : Int)) ∧ Below W.heap.size W w')
    (cr : ∀ W : World, Calls Tryd.prog 12 #[.string s] W fun e w' => e = .returned (.float .f64 f) ∧ Below W.heap.size W w')
    (cs : ∀ W : World, Calls Tryd.prog 16 #[.float .f64 f] W fun e w' => e = .returned (.int .i64 q) ∧ w' = W)
    (cg : ∀ W : World, Calls Tryd.prog 18 #[.float .f64 f] W fun e w' => e = .returned (.bool true) ∧ w' = W) :
    Calls Tryd.prog 9 #[.string s] w fun e w' => e = .returned (.bool true) ∧ Below w.heap.size w w' := by
  have hA := awake5 w
  have z1 : ((s.size : Int) == 0) = false := beq_eq_false_iff_ne.2 (by omega)
  have z2 : (s.size == 0) = false := beq_eq_false_iff_ne.2 (by omega)
  go_enter Tryd.func9, Tryd.ntmps9
  go_wp2_with (first
    | (go_at_call 19; (with_reducible refine hA.mono ?_); rintro e w1 ⟨rfl, b1⟩)
    | (go_at_call 20; (with_reducible refine (cw _).mono ?_); rintro e w2 ⟨rfl, b2⟩)
    | (go_at_call 21; (with_reducible refine (cn _).mono ?_); rintro e w3 ⟨rfl, b3⟩)
    | (go_at_call 22; (with_reducible refine (cd _).mono ?_); rintro e w4 ⟨rfl, b4⟩)
    | (go_at_call 12; (with_reducible refine (cr _).mono ?_); rintro e w5 ⟨rfl, b5⟩)
    | (go_at_call 16; (with_reducible refine (cs _).mono ?_); rintro e w' ⟨rfl, rfl⟩)
    | (go_at_call 18; (with_reducible refine (cg _).mono ?_); rintro e w' ⟨rfl, rfl⟩))
  go_ret
  refine ⟨rfl, ?_⟩
  have q1 := b1.trans (b2.mono b1.size)
  have q2 := q1.trans (b3.mono q1.size)
  have q3 := q2.trans (b4.mono q2.size)
  exact q3.trans (b5.mono q3.size)
set_option maxHeartbeats 1600000 in
theorem nworth_1z4n0 (s : ByteArray) (w : World) (h : s.size ≤ 600) (h1 : 1 < s.size) (f : Nat) (hat0 : ∀ h : 0 < s.size, (((s[0]'h).toNat : Nat) : Int) = 45) (hat1 : ∀ h : 1 < s.size, (((s[1]'h).toNat : Nat) : Int) = 48) (d : Nat) (d1 : ((d : Int) == (s.size : Int)) = false) (d2 : (d == s.size) = false) (d3 : ((d : Int) == 1) = false) (d4 : (d == 1) = false) (d5 : d ≤ 600) (d6 : ¬ 2 < (d : Int))
    (cw : ∀ W : World, Calls Tryd.prog 20 #[.string s] W fun e w' => e = .returned (.bool true) ∧ Below W.heap.size W w')
    (cn : ∀ W : World, Calls Tryd.prog 21 #[.string s, .int .i64 0] W fun e w' => e = .returned (.tuple #[.int .i64 4, .int .i64 (s.size : Int), .bool true]) ∧ Below W.heap.size W w')
    (cd : ∀ W : World, Calls Tryd.prog 22 #[.string s, .int .i64 1] W fun e w' => e = .returned (.int .i64 (d : Int)) ∧ Below W.heap.size W w')
    (cr : ∀ W : World, Calls Tryd.prog 12 #[.string s] W fun e w' => e = .returned (.float .f64 f) ∧ Below W.heap.size W w')
    (cs : ∀ W : World, Calls Tryd.prog 16 #[.float .f64 f] W fun e w' => e = .returned (.int .i64 0) ∧ w' = W) :
    Calls Tryd.prog 9 #[.string s] w fun e w' => e = .returned (.bool true) ∧ Below w.heap.size w w' := by
  have hA := awake5 w
  have z1 : ((s.size : Int) == 0) = false := beq_eq_false_iff_ne.2 (by omega)
  have z2 : (s.size == 0) = false := beq_eq_false_iff_ne.2 (by omega)
  go_enter Tryd.func9, Tryd.ntmps9
  go_wp2_with (first
    | (go_at_call 19; (with_reducible refine hA.mono ?_); rintro e w1 ⟨rfl, b1⟩)
    | (go_at_call 20; (with_reducible refine (cw _).mono ?_); rintro e w2 ⟨rfl, b2⟩)
    | (go_at_call 21; (with_reducible refine (cn _).mono ?_); rintro e w3 ⟨rfl, b3⟩)
    | (go_at_call 22; (with_reducible refine (cd _).mono ?_); rintro e w4 ⟨rfl, b4⟩)
    | (go_at_call 12; (with_reducible refine (cr _).mono ?_); rintro e w5 ⟨rfl, b5⟩)
    | (go_at_call 16; (with_reducible refine (cs _).mono ?_); rintro e w' ⟨rfl, rfl⟩))
  go_ret
  refine ⟨rfl, ?_⟩
  have q1 := b1.trans (b2.mono b1.size)
  have q2 := q1.trans (b3.mono q1.size)
  have q3 := q2.trans (b4.mono q2.size)
  exact q3.trans (b5.mono q3.size)
set_option maxHeartbeats 1600000 in
theorem nworth_1z4nx (s : ByteArray) (w : World) (h : s.size ≤ 600) (h1 : 1 < s.size) (f : Nat) (hat0 : ∀ h : 0 < s.size, (((s[0]'h).toNat : Nat) : Int) = 45) (hat1 : ∀ h : 1 < s.size, (((s[1]'h).toNat : Nat) : Int) = 48) (d : Nat) (d1 : ((d : Int) == (s.size : Int)) = false) (d2 : (d == s.size) = false) (d3 : ((d : Int) == 1) = false) (d4 : (d == 1) = false) (d5 : d ≤ 600) (d6 : ¬ 2 < (d : Int)) (q : Int) (q0 : (q == 0) = false) (q00 : (q != 0) = true)
    (cw : ∀ W : World, Calls Tryd.prog 20 #[.string s] W fun e w' => e = .returned (.bool true) ∧ Below W.heap.size W w')
    (cn : ∀ W : World, Calls Tryd.prog 21 #[.string s, .int .i64 0] W fun e w' => e = .returned (.tuple #[.int .i64 4, .int .i64 (s.size : Int), .bool true]) ∧ Below W.heap.size W w')
    (cd : ∀ W : World, Calls Tryd.prog 22 #[.string s, .int .i64 1] W fun e w' => e = .returned (.int .i64 (d : Int)) ∧ Below W.heap.size W w')
    (cr : ∀ W : World, Calls Tryd.prog 12 #[.string s] W fun e w' => e = .returned (.float .f64 f) ∧ Below W.heap.size W w')
    (cs : ∀ W : World, Calls Tryd.prog 16 #[.float .f64 f] W fun e w' => e = .returned (.int .i64 q) ∧ w' = W)
    (cg : ∀ W : World, Calls Tryd.prog 18 #[.float .f64 f] W fun e w' => e = .returned (.bool true) ∧ w' = W) :
    Calls Tryd.prog 9 #[.string s] w fun e w' => e = .returned (.bool true) ∧ Below w.heap.size w w' := by
  have hA := awake5 w
  have z1 : ((s.size : Int) == 0) = false := beq_eq_false_iff_ne.2 (by omega)
  have z2 : (s.size == 0) = false := beq_eq_false_iff_ne.2 (by omega)
  go_enter Tryd.func9, Tryd.ntmps9
  go_wp2_with (first
    | (go_at_call 19; (with_reducible refine hA.mono ?_); rintro e w1 ⟨rfl, b1⟩)
    | (go_at_call 20; (with_reducible refine (cw _).mono ?_); rintro e w2 ⟨rfl, b2⟩)
    | (go_at_call 21; (with_reducible refine (cn _).mono ?_); rintro e w3 ⟨rfl, b3⟩)
    | (go_at_call 22; (with_reducible refine (cd _).mono ?_); rintro e w4 ⟨rfl, b4⟩)
    | (go_at_call 12; (with_reducible refine (cr _).mono ?_); rintro e w5 ⟨rfl, b5⟩)
    | (go_at_call 16; (with_reducible refine (cs _).mono ?_); rintro e w' ⟨rfl, rfl⟩)
    | (go_at_call 18; (with_reducible refine (cg _).mono ?_); rintro e w' ⟨rfl, rfl⟩))
  go_ret
  refine ⟨rfl, ?_⟩
  have q1 := b1.trans (b2.mono b1.size)
  have q2 := q1.trans (b3.mono q1.size)
  have q3 := q2.trans (b4.mono q2.size)
  exact q3.trans (b5.mono q3.size)
set_option maxHeartbeats 1600000 in
theorem nworth_1o3l0 (s : ByteArray) (w : World) (h : s.size ≤ 600) (h1 : 1 < s.size) (f : Nat) (c : Int) (hat0 : ∀ h : 0 < s.size, (((s[0]'h).toNat : Nat) : Int) = 45) (hat1 : ∀ h : 1 < s.size, (((s[1]'h).toNat : Nat) : Int) = c) (u1 : (c == 48) = false) (d3 : ((s.size : Int) == 1) = false) (d4 : (s.size == 1) = false) (ln : 15 < (s.size : Int) - 1)
    (cw : ∀ W : World, Calls Tryd.prog 20 #[.string s] W fun e w' => e = .returned (.bool true) ∧ Below W.heap.size W w')
    (cn : ∀ W : World, Calls Tryd.prog 21 #[.string s, .int .i64 0] W fun e w' => e = .returned (.tuple #[.int .i64 3, .int .i64 (s.size : Int), .bool true]) ∧ Below W.heap.size W w')
    (cd : ∀ W : World, Calls Tryd.prog 22 #[.string s, .int .i64 1] W fun e w' => e = .returned (.int .i64 (s.size : Int)) ∧ Below W.heap.size W w')
    (cr : ∀ W : World, Calls Tryd.prog 12 #[.string s] W fun e w' => e = .returned (.float .f64 f) ∧ Below W.heap.size W w')
    (cs : ∀ W : World, Calls Tryd.prog 16 #[.float .f64 f] W fun e w' => e = .returned (.int .i64 0) ∧ w' = W) :
    Calls Tryd.prog 9 #[.string s] w fun e w' => e = .returned (.bool true) ∧ Below w.heap.size w w' := by
  have hA := awake5 w
  have z1 : ((s.size : Int) == 0) = false := beq_eq_false_iff_ne.2 (by omega)
  have z2 : (s.size == 0) = false := beq_eq_false_iff_ne.2 (by omega)
  go_enter Tryd.func9, Tryd.ntmps9
  go_wp2_with (first
    | (go_at_call 19; (with_reducible refine hA.mono ?_); rintro e w1 ⟨rfl, b1⟩)
    | (go_at_call 20; (with_reducible refine (cw _).mono ?_); rintro e w2 ⟨rfl, b2⟩)
    | (go_at_call 21; (with_reducible refine (cn _).mono ?_); rintro e w3 ⟨rfl, b3⟩)
    | (go_at_call 22; (with_reducible refine (cd _).mono ?_); rintro e w4 ⟨rfl, b4⟩)
    | (go_at_call 12; (with_reducible refine (cr _).mono ?_); rintro e w5 ⟨rfl, b5⟩)
    | (go_at_call 16; (with_reducible refine (cs _).mono ?_); rintro e w' ⟨rfl, rfl⟩))
  go_ret
  refine ⟨rfl, ?_⟩
  have q1 := b1.trans (b2.mono b1.size)
  have q2 := q1.trans (b3.mono q1.size)
  have q3 := q2.trans (b4.mono q2.size)
  exact q3.trans (b5.mono q3.size)
set_option maxHeartbeats 1600000 in
theorem nworth_1o3lx (s : ByteArray) (w : World) (h : s.size ≤ 600) (h1 : 1 < s.size) (f : Nat) (c : Int) (hat0 : ∀ h : 0 < s.size, (((s[0]'h).toNat : Nat) : Int) = 45) (hat1 : ∀ h : 1 < s.size, (((s[1]'h).toNat : Nat) : Int) = c) (u1 : (c == 48) = false) (d3 : ((s.size : Int) == 1) = false) (d4 : (s.size == 1) = false) (ln : 15 < (s.size : Int) - 1) (q : Int) (q0 : (q == 0) = false) (q00 : (q != 0) = true)
    (cw : ∀ W : World, Calls Tryd.prog 20 #[.string s] W fun e w' => e = .returned (.bool true) ∧ Below W.heap.size W w')
    (cn : ∀ W : World, Calls Tryd.prog 21 #[.string s, .int .i64 0] W fun e w' => e = .returned (.tuple #[.int .i64 3, .int .i64 (s.size : Int), .bool true]) ∧ Below W.heap.size W w')
    (cd : ∀ W : World, Calls Tryd.prog 22 #[.string s, .int .i64 1] W fun e w' => e = .returned (.int .i64 (s.size : Int)) ∧ Below W.heap.size W w')
    (cr : ∀ W : World, Calls Tryd.prog 12 #[.string s] W fun e w' => e = .returned (.float .f64 f) ∧ Below W.heap.size W w')
    (cs : ∀ W : World, Calls Tryd.prog 16 #[.float .f64 f] W fun e w' => e = .returned (.int .i64 q) ∧ w' = W)
    (cg : ∀ W : World, Calls Tryd.prog 18 #[.float .f64 f] W fun e w' => e = .returned (.bool true) ∧ w' = W) :
    Calls Tryd.prog 9 #[.string s] w fun e w' => e = .returned (.bool true) ∧ Below w.heap.size w w' := by
  have hA := awake5 w
  have z1 : ((s.size : Int) == 0) = false := beq_eq_false_iff_ne.2 (by omega)
  have z2 : (s.size == 0) = false := beq_eq_false_iff_ne.2 (by omega)
  go_enter Tryd.func9, Tryd.ntmps9
  go_wp2_with (first
    | (go_at_call 19; (with_reducible refine hA.mono ?_); rintro e w1 ⟨rfl, b1⟩)
    | (go_at_call 20; (with_reducible refine (cw _).mono ?_); rintro e w2 ⟨rfl, b2⟩)
    | (go_at_call 21; (with_reducible refine (cn _).mono ?_); rintro e w3 ⟨rfl, b3⟩)
    | (go_at_call 22; (with_reducible refine (cd _).mono ?_); rintro e w4 ⟨rfl, b4⟩)
    | (go_at_call 12; (with_reducible refine (cr _).mono ?_); rintro e w5 ⟨rfl, b5⟩)
    | (go_at_call 16; (with_reducible refine (cs _).mono ?_); rintro e w' ⟨rfl, rfl⟩)
    | (go_at_call 18; (with_reducible refine (cg _).mono ?_); rintro e w' ⟨rfl, rfl⟩))
  go_ret
  refine ⟨rfl, ?_⟩
  have q1 := b1.trans (b2.mono b1.size)
  have q2 := q1.trans (b3.mono q1.size)
  have q3 := q2.trans (b4.mono q2.size)
  exact q3.trans (b5.mono q3.size)
set_option maxHeartbeats 1600000 in
theorem nworth_1o3s (s : ByteArray) (w : World) (h : s.size ≤ 600) (h1 : 1 < s.size) (f : Nat) (c : Int) (hat0 : ∀ h : 0 < s.size, (((s[0]'h).toNat : Nat) : Int) = 45) (hat1 : ∀ h : 1 < s.size, (((s[1]'h).toNat : Nat) : Int) = c) (u1 : (c == 48) = false) (d3 : ((s.size : Int) == 1) = false) (d4 : (s.size == 1) = false) (ln : ¬ 15 < (s.size : Int) - 1) (q : Int) (q0 : (q == 0) = false) (q00 : (q != 0) = true) (q2 : 2 ≤ q)
    (cw : ∀ W : World, Calls Tryd.prog 20 #[.string s] W fun e w' => e = .returned (.bool true) ∧ Below W.heap.size W w')
    (cn : ∀ W : World, Calls Tryd.prog 21 #[.string s, .int .i64 0] W fun e w' => e = .returned (.tuple #[.int .i64 3, .int .i64 (s.size : Int), .bool true]) ∧ Below W.heap.size W w')
    (cd : ∀ W : World, Calls Tryd.prog 22 #[.string s, .int .i64 1] W fun e w' => e = .returned (.int .i64 (s.size : Int)) ∧ Below W.heap.size W w')
    (cr : ∀ W : World, Calls Tryd.prog 12 #[.string s] W fun e w' => e = .returned (.float .f64 f) ∧ Below W.heap.size W w')
    (cs : ∀ W : World, Calls Tryd.prog 16 #[.float .f64 f] W fun e w' => e = .returned (.int .i64 q) ∧ w' = W)
    (cg : ∀ W : World, Calls Tryd.prog 18 #[.float .f64 f] W fun e w' => e = .returned (.bool true) ∧ w' = W) :
    Calls Tryd.prog 9 #[.string s] w fun e w' => e = .returned (.bool true) ∧ Below w.heap.size w w' := by
  have hA := awake5 w
  have z1 : ((s.size : Int) == 0) = false := beq_eq_false_iff_ne.2 (by omega)
  have z2 : (s.size == 0) = false := beq_eq_false_iff_ne.2 (by omega)
  go_enter Tryd.func9, Tryd.ntmps9
  go_wp2_with (first
    | (go_at_call 19; (with_reducible refine hA.mono ?_); rintro e w1 ⟨rfl, b1⟩)
    | (go_at_call 20; (with_reducible refine (cw _).mono ?_); rintro e w2 ⟨rfl, b2⟩)
    | (go_at_call 21; (with_reducible refine (cn _).mono ?_); rintro e w3 ⟨rfl, b3⟩)
    | (go_at_call 22; (with_reducible refine (cd _).mono ?_); rintro e w4 ⟨rfl, b4⟩)
    | (go_at_call 12; (with_reducible refine (cr _).mono ?_); rintro e w5 ⟨rfl, b5⟩)
    | (go_at_call 16; (with_reducible refine (cs _).mono ?_); rintro e w' ⟨rfl, rfl⟩)
    | (go_at_call 18; (with_reducible refine (cg _).mono ?_); rintro e w' ⟨rfl, rfl⟩))
  go_ret
  refine ⟨rfl, ?_⟩
  have q1 := b1.trans (b2.mono b1.size)
  have q2 := q1.trans (b3.mono q1.size)
  have q3 := q2.trans (b4.mono q2.size)
  exact q3.trans (b5.mono q3.size)
set_option maxHeartbeats 1600000 in
theorem nworth_1o4n0 (s : ByteArray) (w : World) (h : s.size ≤ 600) (h1 : 1 < s.size) (f : Nat) (c : Int) (hat0 : ∀ h : 0 < s.size, (((s[0]'h).toNat : Nat) : Int) = 45) (hat1 : ∀ h : 1 < s.size, (((s[1]'h).toNat : Nat) : Int) = c) (u1 : (c == 48) = false) (d : Nat) (d1 : ((d : Int) == (s.size : Int)) = false) (d2 : (d == s.size) = false) (d3 : ((d : Int) == 1) = false) (d4 : (d == 1) = false) (d5 : d ≤ 600)
    (cw : ∀ W : World, Calls Tryd.prog 20 #[.string s] W fun e w' => e = .returned (.bool true) ∧ Below W.heap.size W w')
    (cn : ∀ W : World, Calls Tryd.prog 21 #[.string s, .int .i64 0] W fun e w' => e = .returned (.tuple #[.int .i64 4, .int .i64 (s.size : Int), .bool true]) ∧ Below W.heap.size W w')
    (cd : ∀ W : World, Calls Tryd.prog 22 #[.string s, .int .i64 1] W fun e w' => e = .returned (.int .i64 (d : Int)) ∧ Below W.heap.size W w')
    (cr : ∀ W : World, Calls Tryd.prog 12 #[.string s] W fun e w' => e = .returned (.float .f64 f) ∧ Below W.heap.size W w')
    (cs : ∀ W : World, Calls Tryd.prog 16 #[.float .f64 f] W fun e w' => e = .returned (.int .i64 0) ∧ w' = W) :
    Calls Tryd.prog 9 #[.string s] w fun e w' => e = .returned (.bool true) ∧ Below w.heap.size w w' := by
  have hA := awake5 w
  have z1 : ((s.size : Int) == 0) = false := beq_eq_false_iff_ne.2 (by omega)
  have z2 : (s.size == 0) = false := beq_eq_false_iff_ne.2 (by omega)
  go_enter Tryd.func9, Tryd.ntmps9
  go_wp2_with (first
    | (go_at_call 19; (with_reducible refine hA.mono ?_); rintro e w1 ⟨rfl, b1⟩)
    | (go_at_call 20; (with_reducible refine (cw _).mono ?_); rintro e w2 ⟨rfl, b2⟩)
    | (go_at_call 21; (with_reducible refine (cn _).mono ?_); rintro e w3 ⟨rfl, b3⟩)
    | (go_at_call 22; (with_reducible refine (cd _).mono ?_); rintro e w4 ⟨rfl, b4⟩)
    | (go_at_call 12; (with_reducible refine (cr _).mono ?_); rintro e w5 ⟨rfl, b5⟩)
    | (go_at_call 16; (with_reducible refine (cs _).mono ?_); rintro e w' ⟨rfl, rfl⟩))
  go_ret
  refine ⟨rfl, ?_⟩
  have q1 := b1.trans (b2.mono b1.size)
  have q2 := q1.trans (b3.mono q1.size)
  have q3 := q2.trans (b4.mono q2.size)
  exact q3.trans (b5.mono q3.size)
set_option maxHeartbeats 1600000 in
theorem nworth_1o4nx (s : ByteArray) (w : World) (h : s.size ≤ 600) (h1 : 1 < s.size) (f : Nat) (c : Int) (hat0 : ∀ h : 0 < s.size, (((s[0]'h).toNat : Nat) : Int) = 45) (hat1 : ∀ h : 1 < s.size, (((s[1]'h).toNat : Nat) : Int) = c) (u1 : (c == 48) = false) (d : Nat) (d1 : ((d : Int) == (s.size : Int)) = false) (d2 : (d == s.size) = false) (d3 : ((d : Int) == 1) = false) (d4 : (d == 1) = false) (d5 : d ≤ 600) (q : Int) (q0 : (q == 0) = false) (q00 : (q != 0) = true)
    (cw : ∀ W : World, Calls Tryd.prog 20 #[.string s] W fun e w' => e = .returned (.bool true) ∧ Below W.heap.size W w')
    (cn : ∀ W : World, Calls Tryd.prog 21 #[.string s, .int .i64 0] W fun e w' => e = .returned (.tuple #[.int .i64 4, .int .i64 (s.size : Int), .bool true]) ∧ Below W.heap.size W w')
    (cd : ∀ W : World, Calls Tryd.prog 22 #[.string s, .int .i64 1] W fun e w' => e = .returned (.int .i64 (d : Int)) ∧ Below W.heap.size W w')
    (cr : ∀ W : World, Calls Tryd.prog 12 #[.string s] W fun e w' => e = .returned (.float .f64 f) ∧ Below W.heap.size W w')
    (cs : ∀ W : World, Calls Tryd.prog 16 #[.float .f64 f] W fun e w' => e = .returned (.int .i64 q) ∧ w' = W)
    (cg : ∀ W : World, Calls Tryd.prog 18 #[.float .f64 f] W fun e w' => e = .returned (.bool true) ∧ w' = W) :
    Calls Tryd.prog 9 #[.string s] w fun e w' => e = .returned (.bool true) ∧ Below w.heap.size w w' := by
  have hA := awake5 w
  have z1 : ((s.size : Int) == 0) = false := beq_eq_false_iff_ne.2 (by omega)
  have z2 : (s.size == 0) = false := beq_eq_false_iff_ne.2 (by omega)
  go_enter Tryd.func9, Tryd.ntmps9
  go_wp2_with (first
    | (go_at_call 19; (with_reducible refine hA.mono ?_); rintro e w1 ⟨rfl, b1⟩)
    | (go_at_call 20; (with_reducible refine (cw _).mono ?_); rintro e w2 ⟨rfl, b2⟩)
    | (go_at_call 21; (with_reducible refine (cn _).mono ?_); rintro e w3 ⟨rfl, b3⟩)
    | (go_at_call 22; (with_reducible refine (cd _).mono ?_); rintro e w4 ⟨rfl, b4⟩)
    | (go_at_call 12; (with_reducible refine (cr _).mono ?_); rintro e w5 ⟨rfl, b5⟩)
    | (go_at_call 16; (with_reducible refine (cs _).mono ?_); rintro e w' ⟨rfl, rfl⟩)
    | (go_at_call 18; (with_reducible refine (cg _).mono ?_); rintro e w' ⟨rfl, rfl⟩))
  go_ret
  refine ⟨rfl, ?_⟩
  have q1 := b1.trans (b2.mono b1.size)
  have q2 := q1.trans (b3.mono q1.size)
  have q3 := q2.trans (b4.mono q2.size)
  exact q3.trans (b5.mono q3.size)
theorem dig_full {m : List Int} (h : ¬ dig m < m.length) : Digs m := by
  intro c hc
  exact digits_ge m.length (show m.length ≤ dig m by omega) c (by rw [List.take_length]; exact hc)
theorem num_all (s : ByteArray) (w : World) (h : s.size ≤ 600) (k : Int) (hk : lNum (by_ s) = (k, (by_ s).length, true)) (h0 : 0 < s.size) :
    Calls Tryd.prog 9 #[.string s] w fun e w' => e = .returned (.bool true) ∧ Below w.heap.size w w' := by
  have hl := by_length s
  have hnum : number s 0 = (k, (s.size : Int), true) := by rw [number_zero, hk, hl]
  have cw := fun W : World => whole_at s true (by omega) (by rw [hnum]; simp) W
  have cn := fun W : World => num_at s _ (by omega) hnum W
  have cr := fun W : World => real_any s W (by omega)
  have hf := realF_lt (by_ s)
  have cs := fun W : World => sort_any _ W hf
  have cg := fun W : World => neg_any _ W hf
  have hat0 : ∀ h : 0 < s.size, (((s[0]'h).toNat : Nat) : Int) = bt s 0 := fun h => bt_at s 0 h
  have hc0 : by_ s = bt s 0 :: at_ s 1 := by have := at_cons s 0 (by omega) (by omega); rw [at_zero] at this; exact this
  have hl1 : (at_ s 1).length = s.size - 1 := by have := at_length s 1 (by omega) (by omega); omega
  obtain ⟨c0, e0⟩ : ∃ c, bt s 0 = c := ⟨_, rfl⟩
  rw [e0] at hc0
  simp only [e0] at hat0
  by_cases h45 : c0 = 45
  · subst h45
    rw [hc0] at hk
    have hi := num_minus hk
    obtain ⟨i1, i2, i3, i4⟩ := int_law hi
    have ef : realF (by_ s) = sgv (rval (at_ s 1)) true := by rw [hc0, real_minus]
    rw [ef] at cr cs cg
    have hat1 : ∀ h : 1 < s.size, (((s[1]'h).toNat : Nat) : Int) = bt s 1 := fun h => bt_at s 1 h
    have hc1 : at_ s 1 = bt s 1 :: at_ s 2 := at_cons s 1 (by omega) (by omega)
    have cd := fun W : World => digits_any s 1 W (by omega)
    have eu : upto isDig s 1 = ((1 + dig (at_ s 1) : Nat) : Int) := by unfold upto; rw [if_pos ⟨by omega, by omega⟩]; show (1 : Int) + (dig (at_ s 1) : Nat) = _; omega
    simp only [eu] at cd
    obtain ⟨d, hd⟩ : ∃ d, dig (at_ s 1) = d := ⟨_, rfl⟩
    have hneg := sgv_neg (at_ s 1) true
    have hsort := fun q hl => digs_sort (m := at_ s 1) (dig_full (m := at_ s 1) q) (by intro e; rw [e] at i1; simp at i1) hl true
    rw [hd] at i2 i3 i4 hsort
    simp only [hd] at cd
    obtain ⟨c, e1⟩ : ∃ c, bt s 1 = c := ⟨_, rfl⟩
    rw [e1] at hc1
    simp only [e1] at hat1
    rw [hl1] at i1 i4 hsort
    obtain ⟨f, hfe⟩ : ∃ f, sgv (rval (at_ s 1)) true = f := ⟨_, rfl⟩
    rw [hfe] at hneg cr cs cg
    simp only [hfe] at hsort
    by_cases h48 : c = 48
    · have i3' := i3 (by rw [hc1, h48]; rfl)
      rw [h48] at hat1
      rcases i4 with ⟨rfl, i5⟩ | ⟨rfl, i5⟩
      · have ed : ((1 + d : Nat) : Int) = (s.size : Int) := by omega
        simp only [ed] at cd
        · have ln : ¬ 15 < (s.size : Int) - 1 := by omega
          have hs2 := hsort (by omega) (by omega)
          rw [hneg (by omega)] at cg
          exact nworth_1z3s s w h (by omega) f hat0 hat1 (beq_eq_false_iff_ne.2 (by omega)) (beq_eq_false_iff_ne.2 (by omega)) (by omega) (by omega) _ (beq_eq_false_iff_ne.2 (by omega)) (bne_iff_ne.2 (by omega)) hs2 cw cn cd cr cs cg
      · by_cases hq : sortF f = 0
        · rw [hq] at cs
          exact nworth_1z4n0 s w h (by omega) f hat0 hat1 (1 + d) (beq_eq_false_iff_ne.2 (by omega)) (beq_eq_false_iff_ne.2 (by omega)) (beq_eq_false_iff_ne.2 (by omega)) (beq_eq_false_iff_ne.2 (by omega)) (by omega) (by omega) cw cn cd cr cs
        · rw [hneg hq] at cg
          exact nworth_1z4nx s w h (by omega) f hat0 hat1 (1 + d) (beq_eq_false_iff_ne.2 (by omega)) (beq_eq_false_iff_ne.2 (by omega)) (beq_eq_false_iff_ne.2 (by omega)) (beq_eq_false_iff_ne.2 (by omega)) (by omega) (by omega) _ (beq_eq_false_iff_ne.2 hq) (bne_iff_ne.2 hq) cw cn cd cr cs cg
    · have u1 : (c == 48) = false := beq_eq_false_iff_ne.2 h48
      rcases i4 with ⟨rfl, i5⟩ | ⟨rfl, i5⟩
      · have ed : ((1 + d : Nat) : Int) = (s.size : Int) := by omega
        simp only [ed] at cd
        by_cases ln : 15 < (s.size : Int) - 1
        · by_cases hq : sortF f = 0
          · rw [hq] at cs
            exact nworth_1o3l0 s w h (by omega) f c hat0 hat1 u1 (beq_eq_false_iff_ne.2 (by omega)) (beq_eq_false_iff_ne.2 (by omega)) (by omega) cw cn cd cr cs
          · rw [hneg hq] at cg
            exact nworth_1o3lx s w h (by omega) f c hat0 hat1 u1 (beq_eq_false_iff_ne.2 (by omega)) (beq_eq_false_iff_ne.2 (by omega)) (by omega) _ (beq_eq_false_iff_ne.2 hq) (bne_iff_ne.2 hq) cw cn cd cr cs cg
        · have hs2 := hsort (by omega) (by omega)
          rw [hneg (by omega)] at cg
          exact nworth_1o3s s w h (by omega) f c hat0 hat1 u1 (beq_eq_false_iff_ne.2 (by omega)) (beq_eq_false_iff_ne.2 (by omega)) (by omega) _ (beq_eq_false_iff_ne.2 (by omega)) (bne_iff_ne.2 (by omega)) hs2 cw cn cd cr cs cg
      · by_cases hq : sortF f = 0
        · rw [hq] at cs
          exact nworth_1o4n0 s w h (by omega) f c hat0 hat1 u1 (1 + d) (beq_eq_false_iff_ne.2 (by omega)) (beq_eq_false_iff_ne.2 (by omega)) (beq_eq_false_iff_ne.2 (by omega)) (beq_eq_false_iff_ne.2 (by omega)) (by omega) cw cn cd cr cs
        · rw [hneg hq] at cg
          exact nworth_1o4nx s w h (by omega) f c hat0 hat1 u1 (1 + d) (beq_eq_false_iff_ne.2 (by omega)) (beq_eq_false_iff_ne.2 (by omega)) (beq_eq_false_iff_ne.2 (by omega)) (beq_eq_false_iff_ne.2 (by omega)) (by omega) _ (beq_eq_false_iff_ne.2 hq) (bne_iff_ne.2 hq) cw cn cd cr cs cg
  · rw [hc0] at hk
    have hi := num_plain h45 hk
    rw [← hc0] at hi
    obtain ⟨i1, i2, i3, i4⟩ := int_law hi
    have ef : realF (by_ s) = sgv (rval (by_ s)) false := real_plain (by rw [hc0]; intro q; exact h45 (Option.some.inj q))
    rw [ef] at cr cs cg
    have cd := fun W : World => digits_any s 0 W (by omega)
    have eu : upto isDig s 0 = ((dig (by_ s) : Nat) : Int) := by unfold upto; rw [if_pos ⟨by omega, by omega⟩, at_zero]; show (0 : Int) + (dig (by_ s) : Nat) = _; omega
    simp only [eu] at cd
    have u2 : (c0 == 45) = false := beq_eq_false_iff_ne.2 h45
    obtain ⟨d, hd⟩ : ∃ d, dig (by_ s) = d := ⟨_, rfl⟩
    have hneg := sgv_neg (by_ s) false
    have hsort := fun q hl => digs_sort (m := by_ s) (dig_full (m := by_ s) q) (by intro e; rw [e] at i1; simp at i1) hl false
    rw [hd] at i2 i3 i4 hsort
    simp only [hd] at cd
    rw [hl] at i1 i4 hsort
    obtain ⟨f, hfe⟩ : ∃ f, sgv (rval (by_ s)) false = f := ⟨_, rfl⟩
    rw [hfe] at hneg cr cs cg
    simp only [hfe] at hsort
    by_cases h48 : c0 = 48
    · have i3' := i3 (by rw [hc0, h48]; rfl)
      rw [h48] at hat0
      rcases i4 with ⟨rfl, i5⟩ | ⟨rfl, i5⟩
      · have ed : ((d : Nat) : Int) = (s.size : Int) := by omega
        simp only [ed] at cd
        · have ln : ¬ 15 < (s.size : Int) - 0 := by omega
          have hs2 := hsort (by omega) (by omega)
          rw [hneg (by omega)] at cg
          exact nworth_0z3s s w h (by omega) f hat0 (beq_eq_false_iff_ne.2 (by omega)) (beq_eq_false_iff_ne.2 (by omega)) (by omega) (by omega) _ (beq_eq_false_iff_ne.2 (by omega)) (bne_iff_ne.2 (by omega)) hs2 cw cn cd cr cs cg
      · by_cases hq : sortF f = 0
        · rw [hq] at cs
          exact nworth_0z4n0 s w h (by omega) f hat0 (d) (beq_eq_false_iff_ne.2 (by omega)) (beq_eq_false_iff_ne.2 (by omega)) (beq_eq_false_iff_ne.2 (by omega)) (beq_eq_false_iff_ne.2 (by omega)) (by omega) (by omega) cw cn cd cr cs
        · rw [hneg hq] at cg
          exact nworth_0z4nx s w h (by omega) f hat0 (d) (beq_eq_false_iff_ne.2 (by omega)) (beq_eq_false_iff_ne.2 (by omega)) (beq_eq_false_iff_ne.2 (by omega)) (beq_eq_false_iff_ne.2 (by omega)) (by omega) (by omega) _ (beq_eq_false_iff_ne.2 hq) (bne_iff_ne.2 hq) cw cn cd cr cs cg
    · have u1 : (c0 == 48) = false := beq_eq_false_iff_ne.2 h48
      rcases i4 with ⟨rfl, i5⟩ | ⟨rfl, i5⟩
      · have ed : ((d : Nat) : Int) = (s.size : Int) := by omega
        simp only [ed] at cd
        by_cases ln : 15 < (s.size : Int) - 0
        · by_cases hq : sortF f = 0
          · rw [hq] at cs
            exact nworth_0o3l0 s w h (by omega) f c0 hat0 u1 u2 (beq_eq_false_iff_ne.2 (by omega)) (beq_eq_false_iff_ne.2 (by omega)) (by omega) cw cn cd cr cs
          · rw [hneg hq] at cg
            exact nworth_0o3lx s w h (by omega) f c0 hat0 u1 u2 (beq_eq_false_iff_ne.2 (by omega)) (beq_eq_false_iff_ne.2 (by omega)) (by omega) _ (beq_eq_false_iff_ne.2 hq) (bne_iff_ne.2 hq) cw cn cd cr cs cg
        · have hs2 := hsort (by omega) (by omega)
          rw [hneg (by omega)] at cg
          exact nworth_0o3s s w h (by omega) f c0 hat0 u1 u2 (beq_eq_false_iff_ne.2 (by omega)) (beq_eq_false_iff_ne.2 (by omega)) (by omega) _ (beq_eq_false_iff_ne.2 (by omega)) (bne_iff_ne.2 (by omega)) hs2 cw cn cd cr cs cg
      · by_cases hq : sortF f = 0
        · rw [hq] at cs
          exact nworth_0o4n0 s w h (by omega) f c0 hat0 u1 u2 (d) (beq_eq_false_iff_ne.2 (by omega)) (beq_eq_false_iff_ne.2 (by omega)) (beq_eq_false_iff_ne.2 (by omega)) (beq_eq_false_iff_ne.2 (by omega)) (by omega) cw cn cd cr cs
        · rw [hneg hq] at cg
          exact nworth_0o4nx s w h (by omega) f c0 hat0 u1 u2 (d) (beq_eq_false_iff_ne.2 (by omega)) (beq_eq_false_iff_ne.2 (by omega)) (beq_eq_false_iff_ne.2 (by omega)) (beq_eq_false_iff_ne.2 (by omega)) (by omega) _ (beq_eq_false_iff_ne.2 hq) (bne_iff_ne.2 hq) cw cn cd cr cs cg
theorem worth_all (s : ByteArray) (w : World) : Calls Tryd.prog 9 #[.string s] w fun e w' => e = .returned (.bool true) ∧ Below w.heap.size w w' := by
  by_cases h : 600 < s.size
  · exact nworth_long s w h
  have h2 : s.size ≤ 600 := by omega
  have hl := by_length s
  obtain ⟨k, n, b, hk⟩ : ∃ k n b, lNum (by_ s) = (k, n, b) := ⟨_, _, _, rfl⟩
  have hnum : number s 0 = (k, (n : Int), b) := by rw [number_zero, hk]
  by_cases hw : b = true ∧ n = s.size
  · obtain ⟨rfl, rfl⟩ := hw
    refine num_all s w h2 k (by rw [hk, hl]) ?_
    by_cases h0 : s.size = 0
    · have e : by_ s = [] := List.eq_nil_of_length_eq_zero (by omega)
      rw [e] at hk
      have := congrArg (fun x => x.2.2) hk
      cases this
    · omega
  · refine nworth_no s w h2 (fun W => whole_at s false (by omega) ?_ W)
    rw [hnum]
    cases b with
    | false => rfl
    | true =>
      have hne : n ≠ s.size := fun q => hw ⟨rfl, q⟩
      show (true && ((n : Int) == (s.size : Int))) = false
      rw [beq_eq_false_iff_ne.2 (by omega)]; rfl
end Go.Proofs.YtchbmihhkjpkaaaDoor.G
