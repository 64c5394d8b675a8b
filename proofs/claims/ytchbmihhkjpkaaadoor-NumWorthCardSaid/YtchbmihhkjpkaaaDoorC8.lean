/-
  The law RealMinus: its walk, one theorem for each case. (Printed by gen_c8.py.)
-/
import Derived.Test.YtchbmihhkjpkaaaDoorC6
import Derived.Test.YtchbmihhkjpkaaaDoorC7
namespace Go.Proofs.YtchbmihhkjpkaaaDoor.G
open Go.RowKit Go.Proofs.YtchbmihhkjpkaaaDoorW.PrintWords Go.Proofs.YtchbmihhkjpkaaaDoor.M
set_option linter.unusedVariables false
set_option linter.unusedSimpArgs false

@[go_sem] theorem run_neg_float (b : Nat) (W : World) : (Op.unary UnOp.neg (.float .f64 b)).run Tryd.prog W = .ok (.float .f64 (flip b)) W := rfl
set_option maxHeartbeats 800000 in
theorem minus_long (s : ByteArray) (w : World) (h : 600 < s.size) : Calls Tryd.prog 4 #[.string s] w fun e w' => e = .returned (.bool true) ∧ Below w.heap.size w w' := by
  have hA := awake3 w
  go_enter Tryd.func4, Tryd.ntmps4
  go_wp2_with (go_at_call 10; (with_reducible refine hA.mono ?_); rintro e w1 ⟨rfl, b1⟩)
  go_ret
  exact ⟨rfl, b1⟩
set_option maxHeartbeats 800000 in
theorem minus_lead (s : ByteArray) (w : World) (h : s.size ≤ 600) (h0 : 0 < s.size) (hat : ∀ h : 0 < s.size, (((s[0]'h).toNat : Nat) : Int) = 45) : Calls Tryd.prog 4 #[.string s] w fun e w' => e = .returned (.bool true) ∧ Below w.heap.size w w' := by
  have hA := awake3 w
  go_enter Tryd.func4, Tryd.ntmps4
  go_wp2_with (go_at_call 10; (with_reducible refine hA.mono ?_); rintro e w1 ⟨rfl, b1⟩)
  go_ret
  exact ⟨rfl, b1⟩
set_option maxHeartbeats 3200000 in
theorem minus_nil_no (s : ByteArray) (w : World) (h : s.size ≤ 600) (f g z hh : Nat) (hs0 : s.size = 0)
    (rf : ∀ W : World, Calls Tryd.prog 12 #[.string s] W fun e w' => e = .returned (.float .f64 f) ∧ Below W.heap.size W w')
    (rg : ∀ W : World, Calls Tryd.prog 12 #[.string (⟨#[45]⟩ ++ s)] W fun e w' => e = .returned (.float .f64 g) ∧ Below W.heap.size W w')
    (rh : ∀ W : World, Calls Tryd.prog 12 #[.string (⟨#[45, 45]⟩ ++ s)] W fun e w' => e = .returned (.float .f64 hh) ∧ Below W.heap.size W w')
    (rz : ∀ W : World, Calls Tryd.prog 12 #[.string (⟨#[48]⟩ ++ s)] W fun e w' => e = .returned (.float .f64 z) ∧ Below W.heap.size W w')
    (m1 : ∀ W : World, Calls Tryd.prog 15 #[.float .f64 g, .float .f64 (flip f)] W fun e w' => e = .returned (.bool true) ∧ w' = W)
    (sh : ∀ W : World, Calls Tryd.prog 16 #[.float .f64 hh] W fun e w' => e = .returned (.int .i64 0) ∧ w' = W)
    (sf : ∀ W : World, Calls Tryd.prog 16 #[.float .f64 f] W fun e w' => e = .returned (.int .i64 0) ∧ w' = W) :
    Calls Tryd.prog 4 #[.string s] w fun e w' => e = .returned (.bool true) ∧ Below w.heap.size w w' := by
  have hA := awake3 w
  go_enter Tryd.func4, Tryd.ntmps4
  go_wp2_with (first
    | (go_at_call 10; (with_reducible refine hA.mono ?_); rintro e w1 ⟨rfl, b1⟩)
    | (go_at_call 12; (with_reducible refine (rf _).mono ?_); rintro e w2 ⟨rfl, b2⟩; clear rf)
    | (go_at_call 12; (with_reducible refine (rg _).mono ?_); rintro e w3 ⟨rfl, b3⟩; clear rg)
    | (go_at_call 12; (with_reducible refine (rh _).mono ?_); rintro e w4 ⟨rfl, b4⟩; clear rh)
    | (go_at_call 12; (with_reducible refine (rz _).mono ?_); rintro e w5 ⟨rfl, b5⟩; clear rz)
    | (go_at_call 15; (with_reducible refine (m1 _).mono ?_); rintro e w' ⟨rfl, rfl⟩)
    | (go_at_call 16; (with_reducible refine (sh _).mono ?_); rintro e w' ⟨rfl, rfl⟩)
    | (go_at_call 16; (with_reducible refine (sf _).mono ?_); rintro e w' ⟨rfl, rfl⟩))
  go_ret
  refine ⟨rfl, ?_⟩
  have q1 := b1.trans (b2.mono b1.size)
  have q2 := q1.trans (b3.mono q1.size)
  have q3 := q2.trans (b4.mono q2.size)
  exact q3.trans (b5.mono q3.size)
set_option maxHeartbeats 3200000 in
theorem minus_nil_val (s : ByteArray) (w : World) (h : s.size ≤ 600) (f g z hh : Nat) (k : Int) (tk : (k == 0) = false) (hs0 : s.size = 0)
    (rf : ∀ W : World, Calls Tryd.prog 12 #[.string s] W fun e w' => e = .returned (.float .f64 f) ∧ Below W.heap.size W w')
    (rg : ∀ W : World, Calls Tryd.prog 12 #[.string (⟨#[45]⟩ ++ s)] W fun e w' => e = .returned (.float .f64 g) ∧ Below W.heap.size W w')
    (rh : ∀ W : World, Calls Tryd.prog 12 #[.string (⟨#[45, 45]⟩ ++ s)] W fun e w' => e = .returned (.float .f64 hh) ∧ Below W.heap.size W w')
    (rz : ∀ W : World, Calls Tryd.prog 12 #[.string (⟨#[48]⟩ ++ s)] W fun e w' => e = .returned (.float .f64 z) ∧ Below W.heap.size W w')
    (m1 : ∀ W : World, Calls Tryd.prog 15 #[.float .f64 g, .float .f64 (flip f)] W fun e w' => e = .returned (.bool true) ∧ w' = W)
    (sh : ∀ W : World, Calls Tryd.prog 16 #[.float .f64 hh] W fun e w' => e = .returned (.int .i64 0) ∧ w' = W)
    (sf : ∀ W : World, Calls Tryd.prog 16 #[.float .f64 f] W fun e w' => e = .returned (.int .i64 k) ∧ w' = W)
    (ng : ∀ W : World, Calls Tryd.prog 18 #[.float .f64 g] W fun e w' => e = .returned (.bool true) ∧ w' = W)
    (nf : ∀ W : World, Calls Tryd.prog 18 #[.float .f64 f] W fun e w' => e = .returned (.bool false) ∧ w' = W) :
    Calls Tryd.prog 4 #[.string s] w fun e w' => e = .returned (.bool true) ∧ Below w.heap.size w w' := by
  have hA := awake3 w
  go_enter Tryd.func4, Tryd.ntmps4
  go_wp2_with (first
    | (go_at_call 10; (with_reducible refine hA.mono ?_); rintro e w1 ⟨rfl, b1⟩)
    | (go_at_call 12; (with_reducible refine (rf _).mono ?_); rintro e w2 ⟨rfl, b2⟩; clear rf)
    | (go_at_call 12; (with_reducible refine (rg _).mono ?_); rintro e w3 ⟨rfl, b3⟩; clear rg)
    | (go_at_call 12; (with_reducible refine (rh _).mono ?_); rintro e w4 ⟨rfl, b4⟩; clear rh)
    | (go_at_call 12; (with_reducible refine (rz _).mono ?_); rintro e w5 ⟨rfl, b5⟩; clear rz)
    | (go_at_call 15; (with_reducible refine (m1 _).mono ?_); rintro e w' ⟨rfl, rfl⟩)
    | (go_at_call 16; (with_reducible refine (sh _).mono ?_); rintro e w' ⟨rfl, rfl⟩)
    | (go_at_call 16; (with_reducible refine (sf _).mono ?_); rintro e w' ⟨rfl, rfl⟩)
    | (go_at_call 18; (with_reducible refine (ng _).mono ?_); rintro e w' ⟨rfl, rfl⟩)
    | (go_at_call 18; (with_reducible refine (nf _).mono ?_); rintro e w' ⟨rfl, rfl⟩))
  go_ret
  refine ⟨rfl, ?_⟩
  have q1 := b1.trans (b2.mono b1.size)
  have q2 := q1.trans (b3.mono q1.size)
  have q3 := q2.trans (b4.mono q2.size)
  exact q3.trans (b5.mono q3.size)
set_option maxHeartbeats 3200000 in
theorem minus_dig_no (s : ByteArray) (w : World) (h : s.size ≤ 600) (f g z hh : Nat) (b : Int) (h0 : 0 < s.size) (hat : ∀ h : 0 < s.size, (((s[0]'h).toNat : Nat) : Int) = b) (t0 : (b == 45) = false) (t1 : decide (48 ≤ b) = true) (t2 : decide (b ≤ 57) = true) (mz : ∀ W : World, Calls Tryd.prog 15 #[.float .f64 z, .float .f64 f] W fun e w' => e = .returned (.bool true) ∧ w' = W)
    (rf : ∀ W : World, Calls Tryd.prog 12 #[.string s] W fun e w' => e = .returned (.float .f64 f) ∧ Below W.heap.size W w')
    (rg : ∀ W : World, Calls Tryd.prog 12 #[.string (⟨#[45]⟩ ++ s)] W fun e w' => e = .returned (.float .f64 g) ∧ Below W.heap.size W w')
    (rh : ∀ W : World, Calls Tryd.prog 12 #[.string (⟨#[45, 45]⟩ ++ s)] W fun e w' => e = .returned (.float .f64 hh) ∧ Below W.heap.size W w')
    (rz : ∀ W : World, Calls Tryd.prog 12 #[.string (⟨#[48]⟩ ++ s)] W fun e w' => e = .returned (.float .f64 z) ∧ Below W.heap.size W w')
    (m1 : ∀ W : World, Calls Tryd.prog 15 #[.float .f64 g, .float .f64 (flip f)] W fun e w' => e = .returned (.bool true) ∧ w' = W)
    (sh : ∀ W : World, Calls Tryd.prog 16 #[.float .f64 hh] W fun e w' => e = .returned (.int .i64 0) ∧ w' = W)
    (sf : ∀ W : World, Calls Tryd.prog 16 #[.float .f64 f] W fun e w' => e = .returned (.int .i64 0) ∧ w' = W) :
    Calls Tryd.prog 4 #[.string s] w fun e w' => e = .returned (.bool true) ∧ Below w.heap.size w w' := by
  have hA := awake3 w
  go_enter Tryd.func4, Tryd.ntmps4
  go_wp2_with (first
    | (go_at_call 10; (with_reducible refine hA.mono ?_); rintro e w1 ⟨rfl, b1⟩)
    | (go_at_call 12; (with_reducible refine (rf _).mono ?_); rintro e w2 ⟨rfl, b2⟩; clear rf)
    | (go_at_call 12; (with_reducible refine (rg _).mono ?_); rintro e w3 ⟨rfl, b3⟩; clear rg)
    | (go_at_call 12; (with_reducible refine (rh _).mono ?_); rintro e w4 ⟨rfl, b4⟩; clear rh)
    | (go_at_call 12; (with_reducible refine (rz _).mono ?_); rintro e w5 ⟨rfl, b5⟩; clear rz)
    | (go_at_call 15; (with_reducible refine (m1 _).mono ?_); rintro e w' ⟨rfl, rfl⟩)
    | (go_at_call 15; (with_reducible refine (mz _).mono ?_); rintro e w' ⟨rfl, rfl⟩)
    | (go_at_call 16; (with_reducible refine (sh _).mono ?_); rintro e w' ⟨rfl, rfl⟩)
    | (go_at_call 16; (with_reducible refine (sf _).mono ?_); rintro e w' ⟨rfl, rfl⟩))
  go_ret
  refine ⟨rfl, ?_⟩
  have q1 := b1.trans (b2.mono b1.size)
  have q2 := q1.trans (b3.mono q1.size)
  have q3 := q2.trans (b4.mono q2.size)
  exact q3.trans (b5.mono q3.size)
set_option maxHeartbeats 3200000 in
theorem minus_dig_val (s : ByteArray) (w : World) (h : s.size ≤ 600) (f g z hh : Nat) (k : Int) (tk : (k == 0) = false) (b : Int) (h0 : 0 < s.size) (hat : ∀ h : 0 < s.size, (((s[0]'h).toNat : Nat) : Int) = b) (t0 : (b == 45) = false) (t1 : decide (48 ≤ b) = true) (t2 : decide (b ≤ 57) = true) (mz : ∀ W : World, Calls Tryd.prog 15 #[.float .f64 z, .float .f64 f] W fun e w' => e = .returned (.bool true) ∧ w' = W)
    (rf : ∀ W : World, Calls Tryd.prog 12 #[.string s] W fun e w' => e = .returned (.float .f64 f) ∧ Below W.heap.size W w')
    (rg : ∀ W : World, Calls Tryd.prog 12 #[.string (⟨#[45]⟩ ++ s)] W fun e w' => e = .returned (.float .f64 g) ∧ Below W.heap.size W w')
    (rh : ∀ W : World, Calls Tryd.prog 12 #[.string (⟨#[45, 45]⟩ ++ s)] W fun e w' => e = .returned (.float .f64 hh) ∧ Below W.heap.size W w')
    (rz : ∀ W : World, Calls Tryd.prog 12 #[.string (⟨#[48]⟩ ++ s)] W fun e w' => e = .returned (.float .f64 z) ∧ Below W.heap.size W w')
    (m1 : ∀ W : World, Calls Tryd.prog 15 #[.float .f64 g, .float .f64 (flip f)] W fun e w' => e = .returned (.bool true) ∧ w' = W)
    (sh : ∀ W : World, Calls Tryd.prog 16 #[.float .f64 hh] W fun e w' => e = .returned (.int .i64 0) ∧ w' = W)
    (sf : ∀ W : World, Calls Tryd.prog 16 #[.float .f64 f] W fun e w' => e = .returned (.int .i64 k) ∧ w' = W)
    (ng : ∀ W : World, Calls Tryd.prog 18 #[.float .f64 g] W fun e w' => e = .returned (.bool true) ∧ w' = W)
    (nf : ∀ W : World, Calls Tryd.prog 18 #[.float .f64 f] W fun e w' => e = .returned (.bool false) ∧ w' = W) :
    Calls Tryd.prog 4 #[.string s] w fun e w' => e = .returned (.bool true) ∧ Below w.heap.size w w' := by
  have hA := awake3 w
  go_enter Tryd.func4, Tryd.ntmps4
  go_wp2_with (first
    | (go_at_call 10; (with_reducible refine hA.mono ?_); rintro e w1 ⟨rfl, b1⟩)
    | (go_at_call 12; (with_reducible refine (rf _).mono ?_); rintro e w2 ⟨rfl, b2⟩; clear rf)
    | (go_at_call 12; (with_reducible refine (rg _).mono ?_); rintro e w3 ⟨rfl, b3⟩; clear rg)
    | (go_at_call 12; (with_reducible refine (rh _).mono ?_); rintro e w4 ⟨rfl, b4⟩; clear rh)
    | (go_at_call 12; (with_reducible refine (rz _).mono ?_); rintro e w5 ⟨rfl, b5⟩; clear rz)
    | (go_at_call 15; (with_reducible refine (m1 _).mono ?_); rintro e w' ⟨rfl, rfl⟩)
    | (go_at_call 15; (with_reducible refine (mz _).mono ?_); rintro e w' ⟨rfl, rfl⟩)
    | (go_at_call 16; (with_reducible refine (sh _).mono ?_); rintro e w' ⟨rfl, rfl⟩)
    | (go_at_call 16; (with_reducible refine (sf _).mono ?_); rintro e w' ⟨rfl, rfl⟩)
    | (go_at_call 18; (with_reducible refine (ng _).mono ?_); rintro e w' ⟨rfl, rfl⟩)
    | (go_at_call 18; (with_reducible refine (nf _).mono ?_); rintro e w' ⟨rfl, rfl⟩))
  go_ret
  refine ⟨rfl, ?_⟩
  have q1 := b1.trans (b2.mono b1.size)
  have q2 := q1.trans (b3.mono q1.size)
  have q3 := q2.trans (b4.mono q2.size)
  exact q3.trans (b5.mono q3.size)
set_option maxHeartbeats 3200000 in
theorem minus_low_no (s : ByteArray) (w : World) (h : s.size ≤ 600) (f g z hh : Nat) (b : Int) (h0 : 0 < s.size) (hat : ∀ h : 0 < s.size, (((s[0]'h).toNat : Nat) : Int) = b) (t0 : (b == 45) = false) (t1 : decide (48 ≤ b) = false)
    (rf : ∀ W : World, Calls Tryd.prog 12 #[.string s] W fun e w' => e = .returned (.float .f64 f) ∧ Below W.heap.size W w')
    (rg : ∀ W : World, Calls Tryd.prog 12 #[.string (⟨#[45]⟩ ++ s)] W fun e w' => e = .returned (.float .f64 g) ∧ Below W.heap.size W w')
    (rh : ∀ W : World, Calls Tryd.prog 12 #[.string (⟨#[45, 45]⟩ ++ s)] W fun e w' => e = .returned (.float .f64 hh) ∧ Below W.heap.size W w')
    (rz : ∀ W : World, Calls Tryd.prog 12 #[.string (⟨#[48]⟩ ++ s)] W fun e w' => e = .returned (.float .f64 z) ∧ Below W.heap.size W w')
    (m1 : ∀ W : World, Calls Tryd.prog 15 #[.float .f64 g, .float .f64 (flip f)] W fun e w' => e = .returned (.bool true) ∧ w' = W)
    (sh : ∀ W : World, Calls Tryd.prog 16 #[.float .f64 hh] W fun e w' => e = .returned (.int .i64 0) ∧ w' = W)
    (sf : ∀ W : World, Calls Tryd.prog 16 #[.float .f64 f] W fun e w' => e = .returned (.int .i64 0) ∧ w' = W) :
    Calls Tryd.prog 4 #[.string s] w fun e w' => e = .returned (.bool true) ∧ Below w.heap.size w w' := by
  have hA := awake3 w
  go_enter Tryd.func4, Tryd.ntmps4
  go_wp2_with (first
    | (go_at_call 10; (with_reducible refine hA.mono ?_); rintro e w1 ⟨rfl, b1⟩)
    | (go_at_call 12; (with_reducible refine (rf _).mono ?_); rintro e w2 ⟨rfl, b2⟩; clear rf)
    | (go_at_call 12; (with_reducible refine (rg _).mono ?_); rintro e w3 ⟨rfl, b3⟩; clear rg)
    | (go_at_call 12; (with_reducible refine (rh _).mono ?_); rintro e w4 ⟨rfl, b4⟩; clear rh)
    | (go_at_call 12; (with_reducible refine (rz _).mono ?_); rintro e w5 ⟨rfl, b5⟩; clear rz)
    | (go_at_call 15; (with_reducible refine (m1 _).mono ?_); rintro e w' ⟨rfl, rfl⟩)
    | (go_at_call 16; (with_reducible refine (sh _).mono ?_); rintro e w' ⟨rfl, rfl⟩)
    | (go_at_call 16; (with_reducible refine (sf _).mono ?_); rintro e w' ⟨rfl, rfl⟩))
  go_ret
  refine ⟨rfl, ?_⟩
  have q1 := b1.trans (b2.mono b1.size)
  have q2 := q1.trans (b3.mono q1.size)
  have q3 := q2.trans (b4.mono q2.size)
  exact q3.trans (b5.mono q3.size)
set_option maxHeartbeats 3200000 in
theorem minus_low_val (s : ByteArray) (w : World) (h : s.size ≤ 600) (f g z hh : Nat) (k : Int) (tk : (k == 0) = false) (b : Int) (h0 : 0 < s.size) (hat : ∀ h : 0 < s.size, (((s[0]'h).toNat : Nat) : Int) = b) (t0 : (b == 45) = false) (t1 : decide (48 ≤ b) = false)
    (rf : ∀ W : World, Calls Tryd.prog 12 #[.string s] W fun e w' => e = .returned (.float .f64 f) ∧ Below W.heap.size W w')
    (rg : ∀ W : World, Calls Tryd.prog 12 #[.string (⟨#[45]⟩ ++ s)] W fun e w' => e = .returned (.float .f64 g) ∧ Below W.heap.size W w')
    (rh : ∀ W : World, Calls Tryd.prog 12 #[.string (⟨#[45, 45]⟩ ++ s)] W fun e w' => e = .returned (.float .f64 hh) ∧ Below W.heap.size W w')
    (rz : ∀ W : World, Calls Tryd.prog 12 #[.string (⟨#[48]⟩ ++ s)] W fun e w' => e = .returned (.float .f64 z) ∧ Below W.heap.size W w')
    (m1 : ∀ W : World, Calls Tryd.prog 15 #[.float .f64 g, .float .f64 (flip f)] W fun e w' => e = .returned (.bool true) ∧ w' = W)
    (sh : ∀ W : World, Calls Tryd.prog 16 #[.float .f64 hh] W fun e w' => e = .returned (.int .i64 0) ∧ w' = W)
    (sf : ∀ W : World, Calls Tryd.prog 16 #[.float .f64 f] W fun e w' => e = .returned (.int .i64 k) ∧ w' = W)
    (ng : ∀ W : World, Calls Tryd.prog 18 #[.float .f64 g] W fun e w' => e = .returned (.bool true) ∧ w' = W)
    (nf : ∀ W : World, Calls Tryd.prog 18 #[.float .f64 f] W fun e w' => e = .returned (.bool false) ∧ w' = W) :
    Calls Tryd.prog 4 #[.string s] w fun e w' => e = .returned (.bool true) ∧ Below w.heap.size w w' := by
  have hA := awake3 w
  go_enter Tryd.func4, Tryd.ntmps4
  go_wp2_with (first
    | (go_at_call 10; (with_reducible refine hA.mono ?_); rintro e w1 ⟨rfl, b1⟩)
    | (go_at_call 12; (with_reducible refine (rf _).mono ?_); rintro e w2 ⟨rfl, b2⟩; clear rf)
    | (go_at_call 12; (with_reducible refine (rg _).mono ?_); rintro e w3 ⟨rfl, b3⟩; clear rg)
    | (go_at_call 12; (with_reducible refine (rh _).mono ?_); rintro e w4 ⟨rfl, b4⟩; clear rh)
    | (go_at_call 12; (with_reducible refine (rz _).mono ?_); rintro e w5 ⟨rfl, b5⟩; clear rz)
    | (go_at_call 15; (with_reducible refine (m1 _).mono ?_); rintro e w' ⟨rfl, rfl⟩)
    | (go_at_call 16; (with_reducible refine (sh _).mono ?_); rintro e w' ⟨rfl, rfl⟩)
    | (go_at_call 16; (with_reducible refine (sf _).mono ?_); rintro e w' ⟨rfl, rfl⟩)
    | (go_at_call 18; (with_reducible refine (ng _).mono ?_); rintro e w' ⟨rfl, rfl⟩)
    | (go_at_call 18; (with_reducible refine (nf _).mono ?_); rintro e w' ⟨rfl, rfl⟩))
  go_ret
  refine ⟨rfl, ?_⟩
  have q1 := b1.trans (b2.mono b1.size)
  have q2 := q1.trans (b3.mono q1.size)
  have q3 := q2.trans (b4.mono q2.size)
  exact q3.trans (b5.mono q3.size)
set_option maxHeartbeats 3200000 in
theorem minus_high_no (s : ByteArray) (w : World) (h : s.size ≤ 600) (f g z hh : Nat) (b : Int) (h0 : 0 < s.size) (hat : ∀ h : 0 < s.size, (((s[0]'h).toNat : Nat) : Int) = b) (t0 : (b == 45) = false) (t1 : decide (48 ≤ b) = true) (t2 : decide (b ≤ 57) = false)
    (rf : ∀ W : World, Calls Tryd.prog 12 #[.string s] W fun e w' => e = .returned (.float .f64 f) ∧ Below W.heap.size W w')
    (rg : ∀ W : World, Calls Tryd.prog 12 #[.string (⟨#[45]⟩ ++ s)] W fun e w' => e = .returned (.float .f64 g) ∧ Below W.heap.size W w')
    (rh : ∀ W : World, Calls Tryd.prog 12 #[.string (⟨#[45, 45]⟩ ++ s)] W fun e w' => e = .returned (.float .f64 hh) ∧ Below W.heap.size W w')
    (rz : ∀ W : World, Calls Tryd.prog 12 #[.string (⟨#[48]⟩ ++ s)] W fun e w' => e = .returned (.float .f64 z) ∧ Below W.heap.size W w')
    (m1 : ∀ W : World, Calls Tryd.prog 15 #[.float .f64 g, .float .f64 (flip f)] W fun e w' => e = .returned (.bool true) ∧ w' = W)
    (sh : ∀ W : World, Calls Tryd.prog 16 #[.float .f64 hh] W fun e w' => e = .returned (.int .i64 0) ∧ w' = W)
    (sf : ∀ W : World, Calls Tryd.prog 16 #[.float .f64 f] W fun e w' => e = .returned (.int .i64 0) ∧ w' = W) :
    Calls Tryd.prog 4 #[.string s] w fun e w' => e = .returned (.bool true) ∧ Below w.heap.size w w' := by
  have hA := awake3 w
  go_enter Tryd.func4, Tryd.ntmps4
  go_wp2_with (first
    | (go_at_call 10; (with_reducible refine hA.mono ?_); rintro e w1 ⟨rfl, b1⟩)
    | (go_at_call 12; (with_reducible refine (rf _).mono ?_); rintro e w2 ⟨rfl, b2⟩; clear rf)
    | (go_at_call 12; (with_reducible refine (rg _).mono ?_); rintro e w3 ⟨rfl, b3⟩; clear rg)
    | (go_at_call 12; (with_reducible refine (rh _).mono ?_); rintro e w4 ⟨rfl, b4⟩; clear rh)
    | (go_at_call 12; (with_reducible refine (rz _).mono ?_); rintro e w5 ⟨rfl, b5⟩; clear rz)
    | (go_at_call 15; (with_reducible refine (m1 _).mono ?_); rintro e w' ⟨rfl, rfl⟩)
    | (go_at_call 16; (with_reducible refine (sh _).mono ?_); rintro e w' ⟨rfl, rfl⟩)
    | (go_at_call 16; (with_reducible refine (sf _).mono ?_); rintro e w' ⟨rfl, rfl⟩))
  go_ret
  refine ⟨rfl, ?_⟩
  have q1 := b1.trans (b2.mono b1.size)
  have q2 := q1.trans (b3.mono q1.size)
  have q3 := q2.trans (b4.mono q2.size)
  exact q3.trans (b5.mono q3.size)
set_option maxHeartbeats 3200000 in
theorem minus_high_val (s : ByteArray) (w : World) (h : s.size ≤ 600) (f g z hh : Nat) (k : Int) (tk : (k == 0) = false) (b : Int) (h0 : 0 < s.size) (hat : ∀ h : 0 < s.size, (((s[0]'h).toNat : Nat) : Int) = b) (t0 : (b == 45) = false) (t1 : decide (48 ≤ b) = true) (t2 : decide (b ≤ 57) = false)
    (rf : ∀ W : World, Calls Tryd.prog 12 #[.string s] W fun e w' => e = .returned (.float .f64 f) ∧ Below W.heap.size W w')
    (rg : ∀ W : World, Calls Tryd.prog 12 #[.string (⟨#[45]⟩ ++ s)] W fun e w' => e = .returned (.float .f64 g) ∧ Below W.heap.size W w')
    (rh : ∀ W : World, Calls Tryd.prog 12 #[.string (⟨#[45, 45]⟩ ++ s)] W fun e w' => e = .returned (.float .f64 hh) ∧ Below W.heap.size W w')
    (rz : ∀ W : World, Calls Tryd.prog 12 #[.string (⟨#[48]⟩ ++ s)] W fun e w' => e = .returned (.float .f64 z) ∧ Below W.heap.size W w')
    (m1 : ∀ W : World, Calls Tryd.prog 15 #[.float .f64 g, .float .f64 (flip f)] W fun e w' => e = .returned (.bool true) ∧ w' = W)
    (sh : ∀ W : World, Calls Tryd.prog 16 #[.float .f64 hh] W fun e w' => e = .returned (.int .i64 0) ∧ w' = W)
    (sf : ∀ W : World, Calls Tryd.prog 16 #[.float .f64 f] W fun e w' => e = .returned (.int .i64 k) ∧ w' = W)
    (ng : ∀ W : World, Calls Tryd.prog 18 #[.float .f64 g] W fun e w' => e = .returned (.bool true) ∧ w' = W)
    (nf : ∀ W : World, Calls Tryd.prog 18 #[.float .f64 f] W fun e w' => e = .returned (.bool false) ∧ w' = W) :
    Calls Tryd.prog 4 #[.string s] w fun e w' => e = .returned (.bool true) ∧ Below w.heap.size w w' := by
  have hA := awake3 w
  go_enter Tryd.func4, Tryd.ntmps4
  go_wp2_with (first
    | (go_at_call 10; (with_reducible refine hA.mono ?_); rintro e w1 ⟨rfl, b1⟩)
    | (go_at_call 12; (with_reducible refine (rf _).mono ?_); rintro e w2 ⟨rfl, b2⟩; clear rf)
    | (go_at_call 12; (with_reducible refine (rg _).mono ?_); rintro e w3 ⟨rfl, b3⟩; clear rg)
    | (go_at_call 12; (with_reducible refine (rh _).mono ?_); rintro e w4 ⟨rfl, b4⟩; clear rh)
    | (go_at_call 12; (with_reducible refine (rz _).mono ?_); rintro e w5 ⟨rfl, b5⟩; clear rz)
    | (go_at_call 15; (with_reducible refine (m1 _).mono ?_); rintro e w' ⟨rfl, rfl⟩)
    | (go_at_call 16; (with_reducible refine (sh _).mono ?_); rintro e w' ⟨rfl, rfl⟩)
    | (go_at_call 16; (with_reducible refine (sf _).mono ?_); rintro e w' ⟨rfl, rfl⟩)
    | (go_at_call 18; (with_reducible refine (ng _).mono ?_); rintro e w' ⟨rfl, rfl⟩)
    | (go_at_call 18; (with_reducible refine (nf _).mono ?_); rintro e w' ⟨rfl, rfl⟩))
  go_ret
  refine ⟨rfl, ?_⟩
  have q1 := b1.trans (b2.mono b1.size)
  have q2 := q1.trans (b3.mono q1.size)
  have q3 := q2.trans (b4.mono q2.size)
  exact q3.trans (b5.mono q3.size)
end Go.Proofs.YtchbmihhkjpkaaaDoor.G
