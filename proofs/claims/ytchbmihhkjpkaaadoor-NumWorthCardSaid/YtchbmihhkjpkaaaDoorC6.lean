/-
  The laws of layer 3: their example.
-/
import Derived.Test.YtchbmihhkjpkaaaDoorC5
namespace Go.Proofs.YtchbmihhkjpkaaaDoor.G
open Go.RowKit Go.Proofs.YtchbmihhkjpkaaaDoorW.PrintWords Go.Proofs.YtchbmihhkjpkaaaDoor.M
set_option linter.unusedVariables false
set_option linter.unusedSimpArgs false

theorem ex1 : realF (by_ (⟨#[45, 48]⟩ : ByteArray)) = 9223372036854775808 := by decide +kernel
theorem ex2 : realF (by_ (⟨#[49, 101, 57, 57, 57]⟩ : ByteArray)) = 9218868437227405312 := by decide +kernel
theorem ex3 : realF (by_ (⟨#[49, 50, 51, 52, 53, 54, 55, 56, 57, 48, 49, 50, 51, 52, 53, 54, 55]⟩ : ByteArray)) = 9221120237041090561 := by decide +kernel
theorem ex4 : realF (by_ (⟨#[49, 46, 53, 101, 49]⟩ : ByteArray)) = 4624633867356078080 := by decide +kernel
set_option maxHeartbeats 1600000 in
theorem awake3 (w : World) : Calls Tryd.prog 10 #[] w fun e w' => e = .returned (.bool true) ∧ Below w.heap.size w w' := by
  have r1 := fun (W : World) => real_any ⟨#[45, 48]⟩ W (by decide)
  have r2 := fun (W : World) => real_any ⟨#[49, 101, 57, 57, 57]⟩ W (by decide)
  have r3 := fun (W : World) => real_any ⟨#[49, 50, 51, 52, 53, 54, 55, 56, 57, 48, 49, 50, 51, 52, 53, 54, 55]⟩ W (by decide)
  have r4 := fun (W : World) => real_any ⟨#[49, 46, 53, 101, 49]⟩ W (by decide)
  rw [ex1] at r1
  rw [ex2] at r2
  rw [ex3] at r3
  rw [ex4] at r4
  have n1 := fun (W : World) => neg_any 9223372036854775808 W (by decide)
  have n2 := fun (W : World) => neg_any 9218868437227405312 W (by decide)
  have s2 := fun (W : World) => sort_any 9218868437227405312 W (by decide)
  have s3 := fun (W : World) => sort_any 9221120237041090561 W (by decide)
  have m3 := fun (W : World) => same_any 9221120237041090561 9221120237041090561 W (by decide) (by decide)
  have m1 := fun (W : World) => same_any 9223372036854775808 0 W (by decide) (by decide)
  rw [show negF 9223372036854775808 = true by decide +kernel] at n1
  rw [show negF 9218868437227405312 = false by decide +kernel] at n2
  rw [show sortF 9218868437227405312 = 1 by decide +kernel] at s2
  rw [show sortF 9221120237041090561 = 0 by decide +kernel] at s3
  rw [show sameF 9221120237041090561 9221120237041090561 = true by decide +kernel] at m3
  rw [show sameF 9223372036854775808 0 = false by decide +kernel] at m1
  have e1 : (FloatKind.f64.format.order 4624633867356078080 4624633867356078080 == some Ordering.eq) = true := by decide +kernel
  have e2 : (FloatKind.f64.format.order 9223372036854775808 0 == some Ordering.eq) = true := by decide +kernel
  have HB := Below.refl w.heap.size w
  go_enter Tryd.func10, Tryd.ntmps10
  go_wp2_with (first
    | (go_at_call 12; (with_reducible refine (r1 _).mono ?_); rintro e w1 ⟨rfl, b1⟩; clear r1)
    | (go_at_call 12; (with_reducible refine (r2 _).mono ?_); rintro e w2 ⟨rfl, b2⟩; clear r2)
    | (go_at_call 12; (with_reducible refine (r3 _).mono ?_); rintro e w3 ⟨rfl, b3⟩; clear r3)
    | (go_at_call 12; (with_reducible refine (r4 _).mono ?_); rintro e w4 ⟨rfl, b4⟩; clear r4)
    | (go_at_call 18; (with_reducible refine (n1 _).mono ?_); rintro e w' ⟨rfl, rfl⟩)
    | (go_at_call 18; (with_reducible refine (n2 _).mono ?_); rintro e w' ⟨rfl, rfl⟩)
    | (go_at_call 16; (with_reducible refine (s2 _).mono ?_); rintro e w' ⟨rfl, rfl⟩)
    | (go_at_call 16; (with_reducible refine (s3 _).mono ?_); rintro e w' ⟨rfl, rfl⟩)
    | (go_at_call 15; (with_reducible refine (m3 _).mono ?_); rintro e w' ⟨rfl, rfl⟩)
    | (go_at_call 15; (with_reducible refine (m1 _).mono ?_); rintro e w' ⟨rfl, rfl⟩))
  go_ret
  refine ⟨rfl, ?_⟩
  have q1 := b1.trans (b2.mono b1.size)
  have q2 := q1.trans (b3.mono q1.size)
  exact q2.trans (b4.mono q2.size)
end Go.Proofs.YtchbmihhkjpkaaaDoor.G
