/-
  math's small functions on floats; real's Sort, Negative, Same, signed: their walks.
-/
import Derived.Test.YtchbmihhkjpkaaaDoorChecked
import Derived.WalkKit
import Derived.ProofKit
import Derived.Below
import Derived.Laws.Externs
import Derived.Test.YtchbmihhkjpkaaaDoorRF3
namespace Go.Proofs.YtchbmihhkjpkaaaDoor.G
open Go.RowKit Go.Proofs.YtchbmihhkjpkaaaDoor.M
set_option linter.unusedVariables false
set_option linter.unusedSimpArgs false

@[go_sem] theorem bits_call (b : Nat) (w : World) : (callFunc 53 #[.float .f64 b]).run Tryd.prog w = .ok (.value (.int .u64 (b : Int))) w := by
  rw [run_callFunc_extern (e := Extern.MathFloatBits.float64bits) Tryd.func53 (by kernel_rfl) (by kernel_rfl) (by kernel_rfl) (by kernel_rfl)]; rfl
@[go_sem] theorem frombits_call (n : Int) (w : World) : (callFunc 42 #[.int .u64 n]).run Tryd.prog w = .ok (.value (.float .f64 n.toNat)) w := by
  rw [run_callFunc_extern (e := Extern.MathFloatBits.float64frombits) Tryd.func42 (by kernel_rfl) (by kernel_rfl) (by kernel_rfl) (by kernel_rfl)]; rfl
theorem isNaN_any (b : Nat) (w : World) : Calls Tryd.prog 32 #[.float .f64 b] w fun e w' => e = .returned (.bool (isN b)) ∧ w' = w := by
  rw [isN_iff]
  go_enter Tryd.func32, Tryd.ntmps32
  go_wp2
  go_ret
  exact ⟨rfl, rfl⟩
theorem nan_any (w : World) : Calls Tryd.prog 27 #[] w fun e w' => e = .returned (.float .f64 9221120237041090561) ∧ w' = w := by
  go_enter Tryd.func27, Tryd.ntmps27
  go_wp2
  go_ret
  exact ⟨rfl, rfl⟩
theorem u64_wrap (n : Nat) (h : n < 18446744073709551616) : IntKind.u64.wrap (n : Int) = n := by
  simp only [IntKind.wrap, IntKind.signed, IntKind.bits, Bool.false_and]
  rw [if_neg (by decide)]
  omega
theorem abs_u64 {b : Nat} (hb : b < 18446744073709551616) : bits BinOp.andNot IntKind.u64 (b : Int) 9223372036854775808 = ((b % 9223372036854775808 : Nat) : Int) := by
  show IntKind.u64.wrap (((BitVec.ofInt 64 (b : Int) &&& ~~~BitVec.ofInt 64 9223372036854775808).toNat : Nat) : Int) = _
  rw [abs_bits hb, u64_wrap _ (by omega)]
theorem abs_any (b : Nat) (w : World) (hb : b < 18446744073709551616) : Calls Tryd.prog 52 #[.float .f64 b] w fun e w' => e = .returned (.float .f64 (b % 9223372036854775808)) ∧ w' = w := by
  have h := abs_u64 hb
  go_enter Tryd.func52, Tryd.ntmps52
  go_wp2
  go_ret
  exact ⟨rfl, rfl⟩
theorem inf_any (w : World) : Calls Tryd.prog 30 #[.int .i64 1] w fun e w' => e = .returned (.float .f64 9218868437227405312) ∧ w' = w := by
  go_enter Tryd.func30, Tryd.ntmps30
  go_wp2
  go_ret
  exact ⟨rfl, rfl⟩
theorem isInf_any (b : Nat) (w : World) (hb : b < 18446744073709551616) : Calls Tryd.prog 33 #[.float .f64 b, .int .i64 0] w fun e w' => e = .returned (.bool (sortF b == 1)) ∧ w' = w := by
  have h : (cmpF (b % 9223372036854775808) MAXF == some .gt) = (sortF b == 1) := by
    rw [cmp_max, sort_abs, sgn_abs, Bool.eq_iff_iff, decide_eq_true_eq, beq_iff_eq]
    exact ⟨fun q => q.1, fun q => ⟨q, rfl⟩⟩
  rw [← h]
  have hA := fun (W : World) => abs_any b W hb
  clear h
  go_enter Tryd.func33, Tryd.ntmps33
  go_wp2_with (go_at_call 52; refine (hA _).mono ?_; rintro e w' ⟨rfl, rfl⟩)
  go_ret
  exact ⟨rfl, rfl⟩
theorem sgn_i64 {b : Nat} (hb : b < 18446744073709551616) : decide (wrap64 (b : Int) < 0) = sgn b := by
  unfold sgn wrap64
  rw [Bool.eq_iff_iff, decide_eq_true_eq, beq_iff_eq]
  omega
theorem signbit_any (b : Nat) (w : World) (hb : b < 18446744073709551616) : Calls Tryd.prog 34 #[.float .f64 b] w fun e w' => e = .returned (.bool (sgn b)) ∧ w' = w := by
  have h := sgn_i64 hb
  go_enter Tryd.func34, Tryd.ntmps34
  go_wp2
  go_ret
  exact ⟨rfl, rfl⟩
theorem neg_any (b : Nat) (w : World) (hb : b < 18446744073709551616) : Calls Tryd.prog 18 #[.float .f64 b] w fun e w' => e = .returned (.bool (negF b)) ∧ w' = w := by
  unfold negF
  have hS := fun (W : World) => signbit_any b W hb
  have hN := fun (W : World) => isNaN_any b W
  obtain ⟨s, hs⟩ : ∃ s, sgn b = s := ⟨_, rfl⟩
  obtain ⟨n, hn⟩ : ∃ n, isN b = n := ⟨_, rfl⟩
  simp only [hs, hn] at hS hN ⊢
  clear hs hn
  cases s <;> cases n
  all_goals
    go_enter Tryd.func18, Tryd.ntmps18
    go_wp2_with (first
      | (go_at_call 34; refine (hS _).mono ?_; rintro e w' ⟨rfl, rfl⟩)
      | (go_at_call 32; refine (hN _).mono ?_; rintro e w' ⟨rfl, rfl⟩))
    go_ret
    exact ⟨rfl, rfl⟩
theorem sort_any (b : Nat) (w : World) (hb : b < 18446744073709551616) : Calls Tryd.prog 16 #[.float .f64 b] w fun e w' => e = .returned (.int .i64 (sortF b)) ∧ w' = w := by
  have hN := fun (W : World) => isNaN_any b W
  have hI := fun (W : World) => isInf_any b W hb
  have hZ : (FloatKind.f64.format.order b 0 == some .eq) = decide (sortF b = 2) := cmp_zero b
  have hr := sort_range b
  simp only [← sort_nan] at hN
  obtain ⟨s, hs⟩ : ∃ s, sortF b = s := ⟨_, rfl⟩
  simp only [hs] at hN hI hZ hr ⊢
  clear hs
  rcases (show s = 0 ∨ s = 1 ∨ s = 2 ∨ s = 3 by omega) with rfl | rfl | rfl | rfl
  all_goals
    simp only [beq_self_eq_true, Int.reduceBEq, Int.reduceEq, decide_true, decide_false] at hN hI hZ
    go_enter Tryd.func16, Tryd.ntmps16
    go_wp2_with (first
      | (go_at_call 33; refine (hI _).mono ?_; rintro e w' ⟨rfl, rfl⟩)
      | (go_at_call 32; refine (hN _).mono ?_; rintro e w' ⟨rfl, rfl⟩))
    go_ret
    exact ⟨rfl, rfl⟩
set_option maxHeartbeats 4000000 in
theorem same_any (a b : Nat) (w : World) (ha : a < 18446744073709551616) (hb : b < 18446744073709551616) : Calls Tryd.prog 15 #[.float .f64 a, .float .f64 b] w fun e w' => e = .returned (.bool (sameF a b)) ∧ w' = w := by
  have hN := fun (W : World) => isNaN_any a W
  have hM := fun (W : World) => isNaN_any b W
  have hS := fun (W : World) => neg_any a W ha
  have hT := fun (W : World) => neg_any b W hb
  obtain ⟨c, hc⟩ : ∃ c, (FloatKind.f64.format.order a b == some Ordering.eq) = c := ⟨_, rfl⟩
  have hc2 : (cmpF a b == some .eq) = c := hc
  unfold sameF
  obtain ⟨x, hx⟩ : ∃ x, isN a = x := ⟨_, rfl⟩
  obtain ⟨y, hy⟩ : ∃ y, isN b = y := ⟨_, rfl⟩
  obtain ⟨s, hs⟩ : ∃ s, negF a = s := ⟨_, rfl⟩
  obtain ⟨t, ht⟩ : ∃ t, negF b = t := ⟨_, rfl⟩
  simp only [hx, hy, hs, ht, hc2] at hN hM hS hT ⊢
  clear hx hy hs ht hc2
  cases x <;> cases y <;> cases c <;> cases s <;> cases t
  all_goals
    go_enter Tryd.func15, Tryd.ntmps15
    go_wp2_with (first
      | (go_at_call 32; with_reducible refine (hN _).mono ?_; rintro e w' ⟨rfl, rfl⟩)
      | (go_at_call 32; with_reducible refine (hM _).mono ?_; rintro e w' ⟨rfl, rfl⟩)
      | (go_at_call 18; with_reducible refine (hS _).mono ?_; rintro e w' ⟨rfl, rfl⟩)
      | (go_at_call 18; with_reducible refine (hT _).mono ?_; rintro e w' ⟨rfl, rfl⟩))
    go_ret
    exact ⟨rfl, rfl⟩
theorem sign_u64 : bits BinOp.and IntKind.u64 13830554455654793216 9223372036854775808 = 9223372036854775808 := by
  show IntKind.u64.wrap (((BitVec.ofInt 64 13830554455654793216 &&& BitVec.ofInt 64 9223372036854775808).toNat : Nat) : Int) = _
  rw [sign_bits]; rfl
theorem or_u64 {x : Nat} (h : x < 9223372036854775808) : bits BinOp.or IntKind.u64 (x : Int) 9223372036854775808 = ((flip x : Nat) : Int) := by
  show IntKind.u64.wrap (((BitVec.ofInt 64 (x : Int) ||| BitVec.ofInt 64 9223372036854775808).toNat : Nat) : Int) = _
  rw [or_bits h, u64_wrap _ (by omega), flip_good h]
theorem copysign_any (f : Nat) (w : World) (hf : f < 9223372036854775808) : Calls Tryd.prog 47 #[.float .f64 f, .float .f64 13830554455654793216] w fun e w' => e = .returned (.float .f64 (flip f)) ∧ w' = w := by
  have h1 : bits BinOp.andNot IntKind.u64 (f : Int) 9223372036854775808 = (f : Int) := by rw [abs_u64 (by omega), Nat.mod_eq_of_lt hf]
  have h2 := or_u64 hf
  have h3 := sign_u64
  obtain ⟨g, hg⟩ : ∃ g, flip f = g := ⟨_, rfl⟩
  rw [hg] at h2 ⊢
  clear hg
  go_enter Tryd.func47, Tryd.ntmps47
  go_wp2
  go_ret
  refine ⟨?_, rfl⟩
  first
    | rfl
    | (simp [h1, h2, h3]; done)
    | (show Ending.returned (Value.float .f64 (bits BinOp.or IntKind.u64 (bits BinOp.andNot IntKind.u64 (f : Int) 9223372036854775808) (bits BinOp.and IntKind.u64 13830554455654793216 9223372036854775808)).toNat) = _
       rw [h1, h3, h2, Int.toNat_natCast])
theorem signed_any (f : Nat) (minus : Bool) (w : World) (hf : f < 9223372036854775808) : Calls Tryd.prog 29 #[.float .f64 f, .bool minus] w fun e w' => e = .returned (.float .f64 (if minus = true then flip f else f)) ∧ w' = w := by
  have hC := fun (W : World) => copysign_any f W hf
  obtain ⟨g, hg⟩ : ∃ g, flip f = g := ⟨_, rfl⟩
  simp only [hg] at hC ⊢
  clear hg
  cases minus
  all_goals
    go_enter Tryd.func29, Tryd.ntmps29
    go_wp2_with (go_at_call 47; refine (hC _).mono ?_; rintro e w' ⟨rfl, rfl⟩)
    go_ret
    exact ⟨rfl, rfl⟩
end Go.Proofs.YtchbmihhkjpkaaaDoor.G
