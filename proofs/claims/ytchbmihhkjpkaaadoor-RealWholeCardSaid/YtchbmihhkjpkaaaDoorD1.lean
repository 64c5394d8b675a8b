/-
  The document's answers of layer 3: digits, nan, value. (Printed by gen_d1.py.)
-/
import Derived.Test.YtchbmihhkjpkaaaDoorC9
import Derived.Test.YtchbmihhkjpkaaaDoorRF4
import Derived.Test.YtchbmihhkjpkaaaDoorRX2
namespace Go.Proofs.YtchbmihhkjpkaaaDoor.G
open Go.RowKit Go.Proofs.YtchbmihhkjpkaaaDoorW.PrintWords Go.Proofs.YtchbmihhkjpkaaaDoor.M
open Ieee (Format)
set_option linter.unusedVariables false
set_option linter.unusedSimpArgs false

/-- A NaN's bits, as the tape gives them. -/
def qnb (W : World) : Nat := Question.cut (.nanBits .f64 0 0) (W.tape W.drawn (.nanBits .f64 0 0))
theorem qnb_nan (W : World) : isN (qnb W) = true ∧ qnb W < 18446744073709551616 := by
  obtain ⟨t, ht⟩ : ∃ t, W.tape W.drawn (.nanBits .f64 0 0) = t := ⟨_, rfl⟩
  have e : qnb W = (t % 2) * 9223372036854775808 + 9218868437227405312 + 1 + (t / 2) % 4503599627370495 := by unfold qnb; rw [ht]; rfl
  rw [e]
  have hlt0 : (t / 2) % 4503599627370495 < 4503599627370495 := Nat.mod_lt (t / 2) (show 0 < 4503599627370495 by decide)
  refine ⟨?_, by omega⟩
  unfold isN Format.read
  rw [lp, sw, bn, ir]
  dsimp only
  have hk : (t / 2) % 4503599627370495 < 4503599627370495 := Nat.mod_lt _ (by decide)
  obtain ⟨k, hk2⟩ : ∃ k, (t / 2) % 4503599627370495 = k := ⟨_, rfl⟩
  rw [hk2] at hk ⊢
  have hr : ((t % 2) * 9223372036854775808 + 9218868437227405312 + 1 + k) % 9223372036854775808 = 9218868437227405313 + k := by omega
  rw [hr, if_neg (by omega), if_neg (by omega), if_neg (by omega)]; rfl
theorem zero_by_zero (W : World) : (binOp .quo 22 (.float .f64 0) (.float .f64 0)).run Tryd.prog W = .ok (.float .f64 (qnb W)) W.drew := by
  have h : FloatKind.f64.format.div 0 0 = none := by decide +kernel
  simp [binOp, Op.floatArith, h, qnb, Question.forced]
theorem below_drew {B : Nat} {a w : World} (h : Below B a w) : Below B a w.drew := ⟨h.os, h.tape, h.output, h.size, h.block⟩
/-- Both no numbers, or the same bits. -/
def Alike (T b : Nat) : Prop := (isN T = true ∧ isN b = true) ∨ T = b
/-- A float comes back, alike to one. -/
structure FOut (T : Nat) (W : World) (e : Ending) (w' : World) : Prop where
  ex : ∃ b, e = .returned (.float .f64 b) ∧ Alike T b ∧ b < 18446744073709551616 ∧ Below W.heap.size W w'
set_option maxHeartbeats 800000 in
theorem rnan_any (T : Nat) (hT : isN T = true) (w : World) : Calls Tryd.prog 49 #[] w (FOut T w) := by
  have hz := fun W : World => zero_by_zero W
  have hq := qnb_nan w
  have hq2 : Hid (∀ e w', e = Ending.returned (.float .f64 (qnb w)) → w' = w.drew → FOut T w e w') := Lib.hid (fun e w' he hw => ⟨⟨qnb w, he, .inl ⟨hT, hq.1⟩, hq.2, by rw [hw]; exact below_drew (Below.refl _ w)⟩⟩)
  clear hq hT
  go_enter Tryd.func49, Tryd.ntmps49
  go_wp2
  go_ret
  exact hq2.out _ _ rfl rfl
set_option maxHeartbeats 1600000 in
theorem rdigits (s : ByteArray) (n : Nat) (w : World) (hn : n ≤ s.size) (hs : s.size ≤ 2000) :
    Calls Tryd.prog 48 #[.string s, .int .i64 (n : Int)] w fun e w' => e = .returned (.int .i64 ((dig (at_ s n) : Nat) : Int)) ∧ w' = w := by
  have hle := dig_at_le s n hn
  have hIn := Lib.hid (fun j => dig_in s n j hn)
  have hEnd := Lib.hid (dig_end s n hn)
  obtain ⟨d, hd⟩ : ∃ d, dig (at_ s n) = d := ⟨_, rfl⟩
  rw [hd] at hle hEnd ⊢
  simp only [hd] at hIn
  clear hd
  go_enter Tryd.func48, Tryd.ntmps48
  go_wp2
  go_loopg [5] d (fun gf v5 wx => wx = w ∧ ∃ j : Nat, v5 = .int .i64 j ∧ j + gf = d)
  case atStart => exact ⟨rfl, 0, rfl, by omega⟩
  case round =>
    obtain ⟨rfl, j, rfl, hj⟩ := hrel
    cases gk with
    | zero =>
      obtain rfl : j = d := by omega
      by_cases hlt : n + j < s.size
      · have hx := hEnd.out hlt
        have hat : ∀ h : n + j < s.size, (((s[n + j]'h).toNat : Nat) : Int) = bt s ((n + j : Nat) : Int) := fun h => bt_at s (n + j) h
        obtain ⟨b, hb⟩ : ∃ b, bt s ((n + j : Nat) : Int) = b := ⟨_, rfl⟩
        rw [hb] at hx
        simp only [hb] at hat
        clear hb hIn hEnd
        by_cases h1 : 48 ≤ b
        · have h2 : ¬ b ≤ 57 := fun q => hx ⟨h1, q⟩
          have t1 : decide (48 ≤ b) = true := decide_eq_true h1
          have t2 : decide (b ≤ 57) = false := decide_eq_false h2
          clear hx
          go_wp2
          go_ret
          exact ⟨rfl, rfl⟩
        · have t1 : decide (48 ≤ b) = false := decide_eq_false h1
          clear hx
          go_wp2
          go_ret
          exact ⟨rfl, rfl⟩
      · clear hIn hEnd
        go_wp2
        go_ret
        exact ⟨rfl, rfl⟩
    | succ g =>
      have hlt : n + j < s.size := by omega
      have hx := hIn.out j (by omega)
      have hat : ∀ h : n + j < s.size, (((s[n + j]'h).toNat : Nat) : Int) = bt s ((n + j : Nat) : Int) := fun h => bt_at s (n + j) h
      obtain ⟨b, hb⟩ : ∃ b, bt s ((n + j : Nat) : Int) = b := ⟨_, rfl⟩
      rw [hb] at hx
      simp only [hb] at hat
      clear hb hIn hEnd
      have t1 : decide (48 ≤ b) = true := decide_eq_true hx.1
      have t2 : decide (b ≤ 57) = true := decide_eq_true hx.2
      clear hx
      go_wp2
      go_roundg g
      case measure => omega
      case rel => exact ⟨rfl, j + 1, rfl, by omega⟩
theorem noZero_by (s : ByteArray) (h : 0 < s.size) (h0 : bt s 0 ≠ 48) : noZero (by_ s) = by_ s := by
  have hc := at_cons s 0 (by omega) (by omega)
  rw [at_zero] at hc
  rw [hc]; unfold noZero; rw [List.dropWhile_cons, if_neg (by simpa using h0)]
theorem noZero_step (s : ByteArray) (h : 0 < s.size) (h0 : bt s 0 = 48) : noZero (by_ (s.extract 1 s.size)) = noZero (by_ s) := by
  have hc := at_cons s 0 (by omega) (by omega)
  rw [at_zero, h0] at hc
  have e : by_ (s.extract 1 s.size) = at_ s (0 + 1) := by
    rw [by_extract]; unfold at_
    rw [List.take_of_length_le (by rw [by_length]; exact Nat.le_refl _)]; rfl
  rw [hc, noZero_zero, e]
theorem noZero_nil (s : ByteArray) (h : s.size = 0) : noZero (by_ s) = [] := by
  have : by_ s = [] := List.eq_nil_of_length_eq_zero (by rw [by_length]; exact h)
  rw [this]; rfl
set_option maxHeartbeats 3200000 in
theorem value_none (l : ByteArray) (x : Int) (w : World) (hl : l.size ≤ 2000) (hx0 : -2000000 ≤ x) (hx1 : x ≤ 2000000) (hm : Hid (noZero (by_ l) = [])) :
    Calls Tryd.prog 51 #[.string l, .int .i64 x] w (fun e w' => e = .returned (.float .f64 0) ∧ w' = w) := by
  have HX : Hid (∀ e w', e = Ending.returned (.float .f64 0) → w' = w → e = Ending.returned (.float .f64 0) ∧ w' = w) := Lib.hid (fun e w' he hw => ⟨he, hw⟩)
  go_enter Tryd.func51, Tryd.ntmps51
  go_wp2
  go_loopg [0] l.size (fun gf v0 wx => wx = w ∧ ∃ s : ByteArray, v0 = .string s ∧ s.size ≤ gf ∧ s.size ≤ l.size ∧ Hid (noZero (by_ s) = noZero (by_ l)))
  case atStart => exact ⟨rfl, l, rfl, Nat.le_refl _, Nat.le_refl _, Lib.hid rfl⟩
  case round =>
    obtain ⟨rfl, s, rfl, hs0, hs02, HM⟩ := hrel
    by_cases h0 : 0 < s.size
    · have hat : ∀ h : 0 < s.size, (((s[0]'h).toNat : Nat) : Int) = bt s 0 := fun h => bt_at s 0 h
      by_cases h48 : bt s 0 = 48
      · have HM2 : Hid (noZero (by_ (s.extract 1 s.size)) = noZero (by_ l)) := Lib.hid ((noZero_step s h0 h48).trans HM.out)
        rw [h48] at hat
        cases gk with
        | zero => omega
        | succ g =>
          clear HX h48 HM
          go_wp2
          go_roundg g
          case measure => omega
          case rel => exact ⟨rfl, s.extract 1 s.size, rfl, by simp; omega, by simp; omega, HM2⟩
      · have HE : Hid (by_ s = noZero (by_ l)) := Lib.hid ((noZero_by s h0 h48).symm.trans HM.out)
        have t0 : (bt s 0 == 48) = false := beq_eq_false_iff_ne.2 h48
        obtain ⟨c, hc⟩ : ∃ c, bt s 0 = c := ⟨_, rfl⟩
        rw [hc] at t0
        simp only [hc] at hat
        clear hc h48 HM
        have z1 : ((s.size : Int) == 0) = false := beq_eq_false_iff_ne.2 (by omega)
        have z2 : (s.size == 0) = false := beq_eq_false_iff_ne.2 (by omega)
        exact absurd (HE.out.trans hm.out) (fun q => by have := by_length s; rw [q] at this; simp at this; omega)
    · have HE : Hid (noZero (by_ l) = []) := Lib.hid (HM.out.symm.trans (noZero_nil s (by omega)))
      clear HM
      have z0 : s.size = 0 := by omega
      have z1 : ((s.size : Int) == 0) = true := beq_iff_eq.2 (by omega)
      have z2 : (s.size == 0) = true := beq_iff_eq.2 (by omega)
      go_wp2
      go_ret
      exact HX.out _ _ rfl rfl
set_option maxHeartbeats 3200000 in
theorem value_small (l : ByteArray) (x : Int) (w : World) (hl : l.size ≤ 2000) (hx0 : -2000000 ≤ x) (hx1 : x ≤ 2000000) (hm : Hid (noZero (by_ l) ≠ [])) (ns : Nat) (hn : (noZero (by_ l)).length = ns) (hs : (ns : Int) + x < -400) :
    Calls Tryd.prog 51 #[.string l, .int .i64 x] w (fun e w' => e = .returned (.float .f64 0) ∧ w' = w) := by
  have HX : Hid (∀ e w', e = Ending.returned (.float .f64 0) → w' = w → e = Ending.returned (.float .f64 0) ∧ w' = w) := Lib.hid (fun e w' he hw => ⟨he, hw⟩)
  have HN := Lib.hid hn
  clear hn
  go_enter Tryd.func51, Tryd.ntmps51
  go_wp2
  go_loopg [0] l.size (fun gf v0 wx => wx = w ∧ ∃ s : ByteArray, v0 = .string s ∧ s.size ≤ gf ∧ s.size ≤ l.size ∧ Hid (noZero (by_ s) = noZero (by_ l)))
  case atStart => exact ⟨rfl, l, rfl, Nat.le_refl _, Nat.le_refl _, Lib.hid rfl⟩
  case round =>
    obtain ⟨rfl, s, rfl, hs0, hs02, HM⟩ := hrel
    by_cases h0 : 0 < s.size
    · have hat : ∀ h : 0 < s.size, (((s[0]'h).toNat : Nat) : Int) = bt s 0 := fun h => bt_at s 0 h
      by_cases h48 : bt s 0 = 48
      · have HM2 : Hid (noZero (by_ (s.extract 1 s.size)) = noZero (by_ l)) := Lib.hid ((noZero_step s h0 h48).trans HM.out)
        rw [h48] at hat
        cases gk with
        | zero => omega
        | succ g =>
          clear HX h48 HM
          go_wp2
          go_roundg g
          case measure => omega
          case rel => exact ⟨rfl, s.extract 1 s.size, rfl, by simp; omega, by simp; omega, HM2⟩
      · have HE : Hid (by_ s = noZero (by_ l)) := Lib.hid ((noZero_by s h0 h48).symm.trans HM.out)
        have t0 : (bt s 0 == 48) = false := beq_eq_false_iff_ne.2 h48
        obtain ⟨c, hc⟩ : ∃ c, bt s 0 = c := ⟨_, rfl⟩
        rw [hc] at t0
        simp only [hc] at hat
        clear hc h48 HM
        have z1 : ((s.size : Int) == 0) = false := beq_eq_false_iff_ne.2 (by omega)
        have z2 : (s.size == 0) = false := beq_eq_false_iff_ne.2 (by omega)
        have hlen : s.size = (noZero (by_ l)).length := by rw [← HE.out, by_length]
        rw [HN.out] at hlen
        have hsz : (s.size : Int) + x < -400 := by omega
        clear hlen HE hm HN hs ns
        go_wp2
        go_ret
        exact HX.out _ _ rfl rfl
    · have HE : Hid (noZero (by_ l) = []) := Lib.hid (HM.out.symm.trans (noZero_nil s (by omega)))
      clear HM
      have z0 : s.size = 0 := by omega
      have z1 : ((s.size : Int) == 0) = true := beq_iff_eq.2 (by omega)
      have z2 : (s.size == 0) = true := beq_iff_eq.2 (by omega)
      exact absurd HE.out hm.out
set_option maxHeartbeats 3200000 in
theorem value_great (l : ByteArray) (x : Int) (w : World) (hl : l.size ≤ 2000) (hx0 : -2000000 ≤ x) (hx1 : x ≤ 2000000) (hm : Hid (noZero (by_ l) ≠ [])) (ns : Nat) (hn : (noZero (by_ l)).length = ns) (hs : 400 < (ns : Int) + x) :
    Calls Tryd.prog 51 #[.string l, .int .i64 x] w (fun e w' => e = .returned (.float .f64 9218868437227405312) ∧ w' = w) := by
  have HX : Hid (∀ e w', e = Ending.returned (.float .f64 9218868437227405312) → w' = w → e = Ending.returned (.float .f64 9218868437227405312) ∧ w' = w) := Lib.hid (fun e w' he hw => ⟨he, hw⟩)
  have HN := Lib.hid hn
  clear hn
  have hV := fun W : World => value_none ⟨#[]⟩ 0 W (by decide) (by decide) (by decide) (Lib.hid rfl)
  have hQ := fun W : World => run_float_arith (P := Tryd.prog) W .quo 22 .f64 4607182418800017408 0 9218868437227405312 (by decide +kernel)
  go_enter Tryd.func51, Tryd.ntmps51
  go_wp2
  go_loopg [0] l.size (fun gf v0 wx => wx = w ∧ ∃ s : ByteArray, v0 = .string s ∧ s.size ≤ gf ∧ s.size ≤ l.size ∧ Hid (noZero (by_ s) = noZero (by_ l)))
  case atStart => exact ⟨rfl, l, rfl, Nat.le_refl _, Nat.le_refl _, Lib.hid rfl⟩
  case round =>
    obtain ⟨rfl, s, rfl, hs0, hs02, HM⟩ := hrel
    by_cases h0 : 0 < s.size
    · have hat : ∀ h : 0 < s.size, (((s[0]'h).toNat : Nat) : Int) = bt s 0 := fun h => bt_at s 0 h
      by_cases h48 : bt s 0 = 48
      · have HM2 : Hid (noZero (by_ (s.extract 1 s.size)) = noZero (by_ l)) := Lib.hid ((noZero_step s h0 h48).trans HM.out)
        rw [h48] at hat
        cases gk with
        | zero => omega
        | succ g =>
          clear HX h48 HM
          go_wp2
          go_roundg g
          case measure => omega
          case rel => exact ⟨rfl, s.extract 1 s.size, rfl, by simp; omega, by simp; omega, HM2⟩
      · have HE : Hid (by_ s = noZero (by_ l)) := Lib.hid ((noZero_by s h0 h48).symm.trans HM.out)
        have t0 : (bt s 0 == 48) = false := beq_eq_false_iff_ne.2 h48
        obtain ⟨c, hc⟩ : ∃ c, bt s 0 = c := ⟨_, rfl⟩
        rw [hc] at t0
        simp only [hc] at hat
        clear hc h48 HM
        have z1 : ((s.size : Int) == 0) = false := beq_eq_false_iff_ne.2 (by omega)
        have z2 : (s.size == 0) = false := beq_eq_false_iff_ne.2 (by omega)
        have hlen : s.size = (noZero (by_ l)).length := by rw [← HE.out, by_length]
        rw [HN.out] at hlen
        have hsz : 400 < (s.size : Int) + x := by omega
        have hsz2 : ¬ (s.size : Int) + x < -400 := by omega
        clear hlen HE hm HN hs ns
        go_wp2_with (go_at_call 51; (with_reducible refine (hV _).mono ?_); rintro e w' ⟨rfl, rfl⟩)
        go_ret
        exact HX.out _ _ rfl rfl
    · have HE : Hid (noZero (by_ l) = []) := Lib.hid (HM.out.symm.trans (noZero_nil s (by omega)))
      clear HM
      have z0 : s.size = 0 := by omega
      have z1 : ((s.size : Int) == 0) = true := beq_iff_eq.2 (by omega)
      have z2 : (s.size == 0) = true := beq_iff_eq.2 (by omega)
      exact absurd HE.out hm.out
set_option maxHeartbeats 3200000 in
theorem value_nan_a (l : ByteArray) (x : Int) (w : World) (hl : l.size ≤ 2000) (hx0 : -2000000 ≤ x) (hx1 : x ≤ 2000000) (hm : Hid (noZero (by_ l) ≠ [])) (ns : Nat) (hn : (noZero (by_ l)).length = ns) (hs : ¬ 400 < (ns : Int) + x) (hs2 : ¬ (ns : Int) + x < -400) (h15 : 15 < ns) :
    Calls Tryd.prog 51 #[.string l, .int .i64 x] w (FOut NANF w) := by
  have hV := Lib.hid (fun W : World => rnan_any NANF nan_isN W)
  have HN := Lib.hid hn
  clear hn
  go_enter Tryd.func51, Tryd.ntmps51
  go_wp2
  go_loopg [0] l.size (fun gf v0 wx => wx = w ∧ ∃ s : ByteArray, v0 = .string s ∧ s.size ≤ gf ∧ s.size ≤ l.size ∧ Hid (noZero (by_ s) = noZero (by_ l)))
  case atStart => exact ⟨rfl, l, rfl, Nat.le_refl _, Nat.le_refl _, Lib.hid rfl⟩
  case round =>
    obtain ⟨rfl, s, rfl, hs0, hs02, HM⟩ := hrel
    by_cases h0 : 0 < s.size
    · have hat : ∀ h : 0 < s.size, (((s[0]'h).toNat : Nat) : Int) = bt s 0 := fun h => bt_at s 0 h
      by_cases h48 : bt s 0 = 48
      · have HM2 : Hid (noZero (by_ (s.extract 1 s.size)) = noZero (by_ l)) := Lib.hid ((noZero_step s h0 h48).trans HM.out)
        rw [h48] at hat
        cases gk with
        | zero => omega
        | succ g =>
          clear h48 HM
          go_wp2
          go_roundg g
          case measure => omega
          case rel => exact ⟨rfl, s.extract 1 s.size, rfl, by simp; omega, by simp; omega, HM2⟩
      · have HE : Hid (by_ s = noZero (by_ l)) := Lib.hid ((noZero_by s h0 h48).symm.trans HM.out)
        have t0 : (bt s 0 == 48) = false := beq_eq_false_iff_ne.2 h48
        obtain ⟨c, hc⟩ : ∃ c, bt s 0 = c := ⟨_, rfl⟩
        rw [hc] at t0
        simp only [hc] at hat
        clear hc h48 HM
        have z1 : ((s.size : Int) == 0) = false := beq_eq_false_iff_ne.2 (by omega)
        have z2 : (s.size == 0) = false := beq_eq_false_iff_ne.2 (by omega)
        have hlen : s.size = (noZero (by_ l)).length := by rw [← HE.out, by_length]
        rw [HN.out] at hlen
        have hsz : ¬ 400 < (s.size : Int) + x := by omega
        have hsz2 : ¬ (s.size : Int) + x < -400 := by omega
        have hsz3 : (15 : Int) < (s.size : Int) := by omega
        clear hlen HE hm HN hs hs2 h15 ns
        go_wp2_with (go_at_call 49; (with_reducible refine (hV.out _).mono ?_); rintro e w' ⟨⟨b, rfl, hb1, hb2, hb3⟩⟩)
        go_ret
        exact ⟨⟨b, rfl, hb1, hb2, hb3⟩⟩
    · have HE : Hid (noZero (by_ l) = []) := Lib.hid (HM.out.symm.trans (noZero_nil s (by omega)))
      clear HM
      have z0 : s.size = 0 := by omega
      have z1 : ((s.size : Int) == 0) = true := beq_iff_eq.2 (by omega)
      have z2 : (s.size == 0) = true := beq_iff_eq.2 (by omega)
      exact absurd HE.out hm.out
set_option maxHeartbeats 3200000 in
theorem value_nan_b (l : ByteArray) (x : Int) (w : World) (hl : l.size ≤ 2000) (hx0 : -2000000 ≤ x) (hx1 : x ≤ 2000000) (hm : Hid (noZero (by_ l) ≠ [])) (ns : Nat) (hn : (noZero (by_ l)).length = ns) (hs : ¬ 400 < (ns : Int) + x) (hs2 : ¬ (ns : Int) + x < -400) (h15 : ns ≤ 15) (h22 : 22 < x) :
    Calls Tryd.prog 51 #[.string l, .int .i64 x] w (FOut NANF w) := by
  have hV := Lib.hid (fun W : World => rnan_any NANF nan_isN W)
  have HN := Lib.hid hn
  clear hn
  go_enter Tryd.func51, Tryd.ntmps51
  go_wp2
  go_loopg [0] l.size (fun gf v0 wx => wx = w ∧ ∃ s : ByteArray, v0 = .string s ∧ s.size ≤ gf ∧ s.size ≤ l.size ∧ Hid (noZero (by_ s) = noZero (by_ l)))
  case atStart => exact ⟨rfl, l, rfl, Nat.le_refl _, Nat.le_refl _, Lib.hid rfl⟩
  case round =>
    obtain ⟨rfl, s, rfl, hs0, hs02, HM⟩ := hrel
    by_cases h0 : 0 < s.size
    · have hat : ∀ h : 0 < s.size, (((s[0]'h).toNat : Nat) : Int) = bt s 0 := fun h => bt_at s 0 h
      by_cases h48 : bt s 0 = 48
      · have HM2 : Hid (noZero (by_ (s.extract 1 s.size)) = noZero (by_ l)) := Lib.hid ((noZero_step s h0 h48).trans HM.out)
        rw [h48] at hat
        cases gk with
        | zero => omega
        | succ g =>
          clear h48 HM
          go_wp2
          go_roundg g
          case measure => omega
          case rel => exact ⟨rfl, s.extract 1 s.size, rfl, by simp; omega, by simp; omega, HM2⟩
      · have HE : Hid (by_ s = noZero (by_ l)) := Lib.hid ((noZero_by s h0 h48).symm.trans HM.out)
        have t0 : (bt s 0 == 48) = false := beq_eq_false_iff_ne.2 h48
        obtain ⟨c, hc⟩ : ∃ c, bt s 0 = c := ⟨_, rfl⟩
        rw [hc] at t0
        simp only [hc] at hat
        clear hc h48 HM
        have z1 : ((s.size : Int) == 0) = false := beq_eq_false_iff_ne.2 (by omega)
        have z2 : (s.size == 0) = false := beq_eq_false_iff_ne.2 (by omega)
        have hlen : s.size = (noZero (by_ l)).length := by rw [← HE.out, by_length]
        rw [HN.out] at hlen
        have hsz : ¬ 400 < (s.size : Int) + x := by omega
        have hsz2 : ¬ (s.size : Int) + x < -400 := by omega
        have hsz3 : ¬ (15 : Int) < (s.size : Int) := by omega
        clear hlen HE hm HN hs hs2 h15 ns
        go_wp2_with (go_at_call 49; (with_reducible refine (hV.out _).mono ?_); rintro e w' ⟨⟨b, rfl, hb1, hb2, hb3⟩⟩)
        go_ret
        exact ⟨⟨b, rfl, hb1, hb2, hb3⟩⟩
    · have HE : Hid (noZero (by_ l) = []) := Lib.hid (HM.out.symm.trans (noZero_nil s (by omega)))
      clear HM
      have z0 : s.size = 0 := by omega
      have z1 : ((s.size : Int) == 0) = true := beq_iff_eq.2 (by omega)
      have z2 : (s.size == 0) = true := beq_iff_eq.2 (by omega)
      exact absurd HE.out hm.out
set_option maxHeartbeats 3200000 in
theorem value_nan_c (l : ByteArray) (x : Int) (w : World) (hl : l.size ≤ 2000) (hx0 : -2000000 ≤ x) (hx1 : x ≤ 2000000) (hm : Hid (noZero (by_ l) ≠ [])) (ns : Nat) (hn : (noZero (by_ l)).length = ns) (hs : ¬ 400 < (ns : Int) + x) (hs2 : ¬ (ns : Int) + x < -400) (h15 : ns ≤ 15) (h22 : ¬ 22 < x) (h23 : x < -22) :
    Calls Tryd.prog 51 #[.string l, .int .i64 x] w (FOut NANF w) := by
  have hV := Lib.hid (fun W : World => rnan_any NANF nan_isN W)
  have HN := Lib.hid hn
  clear hn
  go_enter Tryd.func51, Tryd.ntmps51
  go_wp2
  go_loopg [0] l.size (fun gf v0 wx => wx = w ∧ ∃ s : ByteArray, v0 = .string s ∧ s.size ≤ gf ∧ s.size ≤ l.size ∧ Hid (noZero (by_ s) = noZero (by_ l)))
  case atStart => exact ⟨rfl, l, rfl, Nat.le_refl _, Nat.le_refl _, Lib.hid rfl⟩
  case round =>
    obtain ⟨rfl, s, rfl, hs0, hs02, HM⟩ := hrel
    by_cases h0 : 0 < s.size
    · have hat : ∀ h : 0 < s.size, (((s[0]'h).toNat : Nat) : Int) = bt s 0 := fun h => bt_at s 0 h
      by_cases h48 : bt s 0 = 48
      · have HM2 : Hid (noZero (by_ (s.extract 1 s.size)) = noZero (by_ l)) := Lib.hid ((noZero_step s h0 h48).trans HM.out)
        rw [h48] at hat
        cases gk with
        | zero => omega
        | succ g =>
          clear h48 HM
          go_wp2
          go_roundg g
          case measure => omega
          case rel => exact ⟨rfl, s.extract 1 s.size, rfl, by simp; omega, by simp; omega, HM2⟩
      · have HE : Hid (by_ s = noZero (by_ l)) := Lib.hid ((noZero_by s h0 h48).symm.trans HM.out)
        have t0 : (bt s 0 == 48) = false := beq_eq_false_iff_ne.2 h48
        obtain ⟨c, hc⟩ : ∃ c, bt s 0 = c := ⟨_, rfl⟩
        rw [hc] at t0
        simp only [hc] at hat
        clear hc h48 HM
        have z1 : ((s.size : Int) == 0) = false := beq_eq_false_iff_ne.2 (by omega)
        have z2 : (s.size == 0) = false := beq_eq_false_iff_ne.2 (by omega)
        have hlen : s.size = (noZero (by_ l)).length := by rw [← HE.out, by_length]
        rw [HN.out] at hlen
        have hsz : ¬ 400 < (s.size : Int) + x := by omega
        have hsz2 : ¬ (s.size : Int) + x < -400 := by omega
        have hsz3 : ¬ (15 : Int) < (s.size : Int) := by omega
        clear hlen HE hm HN hs hs2 h15 ns
        go_wp2_with (go_at_call 49; (with_reducible refine (hV.out _).mono ?_); rintro e w' ⟨⟨b, rfl, hb1, hb2, hb3⟩⟩)
        go_ret
        exact ⟨⟨b, rfl, hb1, hb2, hb3⟩⟩
    · have HE : Hid (noZero (by_ l) = []) := Lib.hid (HM.out.symm.trans (noZero_nil s (by omega)))
      clear HM
      have z0 : s.size = 0 := by omega
      have z1 : ((s.size : Int) == 0) = true := beq_iff_eq.2 (by omega)
      have z2 : (s.size == 0) = true := beq_iff_eq.2 (by omega)
      exact absurd HE.out hm.out
theorem valD_snoc {l : List Int} {j : Nat} {c : Int} (h : l[j]? = some c) : valD (l.take (j + 1)) = 10 * valD (l.take j) + (c - 48).toNat := by
  have hj := (List.getElem?_eq_some_iff.1 h)
  obtain ⟨h1, h2⟩ := hj
  rw [List.take_add_one, h]
  show valD (l.take j ++ [c]) = _
  unfold valD; rw [List.foldl_append]; rfl
theorem valD_bound {l : List Int} (h : Digs l) (hl : l.length ≤ 15) (j : Nat) : valD (l.take j) < 1000000000000000 := by
  have := fold_le (l.take j) 0 (fun c hc => h c (List.mem_of_mem_take hc))
  rw [Nat.zero_add, Nat.one_mul, List.length_take] at this
  show _ < 10 ^ 15
  exact Nat.lt_of_lt_of_le this (Nat.pow_le_pow_right (by decide) (by omega))
set_option maxHeartbeats 3200000 in
theorem value_fin_n (l : ByteArray) (x : Int) (w : World) (hl : l.size ≤ 2000) (hx0 : -2000000 ≤ x) (hx1 : x ≤ 2000000) (hm : Hid (noZero (by_ l) ≠ [])) (ns : Nat) (hn : (noZero (by_ l)).length = ns) (h15 : ns ≤ 15) (h22 : -22 ≤ x) (h23 : x < 0) (hd : Hid (Digs (noZero (by_ l)))) (T : Nat) (hT : Hid ((Format.div F64 (dv (noZero (by_ l))) (pw (-x).toNat)).getD 0 = T)) :
    Calls Tryd.prog 51 #[.string l, .int .i64 x] w (fun e w' => e = .returned (.float .f64 T) ∧ w' = w) := by
  have HN := Lib.hid hn
  clear hn
  go_enter Tryd.func51, Tryd.ntmps51
  go_wp2
  go_loopg [0] l.size (fun gf v0 wx => wx = w ∧ ∃ s : ByteArray, v0 = .string s ∧ s.size ≤ gf ∧ s.size ≤ l.size ∧ Hid (noZero (by_ s) = noZero (by_ l)))
  case atStart => exact ⟨rfl, l, rfl, Nat.le_refl _, Nat.le_refl _, Lib.hid rfl⟩
  case round =>
    obtain ⟨rfl, s, rfl, hs0, hs02, HM⟩ := hrel
    by_cases h0 : 0 < s.size
    · have hat : ∀ h : 0 < s.size, (((s[0]'h).toNat : Nat) : Int) = bt s 0 := fun h => bt_at s 0 h
      by_cases h48 : bt s 0 = 48
      · have HM2 : Hid (noZero (by_ (s.extract 1 s.size)) = noZero (by_ l)) := Lib.hid ((noZero_step s h0 h48).trans HM.out)
        rw [h48] at hat
        cases gk with
        | zero => omega
        | succ g =>
          clear h48 HM
          go_wp2
          go_roundg g
          case measure => omega
          case rel => exact ⟨rfl, s.extract 1 s.size, rfl, by simp; omega, by simp; omega, HM2⟩
      · have HE : Hid (by_ s = noZero (by_ l)) := Lib.hid ((noZero_by s h0 h48).symm.trans HM.out)
        have t0 : (bt s 0 == 48) = false := beq_eq_false_iff_ne.2 h48
        obtain ⟨c, hc⟩ : ∃ c, bt s 0 = c := ⟨_, rfl⟩
        rw [hc] at t0
        simp only [hc] at hat
        clear hc h48 HM
        have z1 : ((s.size : Int) == 0) = false := beq_eq_false_iff_ne.2 (by omega)
        have z2 : (s.size == 0) = false := beq_eq_false_iff_ne.2 (by omega)
        have hlen : s.size = (noZero (by_ l)).length := by rw [← HE.out, by_length]
        have HD : Hid (Digs (by_ s)) := Lib.hid (by rw [HE.out]; exact hd.out)
        rw [HN.out] at hlen
        have hsz : ¬ 400 < (s.size : Int) + x := by omega
        have hsz2 : ¬ (s.size : Int) + x < -400 := by omega
        have hsz3 : ¬ (15 : Int) < (s.size : Int) := by omega
        have hT2 : Hid ((Format.div F64 (dv (by_ s)) (pw (-x).toNat)).getD 0 = T) := Lib.hid (by rw [HE.out]; exact hT.out)
        subst hlen
        clear HN hm hd hT HE
        go_wp2
        clear t0 hat hs0 hs02
        go_loop [7, 8] (fun mv iv => ∃ (j m : Nat), iv = .int .i64 j ∧ mv = .int .i64 m ∧ j ≤ s.size ∧ m < 1000000000000000 ∧ Hid (valD ((by_ s).take j) = m)) (fun _ iv => s.size - (intOf iv).toNat)
        case atStart => exact ⟨0, 0, rfl, rfl, Nat.zero_le _, by decide, Lib.hid rfl⟩
        case round =>
          obtain ⟨j, m, rfl, rfl, hj, hm15, hV⟩ := hrel
          by_cases hlt : j < s.size
          · have hat : ∀ h : j < s.size, (((s[j]'h).toNat : Nat) : Int) = bt s (j : Int) := fun h => bt_at s j h
            have hb := bt_by s (j : Int) (by simpa using hlt)
            rw [Int.toNat_natCast] at hb
            have hc := HD.out (bt s (j : Int)) (List.mem_of_getElem? hb)
            have hstep := valD_snoc hb
            have hbd := valD_bound HD.out (by rw [by_length]; omega) (j + 1)
            rw [hV.out] at hstep
            obtain ⟨c, hc2⟩ : ∃ c, bt s (j : Int) = c := ⟨_, rfl⟩
            rw [hc2] at hc hstep
            simp only [hc2] at hat
            have hV2 : Hid (valD ((by_ s).take (j + 1)) = 10 * m + (c - 48).toNat) := Lib.hid hstep
            have hm2 : 10 * m + (c - 48).toNat < 1000000000000000 := by rw [← hstep]; exact hbd
            clear hc2 hb hstep hbd hV
            go_wp2
            exact ⟨⟨j + 1, 10 * m + (c - 48).toNat, rfl, by rw [show 10 * (m : Int) + c - 48 = ((10 * m + (c - 48).toNat : Nat) : Int) by omega], by omega, hm2, hV2⟩, by show s.size - ((j : Int) + 1).toNat < s.size - ((j : Nat) : Int).toNat; omega⟩
          · obtain rfl : j = s.size := by omega
            have hdv : Hid (dv (by_ s) = floatOfInt .f64 (m : Int)) := Lib.hid (by
              have e := dv_nat (by_ s) HD.out (by rw [by_length]; omega)
              have e2 := hV.out
              rw [List.take_of_length_le (by rw [by_length]; exact Nat.le_refl _)] at e2
              rw [e2] at e
              exact e)
            clear hV
            go_wp2
            go_loop [9, 10] (fun pv iv => ∃ (k : Nat), iv = .int .i64 k ∧ pv = .float .f64 (pw k) ∧ (k : Int) ≤ -x) (fun _ iv => (-x).toNat - (intOf iv).toNat)
            case atStart => exact ⟨0, rfl, rfl, by omega⟩
            case round =>
              obtain ⟨k, rfl, rfl, hk⟩ := hrel
              by_cases hkl : (k : Int) < -x
              · have q1 := pw_step (k := k) (by omega)
                rw [mul_comm'] at q1
                obtain ⟨a, ha⟩ : ∃ a, pw k = a := ⟨_, rfl⟩
                obtain ⟨b, hb⟩ : ∃ b, pw (k + 1) = b := ⟨_, rfl⟩
                rw [ha, hb] at q1
                rw [ha]
                have m1 := fun (W : World) => run_float_arith (P := Tryd.prog) W .mul 22 .f64 4621819117588971520 a b q1
                have HB := Lib.hid hb
                clear ha hb q1
                go_wp2
                exact ⟨⟨k + 1, rfl, by rw [HB.out], by omega⟩, by show (-x).toNat - ((k : Int) + 1).toNat < (-x).toNat - ((k : Nat) : Int).toNat; omega⟩
              · have hkk : (-x).toNat = k := by omega
                obtain ⟨r, q1, q2, q3⟩ := div_ok (a := dv (by_ s)) (dv_good (by_ s) (fun c hc => (HD.out c hc).1)).1 (pw_nz (k := k) (by omega))
                have e : T = r := by rw [← hT2.out, hkk, q1]; rfl
                rw [hdv.out] at q1
                obtain ⟨a, ha⟩ : ∃ a, pw k = a := ⟨_, rfl⟩
                rw [ha] at q1
                rw [ha]
                have m1 := fun (W : World) => run_float_arith (P := Tryd.prog) W .quo 22 .f64 (floatOfInt .f64 (m : Int)) a r q1
                clear q1 q2 q3 ha hT2 hdv HD
                go_wp2
                go_ret
                subst e
                exact ⟨rfl, rfl⟩
    · have HE : Hid (noZero (by_ l) = []) := Lib.hid (HM.out.symm.trans (noZero_nil s (by omega)))
      clear HM
      have z0 : s.size = 0 := by omega
      have z1 : ((s.size : Int) == 0) = true := beq_iff_eq.2 (by omega)
      have z2 : (s.size == 0) = true := beq_iff_eq.2 (by omega)
      exact absurd HE.out hm.out
set_option maxHeartbeats 3200000 in
theorem value_fin_p (l : ByteArray) (x : Int) (w : World) (hl : l.size ≤ 2000) (hx0 : -2000000 ≤ x) (hx1 : x ≤ 2000000) (hm : Hid (noZero (by_ l) ≠ [])) (ns : Nat) (hn : (noZero (by_ l)).length = ns) (h15 : ns ≤ 15) (h22 : x ≤ 22) (h23 : 0 ≤ x) (hd : Hid (Digs (noZero (by_ l)))) (T : Nat) (hT : Hid ((Format.mul F64 (dv (noZero (by_ l))) (pw (x).toNat)).getD 0 = T)) :
    Calls Tryd.prog 51 #[.string l, .int .i64 x] w (fun e w' => e = .returned (.float .f64 T) ∧ w' = w) := by
  have HN := Lib.hid hn
  clear hn
  go_enter Tryd.func51, Tryd.ntmps51
  go_wp2
  go_loopg [0] l.size (fun gf v0 wx => wx = w ∧ ∃ s : ByteArray, v0 = .string s ∧ s.size ≤ gf ∧ s.size ≤ l.size ∧ Hid (noZero (by_ s) = noZero (by_ l)))
  case atStart => exact ⟨rfl, l, rfl, Nat.le_refl _, Nat.le_refl _, Lib.hid rfl⟩
  case round =>
    obtain ⟨rfl, s, rfl, hs0, hs02, HM⟩ := hrel
    by_cases h0 : 0 < s.size
    · have hat : ∀ h : 0 < s.size, (((s[0]'h).toNat : Nat) : Int) = bt s 0 := fun h => bt_at s 0 h
      by_cases h48 : bt s 0 = 48
      · have HM2 : Hid (noZero (by_ (s.extract 1 s.size)) = noZero (by_ l)) := Lib.hid ((noZero_step s h0 h48).trans HM.out)
        rw [h48] at hat
        cases gk with
        | zero => omega
        | succ g =>
          clear h48 HM
          go_wp2
          go_roundg g
          case measure => omega
          case rel => exact ⟨rfl, s.extract 1 s.size, rfl, by simp; omega, by simp; omega, HM2⟩
      · have HE : Hid (by_ s = noZero (by_ l)) := Lib.hid ((noZero_by s h0 h48).symm.trans HM.out)
        have t0 : (bt s 0 == 48) = false := beq_eq_false_iff_ne.2 h48
        obtain ⟨c, hc⟩ : ∃ c, bt s 0 = c := ⟨_, rfl⟩
        rw [hc] at t0
        simp only [hc] at hat
        clear hc h48 HM
        have z1 : ((s.size : Int) == 0) = false := beq_eq_false_iff_ne.2 (by omega)
        have z2 : (s.size == 0) = false := beq_eq_false_iff_ne.2 (by omega)
        have hlen : s.size = (noZero (by_ l)).length := by rw [← HE.out, by_length]
        have HD : Hid (Digs (by_ s)) := Lib.hid (by rw [HE.out]; exact hd.out)
        rw [HN.out] at hlen
        have hsz : ¬ 400 < (s.size : Int) + x := by omega
        have hsz2 : ¬ (s.size : Int) + x < -400 := by omega
        have hsz3 : ¬ (15 : Int) < (s.size : Int) := by omega
        have hT2 : Hid ((Format.mul F64 (dv (by_ s)) (pw (x).toNat)).getD 0 = T) := Lib.hid (by rw [HE.out]; exact hT.out)
        subst hlen
        clear HN hm hd hT HE
        go_wp2
        clear t0 hat hs0 hs02
        go_loop [7, 8] (fun mv iv => ∃ (j m : Nat), iv = .int .i64 j ∧ mv = .int .i64 m ∧ j ≤ s.size ∧ m < 1000000000000000 ∧ Hid (valD ((by_ s).take j) = m)) (fun _ iv => s.size - (intOf iv).toNat)
        case atStart => exact ⟨0, 0, rfl, rfl, Nat.zero_le _, by decide, Lib.hid rfl⟩
        case round =>
          obtain ⟨j, m, rfl, rfl, hj, hm15, hV⟩ := hrel
          by_cases hlt : j < s.size
          · have hat : ∀ h : j < s.size, (((s[j]'h).toNat : Nat) : Int) = bt s (j : Int) := fun h => bt_at s j h
            have hb := bt_by s (j : Int) (by simpa using hlt)
            rw [Int.toNat_natCast] at hb
            have hc := HD.out (bt s (j : Int)) (List.mem_of_getElem? hb)
            have hstep := valD_snoc hb
            have hbd := valD_bound HD.out (by rw [by_length]; omega) (j + 1)
            rw [hV.out] at hstep
            obtain ⟨c, hc2⟩ : ∃ c, bt s (j : Int) = c := ⟨_, rfl⟩
            rw [hc2] at hc hstep
            simp only [hc2] at hat
            have hV2 : Hid (valD ((by_ s).take (j + 1)) = 10 * m + (c - 48).toNat) := Lib.hid hstep
            have hm2 : 10 * m + (c - 48).toNat < 1000000000000000 := by rw [← hstep]; exact hbd
            clear hc2 hb hstep hbd hV
            go_wp2
            exact ⟨⟨j + 1, 10 * m + (c - 48).toNat, rfl, by rw [show 10 * (m : Int) + c - 48 = ((10 * m + (c - 48).toNat : Nat) : Int) by omega], by omega, hm2, hV2⟩, by show s.size - ((j : Int) + 1).toNat < s.size - ((j : Nat) : Int).toNat; omega⟩
          · obtain rfl : j = s.size := by omega
            have hdv : Hid (dv (by_ s) = floatOfInt .f64 (m : Int)) := Lib.hid (by
              have e := dv_nat (by_ s) HD.out (by rw [by_length]; omega)
              have e2 := hV.out
              rw [List.take_of_length_le (by rw [by_length]; exact Nat.le_refl _)] at e2
              rw [e2] at e
              exact e)
            clear hV
            go_wp2
            go_loop [9, 10] (fun pv iv => ∃ (k : Nat), iv = .int .i64 k ∧ pv = .float .f64 (pw k) ∧ (k : Int) ≤ x) (fun _ iv => (x).toNat - (intOf iv).toNat)
            case atStart => exact ⟨0, rfl, rfl, by omega⟩
            case round =>
              obtain ⟨k, rfl, rfl, hk⟩ := hrel
              by_cases hkl : (k : Int) < x
              · have q1 := pw_step (k := k) (by omega)
                rw [mul_comm'] at q1
                obtain ⟨a, ha⟩ : ∃ a, pw k = a := ⟨_, rfl⟩
                obtain ⟨b, hb⟩ : ∃ b, pw (k + 1) = b := ⟨_, rfl⟩
                rw [ha, hb] at q1
                rw [ha]
                have m1 := fun (W : World) => run_float_arith (P := Tryd.prog) W .mul 22 .f64 4621819117588971520 a b q1
                have HB := Lib.hid hb
                clear ha hb q1
                go_wp2
                exact ⟨⟨k + 1, rfl, by rw [HB.out], by omega⟩, by show (x).toNat - ((k : Int) + 1).toNat < (x).toNat - ((k : Nat) : Int).toNat; omega⟩
              · have hkk : (x).toNat = k := by omega
                obtain ⟨r, q1, q2, q3⟩ := mul_ok (a := dv (by_ s)) (dv_good (by_ s) (fun c hc => (HD.out c hc).1)).1 (pw_nz (k := k) (by omega))
                have e : T = r := by rw [← hT2.out, hkk, q1]; rfl
                rw [hdv.out] at q1
                obtain ⟨a, ha⟩ : ∃ a, pw k = a := ⟨_, rfl⟩
                rw [ha] at q1
                rw [ha]
                have m1 := fun (W : World) => run_float_arith (P := Tryd.prog) W .mul 22 .f64 (floatOfInt .f64 (m : Int)) a r q1
                clear q1 q2 q3 ha hT2 hdv HD
                go_wp2
                go_ret
                subst e
                exact ⟨rfl, rfl⟩
    · have HE : Hid (noZero (by_ l) = []) := Lib.hid (HM.out.symm.trans (noZero_nil s (by omega)))
      clear HM
      have z0 : s.size = 0 := by omega
      have z1 : ((s.size : Int) == 0) = true := beq_iff_eq.2 (by omega)
      have z2 : (s.size == 0) = true := beq_iff_eq.2 (by omega)
      exact absurd HE.out hm.out
/-- The document's value. -/
theorem value_any (l : ByteArray) (x : Int) (w : World) (hl : l.size ≤ 2000) (hx0 : -2000000 ≤ x) (hx1 : x ≤ 2000000) (hd : Digs (by_ l)) :
    Calls Tryd.prog 51 #[.string l, .int .i64 x] w (FOut (sgv (M.valOf (noZero (by_ l)) x) false) w) := by
  have hdn : Digs (noZero (by_ l)) := fun c hc => hd c ((List.dropWhile_suffix _).subset hc)
  have mk : ∀ (T : Nat), T < 18446744073709551616 → ∀ e w', (e = Ending.returned (.float .f64 T) ∧ w' = w) → FOut T w e w' := fun T hT e w' h => ⟨⟨T, h.1, .inr rfl, hT, by rw [h.2]; exact Below.refl _ w⟩⟩
  by_cases hm : noZero (by_ l) = []
  · have e : sgv (M.valOf (noZero (by_ l)) x) false = 0 := by rw [hm]; rfl
    rw [e]
    exact (value_none l x w hl hx0 hx1 (Lib.hid hm)).mono (mk 0 (by decide))
  obtain ⟨ns, hn⟩ : ∃ ns, (noZero (by_ l)).length = ns := ⟨_, rfl⟩
  by_cases h1 : 400 < (ns : Int) + x
  · have e : sgv (M.valOf (noZero (by_ l)) x) false = 9218868437227405312 := by unfold M.valOf; rw [if_neg hm, if_pos (by omega)]; rfl
    rw [e]
    exact (value_great l x w hl hx0 hx1 (Lib.hid hm) ns hn h1).mono (mk _ (by decide))
  by_cases h2 : (ns : Int) + x < -400
  · have e : sgv (M.valOf (noZero (by_ l)) x) false = 0 := by unfold M.valOf; rw [if_neg hm, if_neg (by omega), if_pos (by omega)]; rfl
    rw [e]
    exact (value_small l x w hl hx0 hx1 (Lib.hid hm) ns hn h2).mono (mk 0 (by decide))
  by_cases h3 : 15 < ns ∨ x < -22 ∨ 22 < x
  · have e : sgv (M.valOf (noZero (by_ l)) x) false = NANF := by unfold M.valOf; rw [if_neg hm, if_neg (by omega), if_neg (by omega), if_pos (by omega)]; rfl
    rw [e]
    by_cases q1 : 15 < ns
    · exact value_nan_a l x w hl hx0 hx1 (Lib.hid hm) ns hn h1 h2 q1
    by_cases q2 : 22 < x
    · exact value_nan_b l x w hl hx0 hx1 (Lib.hid hm) ns hn h1 h2 (by omega) q2
    · exact value_nan_c l x w hl hx0 hx1 (Lib.hid hm) ns hn h1 h2 (by omega) q2 (by omega)
  · have e : M.valOf (noZero (by_ l)) x = .fin (noZero (by_ l)) x := by unfold M.valOf; rw [if_neg hm, if_neg (by omega), if_neg (by omega), if_neg (by omega)]
    rw [e]
    have e2 : sgv (.fin (noZero (by_ l)) x) false = valF (.fin (noZero (by_ l)) x) := by unfold sgv; rw [if_neg (by simp), if_neg (by decide)]
    rw [e2, valF_fin]
    have hg := dv_good (noZero (by_ l)) (fun c hc => (hdn c hc).1)
    by_cases hneg : x < 0
    · rw [if_pos hneg]
      obtain ⟨r, q, r1, r2⟩ := div_ok hg.1 (pw_nz (k := (-x).toNat) (by omega))
      have hr := lt63 (Ieee.Format.div_lt F64 q) (r2.trans hg.2)
      have hq : (F64.div (dv (noZero (by_ l))) (pw (-x).toNat)).getD 0 = r := by rw [q]; rfl
      rw [hq]
      exact (value_fin_n l x w hl hx0 hx1 (Lib.hid hm) ns hn (by omega) (by omega) hneg (Lib.hid hdn) r (Lib.hid hq)).mono (mk r (by omega))
    · rw [if_neg hneg]
      obtain ⟨r, q, r1, r2⟩ := mul_ok hg.1 (pw_nz (k := x.toNat) (by omega))
      have hr := lt63 (Ieee.Format.mul_lt F64 q) (r2.trans hg.2)
      have hq : (F64.mul (dv (noZero (by_ l))) (pw x.toNat)).getD 0 = r := by rw [q]; rfl
      rw [hq]
      exact (value_fin_p l x w hl hx0 hx1 (Lib.hid hm) ns hn (by omega) (by omega) (by omega) (Lib.hid hdn) r (Lib.hid hq)).mono (mk r (by omega))
end Go.Proofs.YtchbmihhkjpkaaaDoor.G
