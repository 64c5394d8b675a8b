/-
  Whole numbers below 2^53 as floats: sums and products are exact. Plain Lean.
-/
import Derived.Test.YtchbmihhkjpkaaaDoorRL2
namespace Go.Proofs.YtchbmihhkjpkaaaDoor.M
open Ieee
set_option linter.unusedVariables false
set_option linter.unusedSimpArgs false

theorem fb : F64.fractionBits = 52 := rfl
theorem log2_shift (n k : Nat) (h : n ≠ 0) : (n <<< k).log2 = n.log2 + k := by
  rw [Nat.shiftLeft_eq]
  have h1 := (Nat.log2_eq_iff h).1 rfl
  have hp : 0 < 2 ^ k := Nat.two_pow_pos k
  have hne : n * 2 ^ k ≠ 0 := Nat.mul_ne_zero h (by omega)
  refine (Nat.log2_eq_iff hne).2 ⟨?_, ?_⟩
  · rw [Nat.pow_add]; exact Nat.mul_le_mul_right _ h1.1
  · rw [show n.log2 + k + 1 = (n.log2 + 1) + k by omega, Nat.pow_add]; exact Nat.mul_lt_mul_of_pos_right h1.2 hp
theorem log2_53 {n : Nat} (h0 : n ≠ 0) (h : n < 9007199254740992) : n.log2 ≤ 52 := by
  have := (Nat.log2_lt h0 (k := 53)).2 h
  omega
theorem cut_zero (s : Bool) (n : Nat) : Toward.even.cut s n 0 = n := by
  unfold Toward.cut
  rw [Nat.zero_min]
  show n / 1 + (decide ((1 : Nat) < 2 * (n % 1)) || ((1 : Nat) == 2 * (n % 1)) && n / 1 % 2 == 1).toNat = n
  rw [Nat.mod_one, Nat.div_one]; rfl
/-- A drop of zeros. -/
theorem cut_exact (s : Bool) (n d : Nat) (h : d ≤ (n <<< d).log2 + 2) : Toward.even.cut s (n <<< d) d = n := by
  unfold Toward.cut
  rw [Nat.min_eq_left h]
  have hp : 0 < 2 ^ d := Nat.two_pow_pos d
  have e1 : (1 : Nat) <<< d = 2 ^ d := by rw [Nat.shiftLeft_eq, Nat.one_mul]
  have e2 : n <<< d = n * 2 ^ d := Nat.shiftLeft_eq _ _
  rw [e1, e2]
  dsimp only
  rw [Nat.mul_div_cancel _ hp, Nat.mul_mod_left]
  rw [Nat.mul_zero, decide_eq_false (by omega)]
  have e3 : ((2 ^ d : Nat) == 0) = false := beq_eq_false_iff_ne.2 (by omega)
  rw [e3]; rfl
theorem shift_shift (n a b : Nat) : (n <<< a) <<< b = n <<< (a + b) := by rw [Nat.shiftLeft_eq, Nat.shiftLeft_eq, Nat.shiftLeft_eq, Nat.mul_assoc, Nat.pow_add]
/-- What is written for a whole number, however its bits are laid. -/
theorem near_shift (n k : Nat) (h : n < 9007199254740992) : F64.nearest false (n <<< k) (-(k : Int)) = F64.nearest false n 0 := by
  by_cases h0 : n = 0
  · subst h0
    rw [Nat.zero_shiftLeft]; unfold Format.nearest; rw [if_pos rfl, if_pos rfl]
  have hl := log2_53 h0 h
  have hls := log2_shift n k h0
  have hne : n <<< k ≠ 0 := by rw [Nat.shiftLeft_eq]; exact Nat.mul_ne_zero h0 (by have := Nat.two_pow_pos k; omega)
  obtain ⟨L, hL⟩ : ∃ L, n.log2 = L := ⟨_, rfl⟩
  rw [hL] at hl hls
  unfold Format.nearest
  rw [if_neg hne, if_neg h0, fb, lp, hls, hL]
  dsimp only
  have m1 : max (-(k : Int) + ((L + k : Nat) : Int) - ((52 : Nat) : Int)) (-1074) = (L : Int) - 52 := by omega
  have m2 : max ((0 : Int) + (L : Int) - ((52 : Nat) : Int)) (-1074) = (L : Int) - 52 := by omega
  rw [m1, m2]
  have c2 : Toward.even.cut false (n <<< (0 - ((L : Int) - 52)).toNat) ((L : Int) - 52 - 0).toNat = n <<< (52 - L) := by
    rw [show ((L : Int) - 52 - 0).toNat = 0 by omega, cut_zero, show (0 - ((L : Int) - 52)).toNat = 52 - L by omega]
  have c1 : Toward.even.cut false ((n <<< k) <<< (-(k : Int) - ((L : Int) - 52)).toNat) ((L : Int) - 52 - -(k : Int)).toNat = n <<< (52 - L) := by
    by_cases c : 52 ≤ L + k
    · obtain ⟨d, hd⟩ : ∃ d, L + k - 52 = d := ⟨_, rfl⟩
      rw [show (-(k : Int) - ((L : Int) - 52)).toNat = 0 by omega, Nat.shiftLeft_zero, show ((L : Int) - 52 - -(k : Int)).toNat = d by omega]
      have e : n <<< k = (n <<< (52 - L)) <<< d := by rw [shift_shift, show 52 - L + d = k by omega]
      rw [e]
      refine cut_exact false _ d ?_
      rw [← e, hls]; omega
    · rw [show ((L : Int) - 52 - -(k : Int)).toNat = 0 by omega, cut_zero, shift_shift, show k + (-(k : Int) - ((L : Int) - 52)).toNat = 52 - L by omega]
  rw [c1, c2]
theorem near_word {n : Nat} (h0 : n ≠ 0) (h : n < 9007199254740992) : F64.nearest false n 0 = (n.log2 + 1022) * 4503599627370496 + n <<< (52 - n.log2) ∧ 4503599627370496 ≤ n <<< (52 - n.log2) ∧ n <<< (52 - n.log2) < 9007199254740992 := by
  have hl := log2_53 h0 h
  have h1 := (Nat.log2_eq_iff h0).1 rfl
  obtain ⟨L, hL⟩ : ∃ L, n.log2 = L := ⟨_, rfl⟩
  rw [hL] at hl h1 ⊢
  have e52 : (4503599627370496 : Nat) = 2 ^ L * 2 ^ (52 - L) := by rw [← Nat.pow_add, show L + (52 - L) = 52 by omega]
  have e53 : (9007199254740992 : Nat) = 2 ^ (L + 1) * 2 ^ (52 - L) := by rw [← Nat.pow_add, show L + 1 + (52 - L) = 53 by omega]
  have b1 : 4503599627370496 ≤ n <<< (52 - L) := by rw [Nat.shiftLeft_eq, e52]; exact Nat.mul_le_mul_right _ h1.1
  have b2 : n <<< (52 - L) < 9007199254740992 := by rw [Nat.shiftLeft_eq, e53]; exact Nat.mul_lt_mul_of_pos_right h1.2 (Nat.two_pow_pos _)
  refine ⟨?_, b1, b2⟩
  unfold Format.nearest
  rw [if_neg h0, fb, lp, bn, ir, hL]
  dsimp only
  have m2 : max ((0 : Int) + (L : Int) - ((52 : Nat) : Int)) (-1074) = (L : Int) - 52 := by omega
  rw [m2, show ((L : Int) - 52 - 0).toNat = 0 by omega, cut_zero, show (0 - ((L : Int) - 52)).toNat = 52 - L by omega, show ((L : Int) - 52 - -1074).toNat = L + 1022 by omega]
  obtain ⟨z, hz⟩ : ∃ z, n <<< (52 - L) = z := ⟨_, rfl⟩
  rw [hz] at b1 b2 ⊢
  rw [Nat.min_eq_left (by omega)]
  rfl
/-- How a whole number's float is read. -/
theorem read_near (n : Nat) (h : n < 9007199254740992) : ∃ k : Nat, F64.read (F64.nearest false n 0) = .number false (n <<< k) (-(k : Int)) := by
  by_cases h0 : n = 0
  · subst h0; exact ⟨1074, by decide⟩
  obtain ⟨e, b1, b2⟩ := near_word h0 h
  have hl := log2_53 h0 h
  obtain ⟨L, hL⟩ : ∃ L, n.log2 = L := ⟨_, rfl⟩
  rw [hL] at e b1 b2 hl
  refine ⟨52 - L, ?_⟩
  rw [e]
  obtain ⟨z, hz⟩ : ∃ z, n <<< (52 - L) = z := ⟨_, rfl⟩
  rw [hz] at b1 b2 ⊢
  unfold Format.read
  rw [lp, sw, bn, ir]
  dsimp only
  have r1 : ((L + 1022) * 4503599627370496 + z) % 9223372036854775808 = (L + 1022) * 4503599627370496 + z := Nat.mod_eq_of_lt (by omega)
  have r2 : ((L + 1022) * 4503599627370496 + z) / 9223372036854775808 % 2 = 0 := by rw [Nat.div_eq_of_lt (by omega)]
  rw [r1, r2, if_neg (by omega), if_pos (by omega)]
  have r3 : ((L + 1022) * 4503599627370496 + z) % 4503599627370496 = z - 4503599627370496 := by omega
  have r4 : ((L + 1022) * 4503599627370496 + z) / 4503599627370496 = L + 1023 := by omega
  rw [r3, r4, show 4503599627370496 + (z - 4503599627370496) = z by omega, show (-1074 : Int) + ((L + 1023 - 1 : Nat) : Int) = -((52 - L : Nat) : Int) by omega]
  rfl
theorem ofI_nat (n : Nat) : ofI n = F64.nearest false n 0 := by
  unfold ofI
  rw [decide_eq_false (by omega)]; rfl
theorem mul_nat {a b : Nat} (h : a * b < 9007199254740992) (ha : a < 9007199254740992) (hb : b < 9007199254740992) : F64.mul (ofI a) (ofI b) = some (ofI (a * b : Nat)) := by
  rw [ofI_nat, ofI_nat, ofI_nat]
  obtain ⟨k, h1⟩ := read_near a ha
  obtain ⟨j, h2⟩ := read_near b hb
  unfold Format.mul
  rw [h1, h2]
  show some (F64.nearest false (a <<< k * b <<< j) (-(k : Int) + -(j : Int))) = _
  have e : a <<< k * b <<< j = (a * b) <<< (k + j) := by
    rw [Nat.shiftLeft_eq, Nat.shiftLeft_eq, Nat.shiftLeft_eq, Nat.pow_add, Nat.mul_mul_mul_comm]
  rw [e, show -(k : Int) + -(j : Int) = -((k + j : Nat) : Int) by omega, near_shift _ _ h]
theorem add_nat {a b : Nat} (h : a + b < 9007199254740992) : F64.add (ofI a) (ofI b) = some (ofI (a + b : Nat)) := by
  rw [ofI_nat, ofI_nat, ofI_nat]
  obtain ⟨k, h1⟩ := read_near a (by omega)
  obtain ⟨j, h2⟩ := read_near b (by omega)
  unfold Format.add
  rw [h1, h2]
  obtain ⟨B, hB⟩ : ∃ B : Nat, max k j = B := ⟨_, rfl⟩
  have hm : min (-(k : Int)) (-(j : Int)) = -(B : Int) := by omega
  have e1 : Ieee.signed false (a <<< k) (-(k : Int) - -(B : Int)).toNat = ((a <<< B : Nat) : Int) := by
    show ((((a <<< k) <<< (-(k : Int) - -(B : Int)).toNat) : Nat) : Int) = _
    rw [shift_shift, show k + (-(k : Int) - -(B : Int)).toNat = B by omega]
  have e2 : Ieee.signed false (b <<< j) (-(j : Int) - -(B : Int)).toNat = ((b <<< B : Nat) : Int) := by
    show ((((b <<< j) <<< (-(j : Int) - -(B : Int)).toNat) : Nat) : Int) = _
    rw [shift_shift, show j + (-(j : Int) - -(B : Int)).toNat = B by omega]
  have e3 : ((a <<< B : Nat) : Int) + ((b <<< B : Nat) : Int) = (((a + b) <<< B : Nat) : Int) := by
    rw [Nat.shiftLeft_eq, Nat.shiftLeft_eq, Nat.shiftLeft_eq, Nat.add_mul]; exact (Int.natCast_add _ _).symm
  show (some (Datum.number (if Ieee.signed false (a <<< k) (-(k : Int) - min (-(k : Int)) (-(j : Int))).toNat + Ieee.signed false (b <<< j) (-(j : Int) - min (-(k : Int)) (-(j : Int))).toNat = 0 then (false && false) else decide (Ieee.signed false (a <<< k) (-(k : Int) - min (-(k : Int)) (-(j : Int))).toNat + Ieee.signed false (b <<< j) (-(j : Int) - min (-(k : Int)) (-(j : Int))).toNat < 0)) (Ieee.signed false (a <<< k) (-(k : Int) - min (-(k : Int)) (-(j : Int))).toNat + Ieee.signed false (b <<< j) (-(j : Int) - min (-(k : Int)) (-(j : Int))).toNat).natAbs (min (-(k : Int)) (-(j : Int))))).map F64.write = _
  rw [hm, e1, e2, e3]
  obtain ⟨T, hT⟩ : ∃ T : Nat, (a + b) <<< B = T := ⟨_, rfl⟩
  rw [hT]
  have hs : (if ((T : Nat) : Int) = 0 then (false && false) else decide (((T : Nat) : Int) < 0)) = false := by
    split
    · rfl
    · exact decide_eq_false (by omega)
  rw [hs, Int.natAbs_natCast]
  show some (F64.nearest false T (-(B : Int))) = _
  rw [← hT, near_shift _ _ h]
/-- A text of digits, as a number. -/
def valD (m : List Int) : Nat := m.foldl (fun v c => 10 * v + (c - 48).toNat) 0
theorem ten_ofI : TENF = ofI (10 : Nat) := by decide +kernel
theorem one_ofI : ONEF = ofI (1 : Nat) := by decide +kernel
theorem zero_ofI : 0 = ofI (0 : Nat) := by decide +kernel
theorem step_nat {v : Nat} {c : Int} (hc : 48 ≤ c ∧ c ≤ 57) (h : 10 * v + 9 < 9007199254740992) : stepF (ofI v) c = ofI ((10 * v + (c - 48).toNat : Nat) : Int) := by
  unfold stepF
  rw [ten_ofI, mul_nat (a := 10) (b := v) (by omega) (by omega) (by omega), Option.getD_some, show c - 48 = (((c - 48).toNat : Nat) : Int) by omega, add_nat (by omega), Option.getD_some]
  congr 1
theorem fold_le : ∀ (m : List Int) (v : Nat), (∀ c ∈ m, 48 ≤ c ∧ c ≤ 57) → m.foldl (fun v c => 10 * v + (c - 48).toNat) v < (v + 1) * 10 ^ m.length
  | [], v, _ => by simp
  | c :: m, v, h => by
    have h1 := h c (by simp)
    have ih := fold_le m (10 * v + (c - 48).toNat) (fun d hd => h d (by simp [hd]))
    rw [List.foldl_cons, List.length_cons, Nat.pow_succ]
    have : (10 * v + (c - 48).toNat + 1) * 10 ^ m.length ≤ (v + 1) * (10 ^ m.length * 10) := by
      rw [Nat.mul_comm (10 ^ m.length) 10, ← Nat.mul_assoc]
      exact Nat.mul_le_mul_right _ (by omega)
    omega
theorem dv_nat' : ∀ (m : List Int) (v : Nat), (∀ c ∈ m, 48 ≤ c ∧ c ≤ 57) → (v + 1) * 10 ^ m.length ≤ 1000000000000000 → m.foldl stepF (ofI v) = ofI ((m.foldl (fun v c => 10 * v + (c - 48).toNat) v : Nat) : Int)
  | [], v, _, _ => rfl
  | c :: m, v, h, hb => by
    have h1 := h c (by simp)
    have hb2 : (10 * v + (c - 48).toNat + 1) * 10 ^ m.length ≤ 1000000000000000 := by
      refine Nat.le_trans ?_ hb
      rw [List.length_cons, Nat.pow_succ, Nat.mul_comm (10 ^ m.length) 10, ← Nat.mul_assoc]
      exact Nat.mul_le_mul_right _ (by omega)
    have hp : 1 ≤ 10 ^ m.length := Nat.one_le_pow _ _ (by decide)
    have hb3 : 10 * v + (c - 48).toNat + 1 ≤ 1000000000000000 := Nat.le_trans (by have := Nat.mul_le_mul_left (10 * v + (c - 48).toNat + 1) hp; omega) hb2
    rw [List.foldl_cons, List.foldl_cons, step_nat h1 (by omega)]
    exact dv_nat' m _ (fun d hd => h d (by simp [hd])) hb2
/-- Up to 15 digits are worth what they say. -/
theorem dv_nat (m : List Int) (h : ∀ c ∈ m, 48 ≤ c ∧ c ≤ 57) (hl : m.length ≤ 15) : dv m = ofI (valD m : Nat) := by
  unfold dv valD
  have := dv_nat' m 0 h (by rw [Nat.zero_add, Nat.one_mul]; exact Nat.pow_le_pow_right (by decide) hl)
  rw [← zero_ofI] at this
  exact this
end Go.Proofs.YtchbmihhkjpkaaaDoor.M
