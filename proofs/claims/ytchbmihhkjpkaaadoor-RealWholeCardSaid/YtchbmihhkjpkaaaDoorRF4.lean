/-
  Floats of 64 bits: twice a finite one; the sign, told by comparing and dividing. Plain Lean.
-/
import Derived.Test.YtchbmihhkjpkaaaDoorRX1
namespace Go.Proofs.YtchbmihhkjpkaaaDoor.M
open Ieee
set_option linter.unusedVariables false
set_option linter.unusedSimpArgs false

theorem read_cls2 (b : Nat) : (∃ t, F64.read b = .nan (sgn b) t) ∨ F64.read b = .infinity (sgn b) ∨ ∃ m i, F64.read b = .number (sgn b) m i ∧ (m < 4503599627370496 ∧ i = -1074 ∨ 4503599627370496 ≤ m ∧ m < 9007199254740992 ∧ -1074 ≤ i ∧ i ≤ 971) := by
  unfold Format.read
  rw [lp, sw, bn, ir]
  dsimp only
  obtain ⟨r, hr⟩ : ∃ r, b % 9223372036854775808 = r := ⟨_, rfl⟩
  rw [hr]
  by_cases h1 : r < 4503599627370496
  · rw [if_pos h1]; exact .inr (.inr ⟨r, -1074, rfl, .inl ⟨h1, rfl⟩⟩)
  rw [if_neg h1]
  by_cases h2 : r < 9218868437227405312
  · rw [if_pos h2]
    exact .inr (.inr ⟨_, _, rfl, .inr ⟨by omega, by omega, by omega, by omega⟩⟩)
  rw [if_neg h2]
  by_cases h3 : r = 9218868437227405312
  · rw [if_pos h3]; exact .inr (.inl rfl)
  · rw [if_neg h3]; exact .inl ⟨_, rfl⟩
theorem read_word (s : Bool) {r : Nat} (h : r < 9223372036854775808) : F64.read (F64.word s r) = if r < 4503599627370496 then .number s r (-1074) else if r < 9218868437227405312 then .number s (4503599627370496 + r % 4503599627370496) (-1074 + ((r / 4503599627370496 - 1 : Nat) : Int)) else if r = 9218868437227405312 then .infinity s else .nan s (r - 9218868437227405312) := by
  have hm : F64.word s r % 9223372036854775808 = r := by
    unfold Format.word
    rw [sw]
    cases s with
    | true => rw [if_pos rfl]; omega
    | false => rw [if_neg (by decide)]; omega
  have hs := sgn_word s h
  unfold sgn at hs
  unfold Format.read
  rw [lp, sw, bn, ir]
  dsimp only
  rw [hm, hs]
theorem signed_zero_up (s : Bool) (m : Nat) : Ieee.signed s m 0 = if s = true then -(m : Int) else (m : Int) := by
  unfold Ieee.signed; rw [Nat.shiftLeft_zero]
theorem sum_twice (s : Bool) {m : Nat} (i : Int) (hm : m ≠ 0) : Datum.sum (.number s m i) (.number s m i) = some (.number s (2 * m) i) := by
  show some (Datum.number (if Ieee.signed s m (i - min i i).toNat + Ieee.signed s m (i - min i i).toNat = 0 then (s && s) else decide (Ieee.signed s m (i - min i i).toNat + Ieee.signed s m (i - min i i).toNat < 0)) (Ieee.signed s m (i - min i i).toNat + Ieee.signed s m (i - min i i).toNat).natAbs (min i i)) = _
  rw [Int.min_self, Int.sub_self, Int.toNat_zero, signed_zero_up]
  cases s with
  | true =>
    rw [if_pos rfl, if_neg (by omega), decide_eq_true (by omega), show (-(m : Int) + -(m : Int)).natAbs = 2 * m by omega]
  | false =>
    rw [if_neg (show ¬ false = true by decide), if_neg (by omega), decide_eq_false (by omega), show ((m : Int) + (m : Int)).natAbs = 2 * m by omega]
theorem near_big (s : Bool) {m : Nat} {i : Int} (h0 : 4503599627370496 ≤ m) (h1 : m < 9007199254740992) (hi : -1074 ≤ i) : F64.nearest s (2 * m) i = F64.word s (min ((i + 1075).toNat * 4503599627370496 + m) 9218868437227405312) := by
  have hl : (2 * m).log2 = 53 := (Nat.log2_eq_iff (by omega)).2 ⟨by omega, by omega⟩
  have hc : Toward.even.cut s ((2 * m) <<< 0) 1 = m := by
    have e : (2 * m) <<< 0 = m <<< 1 := by rw [Nat.shiftLeft_zero, Nat.shiftLeft_eq]; omega
    rw [e]
    refine cut_exact s m 1 ?_
    omega
  unfold Format.nearest
  rw [if_neg (by omega), fb, lp, bn, ir, hl]
  dsimp only
  have m1 : max (i + ((53 : Nat) : Int) - ((52 : Nat) : Int)) (-1074) = i + 1 := by omega
  rw [m1, show (i - (i + 1)).toNat = 0 by omega, show (i + 1 - i).toNat = 1 by omega, hc, show (i + 1 - -1074).toNat = (i + 1075).toNat by omega]
theorem near_small (s : Bool) {m : Nat} (h0 : m ≠ 0) (h1 : m < 4503599627370496) : F64.nearest s (2 * m) (-1074) = F64.word s (2 * m) := by
  have hl : (2 * m).log2 ≤ 52 := log2_53 (by omega) (by omega)
  unfold Format.nearest
  rw [if_neg (by omega), fb, lp, bn, ir]
  dsimp only
  have m1 : max ((-1074 : Int) + ((2 * m).log2 : Int) - ((52 : Nat) : Int)) (-1074) = -1074 := by omega
  rw [m1, show ((-1074 : Int) - -1074).toNat = 0 from rfl, cut_zero, Nat.shiftLeft_zero, Nat.zero_mul, Nat.zero_add, Nat.min_eq_left (by omega)]
theorem signed_ne (s : Bool) {m a b : Nat} (h : m <<< a ≠ m <<< b) : Ieee.signed s m a ≠ Ieee.signed s m b := by
  unfold Ieee.signed
  cases s with
  | true => rw [if_pos rfl, if_pos rfl]; omega
  | false => rw [if_neg (by decide), if_neg (by decide)]; omega
theorem order_num_ne {s : Bool} {m n : Nat} {i j : Int} (h : Ieee.signed s m (i - min i j).toNat ≠ Ieee.signed s n (j - min i j).toNat) : (Datum.order (.number s m i) (.number s n j) == some .eq) = false := by
  show (some (compare (Ieee.signed s m (i - min i j).toNat) (Ieee.signed s n (j - min i j).toNat)) == some Ordering.eq) = false
  rw [beq_eq_false_iff_ne]
  intro q
  exact h (int_cmp_eq.1 (Option.some.inj q))
/-- Twice a finite one that is no zero is another one. -/
theorem twice_fin {a : Nat} (h : sortF a = 3) : ∃ r, F64.add a a = some r ∧ (cmpF a r == some .eq) = false := by
  unfold sortF at h
  unfold cmpF Format.add Format.order
  rcases read_cls2 a with ⟨t, q⟩ | q | ⟨m, i, q, hm⟩
  · rw [q] at h; cases h
  · rw [q] at h; cases h
  rw [q] at h ⊢
  have hm0 : m ≠ 0 := by
    intro e
    have h' : (if m = 0 then (2 : Int) else 3) = 3 := h
    rw [if_pos e] at h'; cases h'
  obtain ⟨s, hs⟩ : ∃ s, sgn a = s := ⟨_, rfl⟩
  rw [hs, sum_twice s i hm0]
  refine ⟨_, rfl, ?_⟩
  show (Datum.order (.number s m i) (F64.read (F64.nearest s (2 * m) i)) == some .eq) = false
  rcases hm with ⟨h1, rfl⟩ | ⟨h0, h1, hi, hj⟩
  · rw [near_small s hm0 h1, read_word s (by omega)]
    by_cases c : 2 * m < 4503599627370496
    · rw [if_pos c]
      apply order_num_ne
      unfold Ieee.signed
      rw [show ((-1074 : Int) - min (-1074) (-1074)).toNat = 0 from rfl, Nat.shiftLeft_zero, Nat.shiftLeft_zero]
      cases s with
      | true => rw [if_pos rfl, if_pos rfl]; omega
      | false => rw [if_neg (by decide), if_neg (by decide)]; omega
    · rw [if_neg c, if_pos (by omega), show (-1074 : Int) + ((2 * m / 4503599627370496 - 1 : Nat) : Int) = -1074 by omega, show 4503599627370496 + 2 * m % 4503599627370496 = 2 * m by omega]
      apply order_num_ne
      unfold Ieee.signed
      rw [show ((-1074 : Int) - min (-1074) (-1074)).toNat = 0 from rfl, Nat.shiftLeft_zero, Nat.shiftLeft_zero]
      cases s with
      | true => rw [if_pos rfl, if_pos rfl]; omega
      | false => rw [if_neg (by decide), if_neg (by decide)]; omega
  · rw [near_big s h0 h1 hi]
    obtain ⟨k, hk⟩ : ∃ k : Nat, (i + 1075).toNat = k := ⟨_, rfl⟩
    rw [hk]
    by_cases c : i < 971
    · rw [Nat.min_eq_left (by omega), read_word s (by omega), if_neg (by omega), if_pos (by omega)]
      rw [show -1074 + (((k * 4503599627370496 + m) / 4503599627370496 - 1 : Nat) : Int) = i + 1 by omega, show 4503599627370496 + (k * 4503599627370496 + m) % 4503599627370496 = m by omega]
      apply order_num_ne
      rw [show (i - min i (i + 1)).toNat = 0 by omega, show (i + 1 - min i (i + 1)).toNat = 1 by omega]
      apply signed_ne
      rw [Nat.shiftLeft_zero, Nat.shiftLeft_eq]
      omega
    · rw [Nat.min_eq_right (by omega), read_word s (by decide), if_neg (by decide), if_neg (by decide), if_pos rfl]
      cases s <;> rfl
/-- Below 0. -/
theorem cmp_neg (a : Nat) : (cmpF a 0 == some .lt) = (sgn a && !isN a && !decide (sortF a = 2)) := by
  unfold cmpF Format.order sortF isN
  rw [read_zero]
  rcases read_cls a with ⟨t, h⟩ | h | ⟨m, i, h, hm, h0, h1⟩
  · rw [h]
    show false = (sgn a && !true && _)
    cases sgn a <;> rfl
  · rw [h]
    show (some (if sgn a = true then Ordering.lt else Ordering.gt) == some .lt) = (sgn a && !false && !decide ((1 : Int) = 2))
    cases sgn a <;> rfl
  · rw [h]
    have e0 : Ieee.signed false 0 (-1074 - min i (-1074)).toNat = 0 := (signed_zero _ _ _).2 rfl
    show (some (compare (Ieee.signed (sgn a) m (i - min i (-1074)).toNat) (Ieee.signed false 0 (-1074 - min i (-1074)).toNat)) == some .lt) = (sgn a && !false && !decide ((if m = 0 then (2 : Int) else 3) = 2))
    rw [e0]
    have hz := signed_zero (sgn a) m (i - min i (-1074)).toNat
    have hl := signed_le (sgn a) m (i - min i (-1074)).toNat
    have hlt : (some (compare (Ieee.signed (sgn a) m (i - min i (-1074)).toNat) 0) == some Ordering.lt) = decide (Ieee.signed (sgn a) m (i - min i (-1074)).toNat < 0) := by
      obtain ⟨x, hx⟩ : ∃ x, Ieee.signed (sgn a) m (i - min i (-1074)).toNat = x := ⟨_, rfl⟩
      rw [hx]
      simp only [compare, compareOfLessAndEq]
      by_cases q : x < 0
      · rw [if_pos q, decide_eq_true q]; rfl
      · rw [if_neg q, decide_eq_false q]; split <;> rfl
    rw [hlt]
    by_cases hm0 : m = 0
    · rw [decide_eq_false (by have := hz.2 hm0; omega), if_pos hm0]; simp
    · have hne : Ieee.signed (sgn a) m (i - min i (-1074)).toNat ≠ 0 := fun q => hm0 (hz.1 q)
      rw [if_neg hm0]
      unfold Ieee.signed at hne hl ⊢
      cases hs : sgn a with
      | true =>
        rw [hs] at hne hl
        rw [if_pos rfl] at hne hl ⊢
        rw [decide_eq_true (by omega)]; rfl
      | false =>
        rw [hs] at hne hl
        rw [if_neg (by decide)] at hne hl ⊢
        rw [decide_eq_false (by omega)]; rfl
/-- 1 by a zero. -/
theorem div_zero {a : Nat} (h : sortF a = 2) : F64.div ONEF a = some (F64.word (sgn a) 9218868437227405312) := by
  unfold sortF at h
  unfold Format.div
  have h1 : ∃ m i, F64.read ONEF = .number false m i ∧ m ≠ 0 := ⟨4503599627370496, -52, by decide +kernel, by decide⟩
  obtain ⟨m, i, e1, e2⟩ := h1
  rw [e1]
  rcases read_cls a with ⟨t, q⟩ | q | ⟨n, j, q, _⟩
  · rw [q] at h; cases h
  · rw [q] at h; cases h
  · rw [q] at h ⊢
    have hn : n = 0 := by
      have h' : (if n = 0 then (2 : Int) else 3) = 2 := h
      by_cases c : n = 0
      · exact c
      · rw [if_neg c] at h'; cases h'
    have e : Datum.quotient (F64.fractionBits + 2) (.number false m i) (.number (sgn a) n j) = some (.infinity (false ^^ sgn a)) := by
      show (if n = 0 then if m = 0 then none else some (Datum.infinity (false ^^ sgn a)) else _) = _
      rw [if_pos hn, if_neg e2]
    rw [e, Bool.false_xor]
    show some (F64.word (sgn a) F64.infRung) = _
    rw [ir]
theorem inf_lt (s : Bool) : (cmpF (F64.word s 9218868437227405312) 0 == some .lt) = s := by cases s <;> decide +kernel
theorem negF_nan {a : Nat} (h : isN a = true) : negF a = false := by unfold negF; rw [h]; cases sgn a <;> rfl
theorem mul_comm' (a b : Nat) : F64.mul a b = F64.mul b a := by
  unfold Format.mul
  congr 1
  cases F64.read a with
  | nan s t => cases F64.read b <;> rfl
  | infinity s =>
    cases F64.read b with
    | nan s' t' => rfl
    | infinity s' => show some (Datum.infinity (s ^^ s')) = some (Datum.infinity (s' ^^ s)); rw [Bool.xor_comm]
    | number s' m' i' => show (if m' = 0 then none else some (Datum.infinity (s ^^ s'))) = if m' = 0 then none else some (Datum.infinity (s ^^ s')); rfl
  | number s m i =>
    cases F64.read b with
    | nan s' t' => rfl
    | infinity s' => show (if m = 0 then none else some (Datum.infinity (s' ^^ s))) = if m = 0 then none else some (Datum.infinity (s' ^^ s)); rfl
    | number s' m' i' => show some (Datum.number (s ^^ s') (m * m') (i + i')) = some (Datum.number (s' ^^ s) (m' * m) (i' + i)); rw [Bool.xor_comm, Nat.mul_comm, Int.add_comm]
end Go.Proofs.YtchbmihhkjpkaaaDoor.M
