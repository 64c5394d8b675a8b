/-
  Floats of 64 bits, by what their bits stand for: their sort, their sign, how they compare. Plain Lean over the model's words.
-/
import Derived.WalkLawsBesides
namespace Go.Proofs.YtchbmihhkjpkaaaDoor.M
open Ieee
set_option linter.unusedVariables false
set_option linter.unusedSimpArgs false

abbrev F64 : Ieee.Format := Ieee.double
def MAXF : Nat := 9218868437227405311
def NMAXF : Nat := 18442240474082181119
def sgn (b : Nat) : Bool := b / 9223372036854775808 % 2 == 1
theorem lp : F64.leastPlace = -1074 := by decide
theorem sw : F64.signWeight = 9223372036854775808 := by decide
theorem bn : F64.binade = 4503599627370496 := by decide
theorem ir : F64.infRung = 9218868437227405312 := by decide
/-- What a word stands for. -/
theorem read_cls (b : Nat) : (∃ t, F64.read b = .nan (sgn b) t) ∨ F64.read b = .infinity (sgn b) ∨ ∃ m i, F64.read b = .number (sgn b) m i ∧ m < 9007199254740992 ∧ -1074 ≤ i ∧ i ≤ 971 := by
  unfold Format.read
  rw [lp, sw, bn, ir]
  dsimp only
  obtain ⟨r, hr⟩ : ∃ r, b % 9223372036854775808 = r := ⟨_, rfl⟩
  rw [hr]
  by_cases h1 : r < 4503599627370496
  · rw [if_pos h1]; exact .inr (.inr ⟨r, -1074, rfl, by omega, by omega, by omega⟩)
  rw [if_neg h1]
  by_cases h2 : r < 9218868437227405312
  · rw [if_pos h2]
    exact .inr (.inr ⟨_, _, rfl, by omega, by omega, by omega⟩)
  rw [if_neg h2]
  by_cases h3 : r = 9218868437227405312
  · rw [if_pos h3]; exact .inr (.inl rfl)
  · rw [if_neg h3]; exact .inl ⟨_, rfl⟩
/-- Its sort: 0 no number, 1 infinite, 2 a zero, 3 else. -/
def sortF (b : Nat) : Int := match F64.read b with | .nan .. => 0 | .infinity _ => 1 | .number _ m _ => if m = 0 then 2 else 3
def isN (b : Nat) : Bool := (F64.read b).isNaN
def negF (b : Nat) : Bool := sgn b && !isN b
def cmpF (a b : Nat) : Option Ordering := F64.order a b
theorem cmp_nan_l {a : Nat} (h : isN a = true) (b : Nat) : cmpF a b = none := by
  unfold isN at h; unfold cmpF Format.order
  cases q : F64.read a with
  | nan s t => rfl
  | _ => rw [q] at h; cases h
theorem cmp_nan_r {b : Nat} (h : isN b = true) (a : Nat) : cmpF a b = none := by
  unfold isN at h; unfold cmpF Format.order
  cases q : F64.read b with
  | nan s t => cases F64.read a <;> rfl
  | _ => rw [q] at h; cases h
theorem int_cmp_self (a : Int) : compare a a = .eq := by simp [compare, compareOfLessAndEq]
theorem int_cmp_gt {a b : Int} (h : a ≤ b) : compare a b ≠ .gt := by
  simp only [compare, compareOfLessAndEq]
  split
  · simp
  · split
    · simp
    · omega
theorem int_cmp_lt {a b : Int} (h : b ≤ a) : compare a b ≠ .lt := by
  simp only [compare, compareOfLessAndEq]
  split
  · omega
  · split <;> simp
theorem int_cmp_eq {a b : Int} : compare a b = .eq ↔ a = b := by
  simp only [compare, compareOfLessAndEq]
  split
  · simp; omega
  · split
    · rename_i h; simp [h]
    · rename_i h; simp [h]
theorem cmp_self {a : Nat} (h : isN a = false) : cmpF a a = some .eq := by
  unfold isN at h; unfold cmpF Format.order
  cases q : F64.read a with
  | nan s t => rw [q] at h; cases h
  | infinity s => show some (compare s.toNat s.toNat) = _; simp [compare, compareOfLessAndEq]
  | number s m i => show some (compare _ _) = _; rw [int_cmp_self]
theorem isN_iff (a : Nat) : isN a = (cmpF a a != some .eq) := by
  cases h : isN a with
  | true => rw [cmp_nan_l h]; rfl
  | false => rw [cmp_self h]; rfl
theorem signed_le (s : Bool) (m up : Nat) : -((m <<< up : Nat) : Int) ≤ Ieee.signed s m up ∧ Ieee.signed s m up ≤ ((m <<< up : Nat) : Int) := by
  unfold Ieee.signed
  obtain ⟨z, hz⟩ : ∃ z : Nat, m <<< up = z := ⟨_, rfl⟩
  rw [hz]
  split <;> omega
theorem signed_zero (s : Bool) (m up : Nat) : Ieee.signed s m up = 0 ↔ m = 0 := by
  have h : ((m <<< up : Nat) : Int) = 0 ↔ m = 0 := by
    rw [Nat.shiftLeft_eq]
    have : 0 < 2 ^ up := Nat.two_pow_pos _
    constructor
    · intro q
      have q2 : m * 2 ^ up = 0 := by exact_mod_cast q
      rcases Nat.mul_eq_zero.1 q2 with e | e
      · exact e
      · omega
    · rintro rfl; simp
  unfold Ieee.signed
  split
  · rw [← h]; omega
  · exact h
theorem read_max : F64.read MAXF = .number false 9007199254740991 971 := by decide
theorem read_nmax : F64.read NMAXF = .number true 9007199254740991 971 := by decide
theorem read_zero : F64.read 0 = .number false 0 (-1074) := by decide
theorem shift_le {m n j k : Nat} (h : m ≤ n) (hj : j ≤ k) : m <<< j ≤ n <<< k := by
  rw [Nat.shiftLeft_eq, Nat.shiftLeft_eq]
  exact Nat.mul_le_mul h (Nat.pow_le_pow_right (by decide) hj)
/-- Beside the greatest finite one. -/
theorem cmp_max (a : Nat) : (cmpF a MAXF == some .gt) = decide (sortF a = 1 ∧ sgn a = false) := by
  unfold cmpF Format.order sortF
  rw [read_max]
  rcases read_cls a with ⟨t, h⟩ | h | ⟨m, i, h, hm, h0, h1⟩
  · rw [h]; rfl
  · rw [h]
    show (some (if sgn a = true then Ordering.lt else Ordering.gt) == some .gt) = _
    cases sgn a <;> rfl
  · rw [h]
    show (some (compare (Ieee.signed (sgn a) m (i - min i 971).toNat) (Ieee.signed false 9007199254740991 (971 - min i 971).toNat)) == some .gt) = decide ((if m = 0 then (2 : Int) else 3) = 1 ∧ _)
    have e : compare (Ieee.signed (sgn a) m (i - min i 971).toNat) (Ieee.signed false 9007199254740991 (971 - min i 971).toNat) ≠ .gt := by
      apply int_cmp_gt
      have q1 := (signed_le (sgn a) m (i - min i 971).toNat).2
      have q2 : Ieee.signed false 9007199254740991 (971 - min i 971).toNat = ((9007199254740991 <<< (971 - min i 971).toNat : Nat) : Int) := rfl
      have q3 := shift_le (show m ≤ 9007199254740991 by omega) (show (i - min i 971).toNat ≤ (971 - min i 971).toNat by omega)
      rw [q2]; omega
    rw [decide_eq_false (by intro q; split at q <;> omega)]
    simpa using e
theorem cmp_nmax (a : Nat) : (cmpF a NMAXF == some .lt) = decide (sortF a = 1 ∧ sgn a = true) := by
  unfold cmpF Format.order sortF
  rw [read_nmax]
  rcases read_cls a with ⟨t, h⟩ | h | ⟨m, i, h, hm, h0, h1⟩
  · rw [h]; rfl
  · rw [h]
    show (some (if sgn a = true then Ordering.lt else Ordering.gt) == some .lt) = _
    cases sgn a <;> rfl
  · rw [h]
    show (some (compare (Ieee.signed (sgn a) m (i - min i 971).toNat) (Ieee.signed true 9007199254740991 (971 - min i 971).toNat)) == some .lt) = decide ((if m = 0 then (2 : Int) else 3) = 1 ∧ _)
    have e : compare (Ieee.signed (sgn a) m (i - min i 971).toNat) (Ieee.signed true 9007199254740991 (971 - min i 971).toNat) ≠ .lt := by
      apply int_cmp_lt
      have q1 := (signed_le (sgn a) m (i - min i 971).toNat).1
      have q2 : Ieee.signed true 9007199254740991 (971 - min i 971).toNat = -((9007199254740991 <<< (971 - min i 971).toNat : Nat) : Int) := rfl
      have q3 := shift_le (show m ≤ 9007199254740991 by omega) (show (i - min i 971).toNat ≤ (971 - min i 971).toNat by omega)
      rw [q2]; omega
    rw [decide_eq_false (by intro q; split at q <;> omega)]
    simpa using e
theorem cmp_zero (a : Nat) : (cmpF a 0 == some .eq) = decide (sortF a = 2) := by
  unfold cmpF Format.order sortF
  rw [read_zero]
  rcases read_cls a with ⟨t, h⟩ | h | ⟨m, i, h, hm, h0, h1⟩
  · rw [h]; rfl
  · rw [h]
    show (some (if sgn a = true then Ordering.lt else Ordering.gt) == some .eq) = _
    cases sgn a <;> rfl
  · rw [h]
    show (some (compare (Ieee.signed (sgn a) m (i - min i (-1074)).toNat) (Ieee.signed false 0 (-1074 - min i (-1074)).toNat)) == some .eq) = decide ((if m = 0 then (2 : Int) else 3) = 2)
    have e0 : Ieee.signed false 0 (-1074 - min i (-1074)).toNat = 0 := (signed_zero _ _ _).2 rfl
    rw [e0, Bool.eq_iff_iff, beq_iff_eq, decide_eq_true_eq, Option.some.injEq, int_cmp_eq, signed_zero]
    split <;> simp [*]
theorem sort_range (a : Nat) : 0 ≤ sortF a ∧ sortF a ≤ 3 := by
  unfold sortF
  split
  · omega
  · omega
  · split <;> omega
theorem sort_nan (a : Nat) : (sortF a == 0) = isN a := by
  unfold sortF isN
  cases F64.read a with
  | number s m i => show ((if m = 0 then (2 : Int) else 3) == 0) = false; split <;> rfl
  | _ => rfl
/-! ### The sign turned -/
def flip (b : Nat) : Nat := b ^^^ 9223372036854775808
theorem flip_mod (b : Nat) : flip b % 9223372036854775808 = b % 9223372036854775808 := by
  have := Nat.xor_mod_two_pow (a := b) (b := 9223372036854775808) (n := 63)
  unfold flip
  rw [show (9223372036854775808 : Nat) = 2 ^ 63 from rfl] at this ⊢
  rw [this, Nat.mod_self, Nat.xor_zero]
theorem flip_div (b : Nat) : flip b / 9223372036854775808 = b / 9223372036854775808 ^^^ 1 := by
  have := Nat.xor_div_two_pow (a := b) (b := 9223372036854775808) (n := 63)
  unfold flip
  rw [show (9223372036854775808 : Nat) = 2 ^ 63 from rfl] at this ⊢
  rw [this, Nat.div_self (Nat.two_pow_pos _)]
theorem sgn_flip (b : Nat) : sgn (flip b) = !sgn b := by
  unfold sgn
  rw [flip_div]
  have h : (b / 9223372036854775808 ^^^ 1) % 2 = (b / 9223372036854775808 % 2 + 1) % 2 := by
    have := Nat.xor_mod_two_pow (a := b / 9223372036854775808) (b := 1) (n := 1)
    rw [show (2 ^ 1 : Nat) = 2 from rfl] at this
    rw [this]
    rcases Nat.mod_two_eq_zero_or_one (b / 9223372036854775808) with e | e <;> rw [e] <;> rfl
  rw [h]
  rcases Nat.mod_two_eq_zero_or_one (b / 9223372036854775808) with e | e <;> rw [e] <;> rfl
theorem read_flip (b : Nat) : F64.read (flip b) = (F64.read b).opposite := by
  have h1 := sgn_flip b
  unfold sgn at h1
  unfold Format.read
  rw [lp, sw, bn, ir]
  dsimp only
  rw [flip_mod, h1]
  obtain ⟨r, hr⟩ : ∃ r, b % 9223372036854775808 = r := ⟨_, rfl⟩
  rw [hr]
  by_cases c1 : r < 4503599627370496
  · rw [if_pos c1, if_pos c1]; rfl
  rw [if_neg c1, if_neg c1]
  by_cases c2 : r < 9218868437227405312
  · rw [if_pos c2, if_pos c2]; rfl
  rw [if_neg c2, if_neg c2]
  by_cases c3 : r = 9218868437227405312
  · rw [if_pos c3, if_pos c3]; rfl
  · rw [if_neg c3, if_neg c3]; rfl
theorem isN_flip (b : Nat) : isN (flip b) = isN b := by unfold isN; rw [read_flip]; cases F64.read b <;> rfl
theorem sort_flip (b : Nat) : sortF (flip b) = sortF b := by unfold sortF; rw [read_flip]; cases F64.read b <;> rfl
theorem neg_flip (b : Nat) (h : isN b = false) : negF (flip b) = !negF b := by
  unfold negF; rw [sgn_flip, isN_flip, h]; cases sgn b <;> rfl
/-- Are two the same? -/
def sameF (a b : Nat) : Bool := if isN a || isN b then isN a && isN b else (cmpF a b == some .eq) && (negF a == negF b)
theorem cmp_swap (a b : Nat) : (cmpF a b == some .eq) = (cmpF b a == some .eq) := by
  unfold cmpF Format.order
  cases F64.read a with
  | nan s t => cases F64.read b <;> rfl
  | infinity s =>
    cases F64.read b with
    | nan s' t' => rfl
    | infinity s' => cases s <;> cases s' <;> rfl
    | number s' m' i' => cases s <;> rfl
  | number s m i =>
    cases F64.read b with
    | nan s' t' => rfl
    | infinity s' => cases s' <;> rfl
    | number s' m' i' =>
      show (some (compare _ _) == some Ordering.eq) = (some (compare _ _) == some Ordering.eq)
      rw [Bool.eq_iff_iff, beq_iff_eq, beq_iff_eq, Option.some.injEq, Option.some.injEq, int_cmp_eq, int_cmp_eq, Int.min_comm]
      exact ⟨fun h => h.symm, fun h => h.symm⟩
theorem same_swap (a b : Nat) : sameF a b = sameF b a := by
  unfold sameF
  rw [cmp_swap a b, Bool.or_comm, Bool.and_comm (isN a)]
  have : (negF a == negF b) = (negF b == negF a) := by cases negF a <;> cases negF b <;> rfl
  rw [this]
theorem same_self (a : Nat) : sameF a a = true := by
  unfold sameF
  cases h : isN a with
  | true => rfl
  | false => rw [if_neg (by decide), cmp_self h, beq_self_eq_true]; simp
/-- Twice an infinite one. -/
theorem twice_inf {a : Nat} (h : sortF a = 1) (hb : a < 18446744073709551616) : F64.add a a = some a := by
  unfold sortF at h
  unfold Format.add
  have hr := read_cls a
  rcases hr with ⟨t, q⟩ | q | ⟨m, i, q, _⟩
  · rw [q] at h; cases h
  · rw [q]
    show (if sgn a = sgn a then some (Datum.infinity (sgn a)) else none).map F64.write = _
    rw [if_pos rfl]
    show some (F64.word (sgn a) F64.infRung) = some a
    have hr : a % 9223372036854775808 = 9218868437227405312 := by
      unfold Format.read at q
      rw [lp, sw, bn, ir] at q
      dsimp only at q
      by_cases c1 : a % 9223372036854775808 < 4503599627370496
      · rw [if_pos c1] at q; cases q
      rw [if_neg c1] at q
      by_cases c2 : a % 9223372036854775808 < 9218868437227405312
      · rw [if_pos c2] at q; cases q
      rw [if_neg c2] at q
      by_cases c3 : a % 9223372036854775808 = 9218868437227405312
      · exact c3
      · rw [if_neg c3] at q; cases q
    congr 1
    unfold Format.word sgn
    rw [sw, ir]
    have h2 : a / 9223372036854775808 < 2 := by omega
    rcases Nat.mod_two_eq_zero_or_one (a / 9223372036854775808) with e | e
    · rw [e]; show (9218868437227405312 : Nat) = a; omega
    · rw [e]; show (9223372036854775808 + 9218868437227405312 : Nat) = a; omega
  · rw [q] at h
    have h' : (if m = 0 then (2 : Int) else 3) = 1 := h
    split at h' <;> omega
end Go.Proofs.YtchbmihhkjpkaaaDoor.M
