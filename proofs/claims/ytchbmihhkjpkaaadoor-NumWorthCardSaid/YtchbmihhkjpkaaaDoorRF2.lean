/-
  Floats of 64 bits: what is written is a number or infinite; products, sums and quotients that are valid. Plain Lean.
-/
import Derived.Test.YtchbmihhkjpkaaaDoorRF1
namespace Go.Proofs.YtchbmihhkjpkaaaDoor.M
open Ieee
set_option linter.unusedVariables false
set_option linter.unusedSimpArgs false

theorem sgn_word (s : Bool) {r : Nat} (h : r < 9223372036854775808) : sgn (F64.word s r) = s := by
  unfold Format.word sgn
  rw [sw]
  cases s with
  | true => rw [if_pos rfl, show (9223372036854775808 + r) / 9223372036854775808 % 2 = 1 by omega]; rfl
  | false => rw [if_neg (by decide), show r / 9223372036854775808 % 2 = 0 by omega]; rfl
theorem isN_word (s : Bool) {r : Nat} (h : r ≤ 9218868437227405312) : isN (F64.word s r) = false := by
  have hm : F64.word s r % 9223372036854775808 = r := by
    unfold Format.word
    rw [sw]
    cases s with
    | true => rw [if_pos rfl]; omega
    | false => rw [if_neg (by decide)]; omega
  unfold isN Format.read
  rw [lp, sw, bn, ir]
  dsimp only
  rw [hm]
  by_cases c1 : r < 4503599627370496
  · rw [if_pos c1]; rfl
  rw [if_neg c1]
  by_cases c2 : r < 9218868437227405312
  · rw [if_pos c2]; rfl
  rw [if_neg c2, if_pos (by omega)]; rfl
theorem write_ok (d : Datum) (h : d.isNaN = false) : isN (F64.write d) = false ∧ sgn (F64.write d) = d.neg := by
  cases d with
  | nan s t => cases h
  | infinity s =>
    show isN (F64.word s F64.infRung) = false ∧ sgn (F64.word s F64.infRung) = s
    rw [ir]
    exact ⟨isN_word s (Nat.le_refl _), sgn_word s (by decide)⟩
  | number s m i =>
    show isN (F64.nearest s m i) = false ∧ sgn (F64.nearest s m i) = s
    unfold Format.nearest
    by_cases c : m = 0
    · rw [if_pos c]; exact ⟨isN_word s (Nat.zero_le _), sgn_word s (by decide)⟩
    · rw [if_neg c]
      dsimp only
      rw [ir]
      have hb := Nat.min_le_right ((max (i + ↑m.log2 - ↑F64.fractionBits) F64.leastPlace - F64.leastPlace).toNat * F64.binade + Toward.even.cut s (m <<< (i - max (i + ↑m.log2 - ↑F64.fractionBits) F64.leastPlace).toNat) (max (i + ↑m.log2 - ↑F64.fractionBits) F64.leastPlace - i).toNat) 9218868437227405312
      exact ⟨isN_word s hb, sgn_word s (by omega)⟩
/-- A number that is no zero. -/
def NumNZ (b : Nat) : Prop := ∃ m i, F64.read b = .number false m i ∧ m ≠ 0
theorem mul_ok {a b : Nat} (ha : isN a = false) (hb : NumNZ b) : ∃ r, F64.mul a b = some r ∧ isN r = false ∧ sgn r = sgn a := by
  obtain ⟨n, j, hb, hn⟩ := hb
  unfold Format.mul
  rw [hb]
  rcases read_cls a with ⟨t, q⟩ | q | ⟨m, i, q, _⟩
  · unfold isN at ha; rw [q] at ha; cases ha
  · rw [q]
    have e : Datum.product (.infinity (sgn a)) (.number false n j) = some (.infinity (sgn a ^^ false)) := if_neg hn
    rw [e, Bool.xor_false]
    exact ⟨_, rfl, write_ok _ rfl⟩
  · rw [q]
    have e : Datum.product (.number (sgn a) m i) (.number false n j) = some (.number (sgn a ^^ false) (m * n) (i + j)) := rfl
    rw [e, Bool.xor_false]
    exact ⟨_, rfl, write_ok _ rfl⟩
theorem mul_ok' {a b : Nat} (ha : NumNZ a) (hb : isN b = false) : ∃ r, F64.mul a b = some r ∧ isN r = false ∧ sgn r = sgn b := by
  obtain ⟨n, j, ha, hn⟩ := ha
  unfold Format.mul
  rw [ha]
  rcases read_cls b with ⟨t, q⟩ | q | ⟨m, i, q, _⟩
  · unfold isN at hb; rw [q] at hb; cases hb
  · rw [q]
    have e : Datum.product (.number false n j) (.infinity (sgn b)) = some (.infinity (sgn b ^^ false)) := if_neg hn
    rw [e, Bool.xor_false]
    exact ⟨_, rfl, write_ok _ rfl⟩
  · rw [q]
    have e : Datum.product (.number false n j) (.number (sgn b) m i) = some (.number (false ^^ sgn b) (n * m) (j + i)) := rfl
    rw [e, Bool.false_xor]
    exact ⟨_, rfl, write_ok _ rfl⟩
theorem div_ok {a b : Nat} (ha : isN a = false) (hb : NumNZ b) : ∃ r, F64.div a b = some r ∧ isN r = false ∧ sgn r = sgn a := by
  obtain ⟨n, j, hb, hn⟩ := hb
  unfold Format.div
  rw [hb]
  rcases read_cls a with ⟨t, q⟩ | q | ⟨m, i, q, _⟩
  · unfold isN at ha; rw [q] at ha; cases ha
  · rw [q]
    have e : Datum.quotient (F64.fractionBits + 2) (.infinity (sgn a)) (.number false n j) = some (.infinity (sgn a ^^ false)) := rfl
    rw [e, Bool.xor_false]
    exact ⟨_, rfl, write_ok _ rfl⟩
  · rw [q]
    obtain ⟨x, y, e⟩ : ∃ x y, Datum.quotient (F64.fractionBits + 2) (.number (sgn a) m i) (.number false n j) = some (.number (sgn a ^^ false) x y) := ⟨_, _, if_neg hn⟩
    rw [e, Bool.xor_false]
    exact ⟨_, rfl, write_ok _ rfl⟩
theorem add_ok {a b : Nat} (ha : isN a = false) (hb : isN b = false) (sa : sgn a = false) (sb : sgn b = false) : ∃ r, F64.add a b = some r ∧ isN r = false ∧ sgn r = false := by
  unfold Format.add
  rcases read_cls a with ⟨t, q⟩ | q | ⟨m, i, q, _⟩
  · unfold isN at ha; rw [q] at ha; cases ha
  · rcases read_cls b with ⟨t', q'⟩ | q' | ⟨m', i', q', _⟩
    · unfold isN at hb; rw [q'] at hb; cases hb
    · rw [q, q', sa, sb]; exact ⟨_, rfl, write_ok (.infinity false) rfl⟩
    · rw [q, q', sa]; exact ⟨_, rfl, write_ok (.infinity false) rfl⟩
  · rcases read_cls b with ⟨t', q'⟩ | q' | ⟨m', i', q', _⟩
    · unfold isN at hb; rw [q'] at hb; cases hb
    · rw [q, q', sb]; exact ⟨_, rfl, write_ok (.infinity false) rfl⟩
    · rw [q, q', sa, sb]
      obtain ⟨T, hT⟩ : ∃ T, Ieee.signed false m (i - min i i').toNat + Ieee.signed false m' (i' - min i i').toNat = T := ⟨_, rfl⟩
      have h1 : (0 : Int) ≤ Ieee.signed false m (i - min i i').toNat := Int.natCast_nonneg _
      have h2 : (0 : Int) ≤ Ieee.signed false m' (i' - min i i').toNat := Int.natCast_nonneg _
      have e : Datum.sum (.number false m i) (.number false m' i') = some (.number false T.natAbs (min i i')) := by
        show some (Datum.number (if Ieee.signed false m (i - min i i').toNat + Ieee.signed false m' (i' - min i i').toNat = 0 then (false && false) else decide (Ieee.signed false m (i - min i i').toNat + Ieee.signed false m' (i' - min i i').toNat < 0)) (Ieee.signed false m (i - min i i').toNat + Ieee.signed false m' (i' - min i i').toNat).natAbs (min i i')) = _
        rw [hT]
        congr 2
        split
        · rfl
        · exact decide_eq_false (by omega)
      rw [e]
      exact ⟨_, rfl, write_ok _ rfl⟩
end Go.Proofs.YtchbmihhkjpkaaaDoor.M
