/-
  What Real answers is a word of 64 bits.
-/
import Derived.Test.YtchbmihhkjpkaaaDoorC3a
namespace Go.Proofs.YtchbmihhkjpkaaaDoor.G
open Go.RowKit Go.Proofs.YtchbmihhkjpkaaaDoorW.PrintWords Go.Proofs.YtchbmihhkjpkaaaDoor.M
set_option linter.unusedVariables false
set_option linter.unusedSimpArgs false

theorem val_lt (l : List Int) (h : rval l ≠ .nan) : valF (rval l) < 9223372036854775808 := by
  cases q : rval l with
  | nan => exact absurd q h
  | zero => show 0 < _; decide
  | inf => show (9218868437227405312 : Nat) < _; decide
  | fin m x =>
    obtain ⟨h1, h2, h3, h4⟩ := rval_fin q
    have hg := dv_good m (fun c hc => (h1 c hc).1)
    rw [valF_fin]
    split
    · obtain ⟨r, e, r1, r2⟩ := div_ok hg.1 (pw_nz (k := (-x).toNat) (by omega))
      rw [e]; exact lt63 (Ieee.Format.div_lt F64 e) (r2.trans hg.2)
    · obtain ⟨r, e, r1, r2⟩ := mul_ok hg.1 (pw_nz (k := x.toNat) (by omega))
      rw [e]; exact lt63 (Ieee.Format.mul_lt F64 e) (r2.trans hg.2)
theorem sgv_lt (l : List Int) (b : Bool) : sgv (rval l) b < 18446744073709551616 := by
  unfold sgv
  by_cases c : rval l = .nan
  · rw [if_pos c]; decide
  · have h := val_lt l c
    rw [if_neg c]
    cases b with
    | true => rw [if_pos rfl, flip_good h]; omega
    | false => rw [if_neg (by decide)]; omega
theorem realF_lt (l : List Int) : realF l < 18446744073709551616 := by
  unfold realF
  split
  · exact sgv_lt _ _
  · exact sgv_lt _ _
end Go.Proofs.YtchbmihhkjpkaaaDoor.G
