import Derived.Test.YtdhncfkbblfokaaQ2
import Derived.Test.YtdhncfkbblfokaaR4
namespace Go.Proofs.Ytdhncfkbblfokaa.Pure
open Go.RowKit Go.Proofs.Ytdhncfkbblfokaa.Q Go.Proofs.YtdhncfkbblfokaaW.PrintWords Go.Proofs.YtdhncfkbblfokaaW.PrintLast Go.Proofs.Ytdhncfkbblfokaa.M Go.Proofs.Ytdhncfkbblfokaa.G Go.Proofs.Ytdhncfkbblfokaa.R

theorem ScanTells : copperplatelaw04_ScanTells.Pure := by
  intro c s i hc hs hi
  refine ⟨2 * s.size + 10, ?_⟩
  have hc' : 0 ≤ c ∧ c ≤ 255 := bounds_u8 hc
  unfold copperplatelaw04_ScanTells.f
  rw [awake_true]
  simp only [Option.bind_some, if_true]
  rw [show 2 * s.size + 10 = 2 * s.size + 9 + 1 by omega]
  simp only [copperplatelaw04_ScanTells.j0]
  by_cases h : (s.size : Int) > 600
  · rw [if_pos (decide_eq_true h)]
  · rw [if_neg (by simp; omega), begins_ref, begins_f c hc'.1 hc'.2]
    simp only [Option.bind_some, beq_self_eq_true, if_true]
    have e1 : scan_Name.f s i = some (nameEnd s i) := if_pos (by omega)
    have e2 : scan_Digits.f s i = some (upto isDig s i) := if_pos (by omega)
    have e3 : scan_Blank.f s i = some (G.blank s i) := if_pos (by omega)
    rw [e1, e2, e3, name_ref s hs i _ (by omega), digits_ref s hs i _ (by omega), blank_ref s hs i _ (by omega)]
    simp
end Go.Proofs.Ytdhncfkbblfokaa.Pure
