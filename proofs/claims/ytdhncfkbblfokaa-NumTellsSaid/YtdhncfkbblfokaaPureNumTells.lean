import Derived.Test.YtdhncfkbblfokaaQ5
import Derived.Test.YtdhncfkbblfokaaR5
namespace Go.Proofs.Ytdhncfkbblfokaa.Pure
open Go.RowKit Go.Proofs.Ytdhncfkbblfokaa.Q Go.Proofs.YtdhncfkbblfokaaW.PrintWords Go.Proofs.YtdhncfkbblfokaaW.PrintLast Go.Proofs.Ytdhncfkbblfokaa.M Go.Proofs.Ytdhncfkbblfokaa.G Go.Proofs.Ytdhncfkbblfokaa.R

theorem awake5 : copperplatelaw05_awake.f = some true := by kernel_rfl
theorem NumTells : copperplatelaw05_NumTells.Pure := by
  intro s i hs hi
  suffices H : ∀ k, s.size + 310 < k → copperplatelaw05_NumTells.f (k + 1) s i = some true from ⟨_, H (s.size + 311) (by omega)⟩
  intro k hk
  unfold copperplatelaw05_NumTells.f
  rw [awake5]
  simp only [Option.bind_some, if_true, copperplatelaw05_NumTells.j0]
  by_cases h : (s.size : Int) > 600
  · rw [if_pos (decide_eq_true h)]
  · rw [if_neg (by simp; omega)]
    have e1 : num_Number.f s i = some (number s i) := if_pos (by omega)
    rw [e1, number_ref s (by omega) i k hk, whole_ref s (by omega) k hk]
    simp only [Option.bind_some]
    have e2 : num_Number.f s 0 = some (number s 0) := if_pos (by omega)
    obtain ⟨b, hb⟩ : ∃ b, num_Whole.f s = some b := by
      unfold num_Whole.f; rw [e2]; simp only [Option.bind_some]; split <;> exact ⟨_, rfl⟩
    rw [hb]
    simp
end Go.Proofs.Ytdhncfkbblfokaa.Pure
