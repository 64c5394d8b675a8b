/-
  The awakening of the laws on numbers.
-/
import Derived.Test.YtdhncfkbblfokaaG9
import Derived.Test.YtdhncfkbblfokaaQ3
namespace Go.Proofs.Ytdhncfkbblfokaa.G
open Go.RowKit Go.Proofs.YtdhncfkbblfokaaW.PrintWords Go.Proofs.Ytdhncfkbblfokaa.M
set_option linter.unusedVariables false
set_option linter.unusedSimpArgs false
theorem awake5 : Q.copperplatelaw05_awake.f = some true := by kernel_rfl
theorem awake5_st (w W : World) (hb : Below w.heap.size w W) : Calls Try.prog 23 #[] W fun e w' => e = .returned (.bool true) ∧ Below w.heap.size w w' :=
  (Q.copperplatelaw05_awake.calls true W awake5).mono fun e w' ⟨he, h⟩ => ⟨he, hb.trans (h.mono hb.size)⟩
end Go.Proofs.Ytdhncfkbblfokaa.G
