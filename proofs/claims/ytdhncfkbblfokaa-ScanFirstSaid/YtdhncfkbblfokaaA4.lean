/-
  The awakening of the scanner's laws.
-/
import Derived.Test.YtdhncfkbblfokaaG8
import Derived.Test.YtdhncfkbblfokaaR4
namespace Go.Proofs.Ytdhncfkbblfokaa.G
open Go.RowKit Go.Proofs.YtdhncfkbblfokaaW.PrintWords Go.Proofs.Ytdhncfkbblfokaa.M
set_option linter.unusedVariables false
set_option linter.unusedSimpArgs false
theorem awake4_st (w W : World) (hb : Below w.heap.size w W) : Calls Try.prog 14 #[] W fun e w' => e = .returned (.bool true) ∧ Below w.heap.size w w' :=
  (Q.copperplatelaw04_awake.calls true W R.awake_true).mono fun e w' ⟨he, h⟩ => ⟨he, hb.trans (h.mono hb.size)⟩
end Go.Proofs.Ytdhncfkbblfokaa.G
