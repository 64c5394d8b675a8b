import Derived.Test.YtdhncfkbblfokaaQ3
import Derived.Test.YtdhncfkbblfokaaR4b
namespace Go.Proofs.Ytdhncfkbblfokaa.Pure
open Go.RowKit Go.Proofs.Ytdhncfkbblfokaa.Q Go.Proofs.YtdhncfkbblfokaaW.PrintWords Go.Proofs.YtdhncfkbblfokaaW.PrintLast Go.Proofs.Ytdhncfkbblfokaa.M Go.Proofs.Ytdhncfkbblfokaa.G Go.Proofs.Ytdhncfkbblfokaa.R

set_option maxRecDepth 100000 in
theorem ScanByte_each : ∀ n : Fin 256, copperplatelaw04_ScanByte.f 3 (n.val : Int) = some true := by decide +kernel
theorem ScanByte : copperplatelaw04_ScanByte.Pure := by
  intro c hc
  have hb := bounds_u8 hc
  have h := ScanByte_each ⟨c.toNat, by omega⟩
  rw [show (((⟨c.toNat, by omega⟩ : Fin 256).val : Nat) : Int) = c by simp; omega] at h
  exact ⟨3, h⟩
end Go.Proofs.Ytdhncfkbblfokaa.Pure
