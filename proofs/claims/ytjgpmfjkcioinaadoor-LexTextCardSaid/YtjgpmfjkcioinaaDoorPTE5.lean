/-
  'text.Escape': that of what begins with a backslash.
-/
import Derived.Test.YtjgpmfjkcioinaaDoorPTE4
import Derived.OwnWalk
namespace Go.Proofs.YtjgpmfjkcioinaaDoor.G
open Go.RowKit Go.Proofs.YtjgpmfjkcioinaaDoorW.PrintWords Go.Proofs.YtjgpmfjkcioinaaDoor.M
set_option linter.unusedVariables false
set_option linter.unusedSimpArgs false
attribute [local irreducible] Utf8.encode Utf8.decode
def EsT (s : ByteArray) (i : Int) : ByteArray := ba (escAt s i).1
def EsI (s : ByteArray) (i : Int) : Int := i + (escAt s i).2
def EsB (s : ByteArray) (i : Int) : Bool := decide ((escAt s i).2 ≠ 0)
def WB (w : World) (s : ByteArray) (i : Int) : World := (w.alloc (.cells #[.string s] 9)).alloc (.cells #[.int .i64 i] 3)
theorem WB_is (w : World) (s : ByteArray) (i : Int) : (WB w s i).cell? ⟨w.heap.size, 0, none⟩ = some (.string s) ∧ (WB w s i).cell? ⟨w.heap.size + 1, 0, none⟩ = some (.int .i64 i) ∧ Below w.heap.size w (WB w s i) ∧ (WB w s i).heap.size = w.heap.size + 2 := by
  refine ⟨?_, ?_, ?_, ?_⟩
  · unfold WB; go_simp
  · unfold WB; go_simp
  · exact ((Below.refl _ w).alloc (Nat.le_refl _) _).alloc (by simp) _
  · simp [WB]
end Go.Proofs.YtjgpmfjkcioinaaDoor.G
