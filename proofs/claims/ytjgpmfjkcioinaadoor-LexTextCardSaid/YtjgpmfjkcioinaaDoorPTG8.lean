/-
  The contracts as a law's walk takes them: over one first world.
-/
import Derived.Test.YtjgpmfjkcioinaaDoorPTG7
namespace Go.Proofs.YtjgpmfjkcioinaaDoor.G
open Go.RowKit Go.Proofs.YtjgpmfjkcioinaaDoorW.PrintWords Go.Proofs.YtjgpmfjkcioinaaDoor.M
set_option linter.unusedVariables false
set_option linter.unusedSimpArgs false
theorem number_st (w W : World) (s : ByteArray) (i : Int) (hs : s.size ≤ 1000000) (hb : Below w.heap.size w W) :
    Calls Tryd.prog 17 #[.string s, .int .i64 i] W fun e w' => e = .returned (.tuple #[.int .i64 (number s i).1, .int .i64 (number s i).2.1, .bool (number s i).2.2]) ∧ Below w.heap.size w w' :=
  (num_Number.calls s i _ _ _ W (if_pos hs)).mono fun e w' ⟨he, h⟩ => ⟨he, hb.trans (h.mono hb.size)⟩
theorem blank_nil (s : ByteArray) : blank s 0 = bl false (by_ s) := by
  unfold blank; rw [if_pos ⟨by omega, by omega⟩, at_zero]; omega
end Go.Proofs.YtjgpmfjkcioinaaDoor.G
