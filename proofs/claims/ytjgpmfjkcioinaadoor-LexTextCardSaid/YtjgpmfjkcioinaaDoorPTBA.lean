/-
  Bytes out of numbers.
-/
import Derived.Test.YtjgpmfjkcioinaaDoorPTK1
namespace Go.Proofs.YtjgpmfjkcioinaaDoor.G
open Go.RowKit Go.Proofs.YtjgpmfjkcioinaaDoorW.PrintWords Go.Proofs.YtjgpmfjkcioinaaDoor.M
set_option linter.unusedVariables false
set_option linter.unusedSimpArgs false
def ba (l : List Int) : ByteArray := ⟨(l.map fun c => c.toNat.toUInt8).toArray⟩
theorem by_ba {l : List Int} (h : ∀ c ∈ l, 0 ≤ c ∧ c ≤ 255) : by_ (ba l) = l := by
  unfold ba
  rw [by_mk, List.map_map]
  conv => rhs; rw [← List.map_id l]
  refine List.map_congr_left fun c hc => ?_
  have := h c hc
  show ((c.toNat.toUInt8).toNat : Int) = c
  rw [UInt8.toNat_ofNat']
  omega
theorem ba_by (s : ByteArray) : ba (by_ s) = s := by
  refine by_inj (by_ba (by_range s))
theorem ba_size (l : List Int) : (ba l).size = l.length := by
  show ((l.map fun c => c.toNat.toUInt8).toArray).size = _
  simp
end Go.Proofs.YtjgpmfjkcioinaaDoor.G
