/-
  Lex's tokens as a row; the example of the laws of layer 9.
-/
import Derived.Test.YtjgpmfjkcioinaaDoorPKLX5
import Derived.Test.YtjgpmfjkcioinaaDoorPKLX6
namespace Go.Proofs.YtjgpmfjkcioinaaDoor.G
open Go.RowKit Go.Proofs.YtjgpmfjkcioinaaDoorW.PrintWords Go.Proofs.YtjgpmfjkcioinaaDoor.M
set_option linter.unusedVariables false
set_option linter.unusedSimpArgs false
theorem RowT.low {W W' : World} {ad : Option Addr} {xs : List TokS} (h : RowT W ad xs) (hb : Below W.heap.size W W') : RowT W' ad xs := fun j x hj => by
  obtain ⟨b, e, h0, h1, h2, h3⟩ := h j x hj
  have f : ∀ {p : Addr} {v : Value}, W.cell? p = some v → W'.cell? p = some v := fun {p v} hp => (hb.cell (p := p) (World.block_lt_of_cell? _ _ hp)).trans hp
  exact ⟨b, e, f h0, f h1, f h2, f h3⟩
end Go.Proofs.YtjgpmfjkcioinaaDoor.G
