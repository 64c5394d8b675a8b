/-
  'lex.Same': two lists of tokens, by kind and text.
-/
import Derived.Test.YtjgpmfjkcioinaaDoorPKLX1
namespace Go.Proofs.YtjgpmfjkcioinaaDoor.G
open Go.RowKit Go.Proofs.YtjgpmfjkcioinaaDoorW.PrintWords Go.Proofs.YtjgpmfjkcioinaaDoor.M
set_option linter.unusedVariables false
set_option linter.unusedSimpArgs false
structure TokS where
  k : Int
  t : ByteArray
  a : Int
  e : Int
def TokS.v (x : TokS) : Value := .agg #[.int .i64 x.k, .string x.t, .int .i64 x.a, .int .i64 x.e]
def RowT (W : World) (ad : Option Addr) (xs : List TokS) : Prop := ∀ (j : Nat) (x : TokS), xs[j]? = some x → ∃ b, ad = some b ∧ W.cell? (b.add (j * 4)) = some (.int .i64 x.k) ∧ W.cell? ((b.add (j * 4)).add 1) = some (.string x.t) ∧ W.cell? ((b.add (j * 4)).add 2) = some (.int .i64 x.a) ∧ W.cell? ((b.add (j * 4)).add 3) = some (.int .i64 x.e)
theorem RowT.at {W : World} {ad : Option Addr} {xs : List TokS} (h : RowT W ad xs) {W' : World} (hb : Below W.heap.size W W') {j : Nat} {x : TokS} (hj : xs[j]? = some x) :
    ∃ b, ad = some b ∧ W'.cell? (b.add (j * 4)) = some (.int .i64 x.k) ∧ W'.cell? ⟨(b.add (j * 4)).block, (b.add (j * 4)).off + 1, none⟩ = some (.string x.t) ∧ W'.cell? ⟨(b.add (j * 4)).block, (b.add (j * 4)).off + 2, none⟩ = some (.int .i64 x.a) ∧ W'.cell? ⟨(b.add (j * 4)).block, (b.add (j * 4)).off + 3, none⟩ = some (.int .i64 x.e) := by
  obtain ⟨b, e, h0, h1, h2, h3⟩ := h j x hj
  have f : ∀ {p : Addr} {v : Value}, W.cell? p = some v → W'.cell? p = some v := fun {p v} hp => (hb.cell (p := p) (World.block_lt_of_cell? _ _ hp)).trans hp
  exact ⟨b, e, f h0, f h1, f h2, f h3⟩
end Go.Proofs.YtjgpmfjkcioinaaDoor.G
