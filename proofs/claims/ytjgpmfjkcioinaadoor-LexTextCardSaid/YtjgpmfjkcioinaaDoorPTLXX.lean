/-
  lex and quote, as the printed text of LexText calls them: the world holds what both read.
-/
import Derived.Test.YtjgpmfjkcioinaaDoorPTLXQ
import Derived.Test.YtjgpmfjkcioinaaDoorPTZ3
namespace Go.Proofs.YtjgpmfjkcioinaaDoor.G
open Go.RowKit Go.Proofs.YtjgpmfjkcioinaaDoorW.PrintWords Go.Proofs.YtjgpmfjkcioinaaDoor.M
set_option linter.unusedVariables false
set_option linter.unusedSimpArgs false
theorem beq_nil_is (l : List UInt8) : (l == ([] : List UInt8)) = l.isEmpty := by cases l <;> rfl
abbrev lex_OneA.f := lex_One.f
abbrev quote_QuoteA.f := quote_Quote.f
abbrev copperplatelaw09_awakeA.f := copperplatelaw09_awake.f
theorem lex_OneA.calls (a0 : ByteArray) (a1 : Int) (r1 : Int) (r2 : ByteArray) (r3 r4 r5 r6 : Int) (w : World) (h : lex_OneA.f a0 a1 = some (r1, r2, r3, r4, r5, r6)) (hL : LA w) :
    Calls Tryd.prog 13 #[.string a0, .int .i64 a1] w fun e w' => e = .returned (.tuple #[.agg #[.int .i64 r1, .string r2, .int .i64 r3, .int .i64 r4], .int .i64 r5, .int .i64 r6]) ∧ Below w.heap.size w w' := lex_One.calls a0 a1 r1 r2 r3 r4 r5 r6 w h hL.te
theorem quote_QuoteA.calls (a0 : ByteArray) (r1 : ByteArray) (r2 : Bool) (w : World) (h : quote_QuoteA.f a0 = some (r1, r2)) (hL : LA w) :
    Calls Tryd.prog 16 #[.string a0] w fun e w' => e = .returned (.tuple #[.string r1, .bool r2]) ∧ Below w.heap.size w w' := quote_Quote.calls a0 r1 r2 w h hL.lq
theorem copperplatelaw09_awakeA.calls (r : Bool) (w : World) (h : copperplatelaw09_awakeA.f = some r) (hL : LA w) :
    Calls Tryd.prog 10 #[] w fun e w' => e = .returned (.bool r) ∧ Below w.heap.size w w' := copperplatelaw09_awake.calls r w h hL.te
end Go.Proofs.YtjgpmfjkcioinaaDoor.G
