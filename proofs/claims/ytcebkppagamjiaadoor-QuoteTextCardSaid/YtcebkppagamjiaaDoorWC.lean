/-
  text and quote, as the laws' texts call them where the world holds what both read.
-/
import Derived.Test.YtcebkppagamjiaaDoorWB
namespace Go.Proofs.YtcebkppagamjiaaDoor.G
open Go.RowKit Go.Shelf Go.Proofs.YtcebkppagamjiaaDoorW.PrintWords Go.Proofs.YtcebkppagamjiaaDoor.M
set_option linter.unusedVariables false
set_option linter.unusedSimpArgs false

abbrev quote_QuoteA.f := quote_Quote.f
theorem quote_QuoteA.calls (a0 : ByteArray) (r1 : ByteArray) (r2 : Bool) (w : World) (h : quote_QuoteA.f a0 = some (r1, r2)) (hL : LA w) :
    Calls Tryd.prog 26 #[.string a0] w fun e w' => e = .returned (.tuple #[.string r1, .bool r2]) ∧ Below w.heap.size w w' := quote_Quote.calls a0 r1 r2 w h hL.lq
abbrev quote_MayA.f := quote_May.f
theorem quote_MayA.calls (a0 : ByteArray) (r : Bool) (w : World) (h : quote_MayA.f a0 = some r) (hL : LA w) :
    Calls Tryd.prog 29 #[.string a0] w fun e w' => e = .returned (.bool r) ∧ Below w.heap.size w w' := quote_May.calls a0 r w h hL.lq
abbrev quote_LongA.f := quote_Long.f
theorem quote_LongA.calls (a0 : ByteArray) (r : Int) (w : World) (h : quote_LongA.f a0 = some r) (hL : LA w) :
    Calls Tryd.prog 30 #[.string a0] w fun e w' => e = .returned (.int .i64 r) ∧ Below w.heap.size w w' := quote_Long.calls a0 r w h hL.lq
abbrev text_StringA.f := text_String.f
theorem text_StringA.calls (a0 : ByteArray) (a1 : Int) (r1 : ByteArray) (r2 : Int) (r3 : Bool) (w : World) (h : text_StringA.f a0 a1 = some (r1, r2, r3)) (hL : LA w) :
    Calls Tryd.prog 17 #[.string a0, .int .i64 a1] w fun e w' => e = .returned (.tuple #[.string r1, .int .i64 r2, .bool r3]) ∧ Below w.heap.size w w' := text_String.calls a0 a1 r1 r2 r3 w h hL.te
end Go.Proofs.YtcebkppagamjiaaDoor.G
