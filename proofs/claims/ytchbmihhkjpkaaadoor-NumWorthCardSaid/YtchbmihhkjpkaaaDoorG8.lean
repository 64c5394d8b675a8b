/-
  The contracts as a law's walk takes them: over one first world.
-/
import Derived.Test.YtchbmihhkjpkaaaDoorG7
namespace Go.Proofs.YtchbmihhkjpkaaaDoor.G
open Go.RowKit Go.Proofs.YtchbmihhkjpkaaaDoorW.PrintWords Go.Proofs.YtchbmihhkjpkaaaDoor.M
set_option linter.unusedVariables false
set_option linter.unusedSimpArgs false

theorem lit_size (l : Array UInt8) : (⟨l⟩ : ByteArray).size = l.size := rfl
theorem dig_st (w W : World) (s : ByteArray) (i : Int) (hs : s.size ≤ 1000000) (hb : Below w.heap.size w W) :
    Calls Tryd.prog 22 #[.string s, .int .i64 i] W fun e w' => e = .returned (.int .i64 (upto isDig s i)) ∧ Below w.heap.size w w' :=
  (digits_any s i W (by omega)).mono fun e w' ⟨he, h⟩ => ⟨he, hb.trans (h.mono hb.size)⟩
theorem begins_st (w W : World) (c : Int) (hc : 0 ≤ c ∧ c ≤ 255) (hb : Below w.heap.size w W) :
    Calls Tryd.prog 37 #[.int .u8 c] W fun e w' => e = .returned (.bool (isLet c)) ∧ Below w.heap.size w w' :=
  (begins_any c W hc.1 hc.2).mono fun e w' ⟨he, h⟩ => ⟨he, h ▸ hb⟩
theorem number_st (w W : World) (s : ByteArray) (i : Int) (hs : s.size ≤ 1000000) (hb : Below w.heap.size w W) :
    Calls Tryd.prog 21 #[.string s, .int .i64 i] W fun e w' => e = .returned (.tuple #[.int .i64 (number s i).1, .int .i64 (number s i).2.1, .bool (number s i).2.2]) ∧ Below w.heap.size w w' :=
  (num_Number.calls s i _ _ _ W (if_pos hs)).mono fun e w' ⟨he, h⟩ => ⟨he, hb.trans (h.mono hb.size)⟩
end Go.Proofs.YtchbmihhkjpkaaaDoor.G
