/-
  The contracts as a law's walk takes them: over one first world.
-/
import Derived.Test.YtjgpmfjkcioinaaDoorG7
namespace Go.Proofs.YtjgpmfjkcioinaaDoor.G
open Go.RowKit Go.Proofs.YtjgpmfjkcioinaaDoorW.PrintWords Go.Proofs.YtjgpmfjkcioinaaDoor.M
set_option linter.unusedVariables false
set_option linter.unusedSimpArgs false

theorem lit_size (l : Array UInt8) : (⟨l⟩ : ByteArray).size = l.size := rfl
theorem blank_st (w W : World) (s : ByteArray) (i : Int) (hs : s.size ≤ 1000000) (hb : Below w.heap.size w W) :
    Calls Tryd.prog 12 #[.string s, .int .i64 i] W fun e w' => e = .returned (.int .i64 (blank s i)) ∧ Below w.heap.size w w' :=
  (blank_any s i W hs).mono fun e w' ⟨he, h⟩ => ⟨he, hb.trans (h.mono hb.size)⟩
theorem dig_st (w W : World) (s : ByteArray) (i : Int) (hs : s.size ≤ 1000000) (hb : Below w.heap.size w W) :
    Calls Tryd.prog 42 #[.string s, .int .i64 i] W fun e w' => e = .returned (.int .i64 (upto isDig s i)) ∧ Below w.heap.size w w' :=
  (digits_any s i W (by omega)).mono fun e w' ⟨he, h⟩ => ⟨he, hb.trans (h.mono hb.size)⟩
theorem name_st (w W : World) (s : ByteArray) (i : Int) (hs : s.size ≤ 1000000) (hb : Below w.heap.size w W) :
    Calls Tryd.prog 31 #[.string s, .int .i64 i] W fun e w' => e = .returned (.int .i64 (nameEnd s i)) ∧ Below w.heap.size w w' :=
  (name_any s i W (by omega)).mono fun e w' ⟨he, h⟩ => ⟨he, hb.trans (h.mono hb.size)⟩
theorem begins_st (w W : World) (c : Int) (hc : 0 ≤ c ∧ c ≤ 255) (hb : Below w.heap.size w W) :
    Calls Tryd.prog 30 #[.int .u8 c] W fun e w' => e = .returned (.bool (isLet c)) ∧ Below w.heap.size w w' :=
  (begins_any c W hc.1 hc.2).mono fun e w' ⟨he, h⟩ => ⟨he, h ▸ hb⟩
theorem number_st (w W : World) (s : ByteArray) (i : Int) (hs : s.size ≤ 1000000) (hb : Below w.heap.size w W) :
    Calls Tryd.prog 17 #[.string s, .int .i64 i] W fun e w' => e = .returned (.tuple #[.int .i64 (number s i).1, .int .i64 (number s i).2.1, .bool (number s i).2.2]) ∧ Below w.heap.size w w' :=
  (num_Number.calls s i _ _ _ W (if_pos hs)).mono fun e w' ⟨he, h⟩ => ⟨he, hb.trans (h.mono hb.size)⟩
theorem blank_le (s : ByteArray) (i : Int) : i ≤ blank s i ∧ (0 ≤ i → i ≤ s.size → blank s i ≤ s.size) := by
  unfold blank
  split
  · rename_i h
    have := bl_le false (at_ s i)
    have := at_length s i h.1 h.2
    omega
  · omega
theorem blank_nil (s : ByteArray) : blank s 0 = bl false (by_ s) := by
  unfold blank; rw [if_pos ⟨by omega, by omega⟩, at_zero]; omega
end Go.Proofs.YtjgpmfjkcioinaaDoor.G
