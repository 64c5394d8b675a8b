/-
  The scanner's functions as the laws' texts call them: what they compute, and that they do.
-/
import Derived.Test.YtchbmihhkjpkaaaDoorG2
namespace Go.Proofs.YtchbmihhkjpkaaaDoor.G
open Go.RowKit Go.Proofs.YtchbmihhkjpkaaaDoorW.PrintWords Go.Proofs.YtchbmihhkjpkaaaDoor.M
set_option linter.unusedVariables false
set_option linter.unusedSimpArgs false

/-- Where a name ends, from a place on. -/
def nameEnd (s : ByteArray) (i : Int) : Int := if 0 ≤ i ∧ i ≤ s.size then i + name (at_ s i) else i

def scan_Digits.f (s : ByteArray) (i : Int) : Option Int := if s.size ≤ 1000000 then some (upto isDig s i) else none
def scan_Name.f (s : ByteArray) (i : Int) : Option Int := if s.size ≤ 1000000 then some (nameEnd s i) else none
theorem small_of {α : Type} {s : ByteArray} {x : α} {r : α} (h : (if s.size ≤ 1000000 then some x else none) = some r) : s.size ≤ 1000000 ∧ x = r := by
  by_cases hs : s.size ≤ 1000000
  · rw [if_pos hs] at h; exact ⟨hs, Option.some.inj h⟩
  · rw [if_neg hs] at h; cases h

set_option maxHeartbeats 400000 in
theorem digits_any (s : ByteArray) (i : Int) (w : World) (hs : s.size ≤ 140737488351232) :
    Calls Tryd.prog 22 #[.string s, .int .i64 i] w fun e w' => e = .returned (.int .i64 (upto isDig s i)) ∧ Below w.heap.size w w' := by
  have hC := fun (W : World) => upto_any 39 (enters_of Tryd.func39 (by kernel_rfl) rfl) isDig says_digit low_dig s i W hs
  go_enter Tryd.func22, Tryd.ntmps22
  go_wp2_with (go_at_call 38; refine (hC _).mono ?_; rintro e w' ⟨rfl, hb⟩)
  go_ret
  exact ⟨rfl, hb⟩

theorem scan_Digits.calls (a0 : ByteArray) (a1 : Int) (r : Int) (w : World) (h : scan_Digits.f a0 a1 = some r) :
    Calls Tryd.prog 22 #[.string a0, .int .i64 a1] w fun e w' => e = .returned (.int .i64 r) ∧ Below w.heap.size w w' := by
  obtain ⟨hs, rfl⟩ := small_of h
  exact digits_any a0 a1 w (by omega)
end Go.Proofs.YtchbmihhkjpkaaaDoor.G
