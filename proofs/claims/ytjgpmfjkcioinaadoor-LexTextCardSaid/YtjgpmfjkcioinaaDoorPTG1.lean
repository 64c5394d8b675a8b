/-
  The scanner's walks: what the program's functions on names, digits and blanks compute.
-/
import Derived.Test.YtjgpmfjkcioinaaDoorPTK1
namespace Go.Proofs.YtjgpmfjkcioinaaDoor.G
open Go.RowKit Go.Proofs.YtjgpmfjkcioinaaDoorW.PrintWords Go.Proofs.YtjgpmfjkcioinaaDoor.M
set_option linter.unusedVariables false
set_option linter.unusedSimpArgs false
theorem letter_any (c : Int) (w : World) (h0 : 0 ≤ c) (h1 : c ≤ 255) :
    Calls Tryd.prog 55 #[.int .u8 c] w fun e w' => e = .returned (.bool (isLet c)) ∧ w = w' := by
  have ho := or32 c h0 h1
  obtain ⟨x, hx⟩ : ∃ x, Go.bits .or .u8 c 32 = x := ⟨_, rfl⟩
  have hl : isLet c = decide (97 ≤ x ∧ x ≤ 122 ∨ c = 95) := by
    unfold isLet
    rw [hx] at ho
    apply decide_eq_decide.2
    omega
  clear ho
  by_cases h2 : 97 ≤ Go.bits .or .u8 c 32
  · have h2b : decide (97 ≤ Go.bits .or .u8 c 32) = true := decide_eq_true h2
    by_cases h3 : Go.bits .or .u8 c 32 ≤ 122
    · have h3b : decide (Go.bits .or .u8 c 32 ≤ 122) = true := decide_eq_true h3
      have HL := Lib.hid hl; clear hl
      have hT : isLet c = true := by rw [HL.out]; subst hx; exact decide_eq_true (.inl ⟨h2, h3⟩)
      have HT := Lib.hid hT; clear hT hx h2 h3
      go_enter Tryd.func55, Tryd.ntmps55
      go_wp2
      go_ret
      exact ⟨ret_bool HT.out.symm, rfl⟩
    · have h3b : decide (Go.bits .or .u8 c 32 ≤ 122) = false := decide_eq_false h3
      have HL := Lib.hid hl; clear hl
      have hT : isLet c = (c == 95) := by
        rw [HL.out]; subst hx
        rw [show (c == 95) = decide (c = 95) from rfl]; apply decide_eq_decide.2; omega
      have HT := Lib.hid hT; clear hT hx h2 h3
      go_enter Tryd.func55, Tryd.ntmps55
      go_wp2
      go_ret
      exact ⟨ret_bool HT.out.symm, rfl⟩
  · have h2b : decide (97 ≤ Go.bits .or .u8 c 32) = false := decide_eq_false h2
    have HL := Lib.hid hl; clear hl
    have hT : isLet c = (c == 95) := by
      rw [HL.out]; subst hx
      rw [show (c == 95) = decide (c = 95) from rfl]; apply decide_eq_decide.2; omega
    have HT := Lib.hid hT; clear hT hx h2
    go_enter Tryd.func55, Tryd.ntmps55
    go_wp2
    go_ret
    exact ⟨ret_bool HT.out.symm, rfl⟩
theorem digit_any (c : Int) (w : World) :
    Calls Tryd.prog 58 #[.int .u8 c] w fun e w' => e = .returned (.bool (isDig c)) ∧ w = w' := by
  by_cases h0 : 48 ≤ c
  · have hT : isDig c = decide (c ≤ 57) := by unfold isDig; apply decide_eq_decide.2; omega
    have HT := Lib.hid hT; clear hT
    go_enter Tryd.func58, Tryd.ntmps58
    go_wp2
    go_ret
    exact ⟨ret_bool HT.out.symm, rfl⟩
  · have hT : isDig c = false := by unfold isDig; apply decide_eq_false; omega
    have HT := Lib.hid hT; clear hT
    go_enter Tryd.func58, Tryd.ntmps58
    go_wp2
    go_ret
    exact ⟨ret_bool HT.out.symm, rfl⟩
theorem word_any (c : Int) (w : World) (h0 : 0 ≤ c) (h1 : c ≤ 255) :
    Calls Tryd.prog 57 #[.int .u8 c] w fun e w' => e = .returned (.bool (isWord c)) ∧ w = w' := by
  unfold isWord
  by_cases hl : isLet c = true
  · go_enter Tryd.func57, Tryd.ntmps57
    go_wp2_with (first
      | (go_at_call 55; refine (letter_any _ _ (by omega) (by omega)).mono ?_; rintro e w' ⟨rfl, rfl⟩)
      | (go_at_call 58; refine (digit_any _ _).mono ?_; rintro e w' ⟨rfl, rfl⟩))
    go_ret
    exact ⟨ret_bool (by simp [hl]), rfl⟩
  · rw [Bool.not_eq_true] at hl
    go_enter Tryd.func57, Tryd.ntmps57
    go_wp2_with (first
      | (go_at_call 55; refine (letter_any _ _ (by omega) (by omega)).mono ?_; rintro e w' ⟨rfl, rfl⟩)
      | (go_at_call 58; refine (digit_any _ _).mono ?_; rintro e w' ⟨rfl, rfl⟩))
    go_ret
    exact ⟨ret_bool (by simp [hl]), rfl⟩
end Go.Proofs.YtjgpmfjkcioinaaDoor.G
