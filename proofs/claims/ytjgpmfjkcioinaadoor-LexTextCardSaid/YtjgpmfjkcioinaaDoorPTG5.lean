/-
  The scanner's functions as the laws' texts call them: what they compute, and that they do.
-/
import Derived.Test.YtjgpmfjkcioinaaDoorPTG4
namespace Go.Proofs.YtjgpmfjkcioinaaDoor.G
open Go.RowKit Go.Proofs.YtjgpmfjkcioinaaDoorW.PrintWords Go.Proofs.YtjgpmfjkcioinaaDoor.M
set_option linter.unusedVariables false
set_option linter.unusedSimpArgs false
def nameEnd (s : ByteArray) (i : Int) : Int := if 0 ≤ i ∧ i ≤ s.size then i + name (at_ s i) else i
def scan_Digits.f (s : ByteArray) (i : Int) : Option Int := if s.size ≤ 1000000 then some (upto isDig s i) else none
def scan_Name.f (s : ByteArray) (i : Int) : Option Int := if s.size ≤ 1000000 then some (nameEnd s i) else none
def scan_Blank.f (s : ByteArray) (i : Int) : Option Int := if s.size ≤ 1000000 then some (blank s i) else none
theorem small_of {α : Type} {s : ByteArray} {x : α} {r : α} (h : (if s.size ≤ 1000000 then some x else none) = some r) : s.size ≤ 1000000 ∧ x = r := by
  by_cases hs : s.size ≤ 1000000
  · rw [if_pos hs] at h; exact ⟨hs, Option.some.inj h⟩
  · rw [if_neg hs] at h; cases h
set_option maxHeartbeats 400000 in
theorem digits_any (s : ByteArray) (i : Int) (w : World) (hs : s.size ≤ 140737488351232) :
    Calls Tryd.prog 42 #[.string s, .int .i64 i] w fun e w' => e = .returned (.int .i64 (upto isDig s i)) ∧ Below w.heap.size w w' := by
  have hC := fun (W : World) => upto_any 58 (enters_of Tryd.func58 (by kernel_rfl) rfl) isDig says_digit low_dig s i W hs
  go_enter Tryd.func42, Tryd.ntmps42
  go_wp2_with (go_at_call 56; refine (hC _).mono ?_; rintro e w' ⟨rfl, hb⟩)
  go_ret
  exact ⟨rfl, hb⟩
set_option maxHeartbeats 400000 in
theorem name_any (s : ByteArray) (i : Int) (w : World) (hs : s.size ≤ 140737488351232) :
    Calls Tryd.prog 31 #[.string s, .int .i64 i] w fun e w' => e = .returned (.int .i64 (nameEnd s i)) ∧ Below w.heap.size w w' := by
  have hC := fun (W : World) => upto_any 57 (enters_of Tryd.func57 (by kernel_rfl) rfl) isWord says_word low_word s i W hs
  by_cases h0 : 0 ≤ i
  · by_cases h1 : i < s.size
    · obtain ⟨n, rfl⟩ : ∃ n : Nat, i = n := ⟨i.toNat, by omega⟩
      have hbr := bt_range s n
      have hat : ∀ h : n < s.size, (((s[n]'h).toNat : Nat) : Int) = bt s n := fun h => bt_at s n h
      have hhd := at_cons s n (by omega) (by omega)
      obtain ⟨b, hb⟩ : ∃ b, bt s n = b := ⟨_, rfl⟩
      rw [hb] at hbr hhd
      simp only [hb] at hat
      have HD := Lib.hid hhd
      clear hhd hb
      cases hl : isLet b with
      | true =>
        have hT : nameEnd s n = upto isWord s n := by
          unfold nameEnd upto
          rw [if_pos ⟨h0, by omega⟩, if_pos ⟨h0, by omega⟩, HD.out, cnt_yes _ (by simp [isWord, hl])]
          simp [name, hl]
        have HT := Lib.hid hT
        clear hT
        go_enter Tryd.func31, Tryd.ntmps31
        go_wp2_with (first
          | (go_at_call 55; refine (letter_any _ _ (by omega) (by omega)).mono ?_; rintro e w' ⟨rfl, rfl⟩)
          | (go_at_call 56; refine (hC _).mono ?_; rintro e w' ⟨rfl, hb⟩))
        go_ret
        exact ⟨ret_int HT.out.symm, hb⟩
      | false =>
        have hT : nameEnd s n = n := by
          unfold nameEnd
          rw [if_pos ⟨h0, by omega⟩, HD.out]
          simp [name, hl]
        have HT := Lib.hid hT
        clear hT
        go_enter Tryd.func31, Tryd.ntmps31
        go_wp2_with (first
          | (go_at_call 55; refine (letter_any _ _ (by omega) (by omega)).mono ?_; rintro e w' ⟨rfl, rfl⟩)
          | (go_at_call 56; refine (hC _).mono ?_; rintro e w' ⟨rfl, hb⟩))
        go_ret
        exact ⟨ret_int HT.out.symm, Below.refl _ _⟩
    · have hT : nameEnd s i = i := by
        unfold nameEnd
        split
        · rw [at_nil s i (by omega)]; simp [name]
        · rfl
      have HT := Lib.hid hT
      clear hT hC
      go_enter Tryd.func31, Tryd.ntmps31
      go_wp2
      go_ret
      exact ⟨ret_int HT.out.symm, Below.refl _ _⟩
  · have hT : nameEnd s i = i := by unfold nameEnd; rw [if_neg (by omega)]
    have HT := Lib.hid hT
    clear hT hC
    go_enter Tryd.func31, Tryd.ntmps31
    go_wp2
    go_ret
    exact ⟨ret_int HT.out.symm, Below.refl _ _⟩
theorem scan_Digits.calls (a0 : ByteArray) (a1 : Int) (r : Int) (w : World) (h : scan_Digits.f a0 a1 = some r) :
    Calls Tryd.prog 42 #[.string a0, .int .i64 a1] w fun e w' => e = .returned (.int .i64 r) ∧ Below w.heap.size w w' := by
  obtain ⟨hs, rfl⟩ := small_of h
  exact digits_any a0 a1 w (by omega)
theorem scan_Name.calls (a0 : ByteArray) (a1 : Int) (r : Int) (w : World) (h : scan_Name.f a0 a1 = some r) :
    Calls Tryd.prog 31 #[.string a0, .int .i64 a1] w fun e w' => e = .returned (.int .i64 r) ∧ Below w.heap.size w w' := by
  obtain ⟨hs, rfl⟩ := small_of h
  exact name_any a0 a1 w (by omega)
theorem scan_Blank.calls (a0 : ByteArray) (a1 : Int) (r : Int) (w : World) (h : scan_Blank.f a0 a1 = some r) :
    Calls Tryd.prog 12 #[.string a0, .int .i64 a1] w fun e w' => e = .returned (.int .i64 r) ∧ Below w.heap.size w w' := by
  obtain ⟨hs, rfl⟩ := small_of h
  exact blank_any a0 a1 w hs
end Go.Proofs.YtjgpmfjkcioinaaDoor.G
