/-
  'text.escape': what begins with a backslash: each way through it.
-/
import Derived.Test.YtjgpmfjkcioinaaDoorPTE1
import Derived.OneCell
import Derived.Recover
import Derived.WalkLawsBesides
namespace Go.Proofs.YtjgpmfjkcioinaaDoor.G
open Go.RowKit Go.Proofs.YtjgpmfjkcioinaaDoorW.PrintWords Go.Proofs.YtjgpmfjkcioinaaDoor.M
set_option linter.unusedVariables false
set_option linter.unusedSimpArgs false
attribute [local irreducible] Utf8.encode Utf8.decode
def hasB (s : ByteArray) (i c : Int) : Bool := decide (0 ≤ i ∧ i < s.size ∧ bt s i = c)
set_option maxHeartbeats 400000 in
theorem has_any (s : ByteArray) (i c : Int) (w : World) :
    Calls Tryd.prog 68 #[.string s, .int .i64 i, .int .u8 c] w fun e w' => e = .returned (.bool (hasB s i c)) ∧ w' = w := by
  by_cases h0 : 0 ≤ i
  · by_cases h1 : i < s.size
    · obtain ⟨n, rfl⟩ : ∃ n : Nat, i = n := ⟨i.toNat, by omega⟩
      have hat : ∀ h : n < s.size, (((s[n]'h).toNat : Nat) : Int) = bt s n := fun h => bt_at s n h
      have hH : hasB s n c = (bt s n == c) := by
        unfold hasB; rw [Bool.eq_iff_iff, decide_eq_true_eq, beq_iff_eq]; omega
      obtain ⟨b, hb⟩ : ∃ b, bt s n = b := ⟨_, rfl⟩
      rw [hb] at hH
      simp only [hb] at hat
      rw [hH]
      clear hH hb
      go_enter Tryd.func68, Tryd.ntmps68
      go_wp2
      go_ret
      exact ⟨rfl, rfl⟩
    · have hH : hasB s i c = false := by unfold hasB; exact decide_eq_false (by omega)
      rw [hH]
      clear hH
      go_enter Tryd.func68, Tryd.ntmps68
      go_wp2
      go_ret
      exact ⟨rfl, rfl⟩
  · have hH : hasB s i c = false := by unfold hasB; exact decide_eq_false (by omega)
    rw [hH]
    clear hH
    go_enter Tryd.func68, Tryd.ntmps68
    go_wp2
    go_ret
    exact ⟨rfl, rfl⟩
def Wrong (i : Int) : Ending := .panicked [{ v := .iface 94 (.int .i64 i), recovered := false }]
set_option maxHeartbeats 400000 in
theorem must_yes (p : Value) (w : World) :
    Calls Tryd.prog 87 #[.bool true, p] w fun e w' => e = .returned (.tuple #[]) ∧ w' = w := by
  go_enter Tryd.func87, Tryd.ntmps87
  go_wp2
  go_end0
  exact ⟨rfl, rfl⟩
set_option maxHeartbeats 400000 in
theorem must_no (B : Nat) (i : Int) (w : World) (hc : w.cell? ⟨B, 0, none⟩ = some (.int .i64 i)) :
    Calls Tryd.prog 87 #[.bool false, .pointer (some ⟨B, 0, none⟩)] w fun e w' => e = .panicked [{ v := .iface 94 (.int .i64 i), recovered := false }] ∧ w' = w := by
  go_enter Tryd.func87, Tryd.ntmps87
  go_wp2
  exact ⟨rfl, rfl, rfl⟩
def shIdx (c : Int) : Int := Lib.indexByte [34, 92, 47, 98, 102, 110, 114, 116] c.toNat.toUInt8
theorem sh_byte (c : Int) (W : World) :
    Calls Tryd.prog 25 #[.string ⟨#[34, 92, 47, 98, 102, 110, 114, 116]⟩, .int .u8 c] W fun e w' => e = .returned (.int .i64 (shIdx c)) ∧ w' = W :=
  Tryd.strings_IndexByte ⟨#[34, 92, 47, 98, 102, 110, 114, 116]⟩ c W
theorem sh_short (c : Int) (h0 : 0 ≤ c) (h1 : c ≤ 255) : (shIdx c = -1 ∧ short c = -1) ∨ ∃ k : Nat, k < 8 ∧ shIdx c = k ∧ 0 ≤ short c ∧ by_ ((⟨#[34, 92, 47, 8, 12, 10, 13, 9]⟩ : ByteArray).extract k (k + 1)) = [short c] := by
  have key : ∀ n : Fin 256, (shIdx (n.val : Int) = -1 ∧ short (n.val : Int) = -1) ∨ ∃ k : Fin 8, shIdx (n.val : Int) = (k.val : Int) ∧ 0 ≤ short (n.val : Int) ∧ by_ ((⟨#[34, 92, 47, 8, 12, 10, 13, 9]⟩ : ByteArray).extract k.val (k.val + 1)) = [short (n.val : Int)] := by decide +kernel
  obtain ⟨n, rfl⟩ : ∃ n : Nat, c = n := ⟨c.toNat, by omega⟩
  rcases key ⟨n, by omega⟩ with h | ⟨k, h⟩
  · exact .inl h
  · exact .inr ⟨k.val, k.isLt, h⟩
set_option maxHeartbeats 2000000 in
set_option maxRecDepth 100000 in
theorem esc_f1a (s : ByteArray) (i : Int) (w : World) (hs : s.size ≤ 1000000) (hT : TE w) (hH : hasB s i 92 = false) :
    Calls Tryd.prog 69 #[.string s, .int .i64 i] w fun e w' => e = Wrong i ∧ Below w.heap.size w w' := by
  have hb0 : Below w.heap.size w (w.alloc (.cells #[.int .i64 i] 3)) := (Below.refl _ w).alloc (Nat.le_refl _) _
  have hc0 : (w.alloc (.cells #[.int .i64 i] 3)).cell? ⟨w.heap.size, 0, none⟩ = some (.int .i64 i) := by simp
  go_enter Tryd.func69, Tryd.ntmps69
  go_wp2_with (first
    | (go_at_call 68; refine (has_any _ _ _ _).mono ?_; rintro e w' ⟨rfl, rfl⟩)
    | (go_at_call 87; with_reducible refine (must_yes _ _).mono ?_; rintro e w' ⟨rfl, rfl⟩)
    | (go_at_call 25; refine (sh_byte _ _).mono ?_; rintro e w' ⟨rfl, rfl⟩))
  refine (must_no w.heap.size i _ hc0).mono ?_
  rintro e w' ⟨rfl, rfl⟩
  exact ⟨rfl, rfl, hb0⟩
set_option maxHeartbeats 2000000 in
set_option maxRecDepth 100000 in
theorem esc_f1b (s : ByteArray) (n : Nat) (w : World) (hs : s.size ≤ 1000000) (hT : TE w) (hH : hasB s n 92 = true) (hn : n < s.size) (h1 : ¬ n + 1 < s.size) :
    Calls Tryd.prog 69 #[.string s, .int .i64 n] w fun e w' => e = Wrong n ∧ Below w.heap.size w w' := by
  have hb0 : Below w.heap.size w (w.alloc (.cells #[.int .i64 n] 3)) := (Below.refl _ w).alloc (Nat.le_refl _) _
  have hc0 : (w.alloc (.cells #[.int .i64 n] 3)).cell? ⟨w.heap.size, 0, none⟩ = some (.int .i64 n) := by simp
  have hd1 : decide ((n : Int) + 1 < (s.size : Int)) = false := decide_eq_false (by omega)
  go_enter Tryd.func69, Tryd.ntmps69
  go_wp2_with (first
    | (go_at_call 68; refine (has_any _ _ _ _).mono ?_; rintro e w' ⟨rfl, rfl⟩)
    | (go_at_call 87; with_reducible refine (must_yes _ _).mono ?_; rintro e w' ⟨rfl, rfl⟩)
    | (go_at_call 25; refine (sh_byte _ _).mono ?_; rintro e w' ⟨rfl, rfl⟩))
  refine (must_no w.heap.size n _ hc0).mono ?_
  rintro e w' ⟨rfl, rfl⟩
  exact ⟨rfl, rfl, hb0⟩
set_option maxHeartbeats 2000000 in
set_option maxRecDepth 100000 in
theorem esc_s1 (s : ByteArray) (n K : Nat) (b : Int) (w : World) (hs : s.size ≤ 1000000) (hT : TE w) (hH : hasB s n 92 = true) (h1 : n + 1 < s.size) (hat : ∀ h : n + 1 < s.size, (((s[n + 1]'h).toNat : Nat) : Int) = b) (hK : shIdx b = (K : Int)) (hK8 : K < 8) :
    Calls Tryd.prog 69 #[.string s, .int .i64 n] w fun e w' => e = .returned (.tuple #[.string ((⟨#[34, 92, 47, 8, 12, 10, 13, 9]⟩ : ByteArray).extract K (K + 1)), .int .i64 (n + 2)]) ∧ Below w.heap.size w w' := by
  have hb0 : Below w.heap.size w (w.alloc (.cells #[.int .i64 n] 3)) := (Below.refl _ w).alloc (Nat.le_refl _) _
  have hc0 : (w.alloc (.cells #[.int .i64 n] 3)).cell? ⟨w.heap.size, 0, none⟩ = some (.int .i64 n) := by simp
  have hd1 : decide ((n : Int) + 1 < (s.size : Int)) = true := decide_eq_true (by omega)
  go_enter Tryd.func69, Tryd.ntmps69
  go_wp2_with (first
    | (go_at_call 68; refine (has_any _ _ _ _).mono ?_; rintro e w' ⟨rfl, rfl⟩)
    | (go_at_call 87; with_reducible refine (must_yes _ _).mono ?_; rintro e w' ⟨rfl, rfl⟩)
    | (go_at_call 25; refine (sh_byte _ _).mono ?_; rintro e w' ⟨rfl, rfl⟩))
  go_quiet (fail)
  go_wp2
  go_ret2
  exact ⟨rfl, below_drawn hb0 _⟩
set_option maxHeartbeats 2000000 in
set_option maxRecDepth 100000 in
theorem esc_f2a (s : ByteArray) (n : Nat) (b N : Int) (ok : Bool) (w : World) (hs : s.size ≤ 1000000) (hT : TE w) (hH : hasB s n 92 = true) (h1 : n + 1 < s.size) (hat : ∀ h : n + 1 < s.size, (((s[n + 1]'h).toNat : Nat) : Int) = b) (hK : shIdx b = -1) (hN : hexN s (n + 2) = N) (hO : hexOk s (n + 2) = ok) (hU : hasB s (n + 1) 117 = false) :
    Calls Tryd.prog 69 #[.string s, .int .i64 n] w fun e w' => e = Wrong n ∧ Below w.heap.size w w' := by
  have hb0 : Below w.heap.size w (w.alloc (.cells #[.int .i64 n] 3)) := (Below.refl _ w).alloc (Nat.le_refl _) _
  have hc0 : (w.alloc (.cells #[.int .i64 n] 3)).cell? ⟨w.heap.size, 0, none⟩ = some (.int .i64 n) := by simp
  have hd1 : decide ((n : Int) + 1 < (s.size : Int)) = true := decide_eq_true (by omega)
  go_enter Tryd.func69, Tryd.ntmps69
  go_wp2_with (first
    | (go_at_call 68; refine (has_any _ _ _ _).mono ?_; rintro e w' ⟨rfl, rfl⟩)
    | (go_at_call 87; with_reducible refine (must_yes _ _).mono ?_; rintro e w' ⟨rfl, rfl⟩)
    | (go_at_call 25; refine (sh_byte _ _).mono ?_; rintro e w' ⟨rfl, rfl⟩)
    | (go_at_call 88; refine (hex_any _ _ _ (by omega) (hT.low (by assumption))).mono ?_; rintro e wx ⟨rfl, hbx⟩; have hb1 := hb0.trans (hbx.mono (by have := hb0.size; omega)); have hc1 := (hbx.cell (p := ⟨w.heap.size, 0, none⟩) (World.block_lt_of_cell? _ _ hc0)).trans hc0; clear hb0 hc0; have hb0 := hb1; have hc0 := hc1; clear hb1 hc1 hbx))
  refine (must_no w.heap.size n _ hc0).mono ?_
  rintro e w' ⟨rfl, rfl⟩
  exact ⟨rfl, rfl, hb0⟩
set_option maxHeartbeats 2000000 in
set_option maxRecDepth 100000 in
theorem esc_f2b (s : ByteArray) (n : Nat) (b N : Int) (w : World) (hs : s.size ≤ 1000000) (hT : TE w) (hH : hasB s n 92 = true) (h1 : n + 1 < s.size) (hat : ∀ h : n + 1 < s.size, (((s[n + 1]'h).toNat : Nat) : Int) = b) (hK : shIdx b = -1) (hN : hexN s (n + 2) = N) (hO : hexOk s (n + 2) = false) (hU : hasB s (n + 1) 117 = true) :
    Calls Tryd.prog 69 #[.string s, .int .i64 n] w fun e w' => e = Wrong n ∧ Below w.heap.size w w' := by
  have hb0 : Below w.heap.size w (w.alloc (.cells #[.int .i64 n] 3)) := (Below.refl _ w).alloc (Nat.le_refl _) _
  have hc0 : (w.alloc (.cells #[.int .i64 n] 3)).cell? ⟨w.heap.size, 0, none⟩ = some (.int .i64 n) := by simp
  have hd1 : decide ((n : Int) + 1 < (s.size : Int)) = true := decide_eq_true (by omega)
  go_enter Tryd.func69, Tryd.ntmps69
  go_wp2_with (first
    | (go_at_call 68; refine (has_any _ _ _ _).mono ?_; rintro e w' ⟨rfl, rfl⟩)
    | (go_at_call 87; with_reducible refine (must_yes _ _).mono ?_; rintro e w' ⟨rfl, rfl⟩)
    | (go_at_call 25; refine (sh_byte _ _).mono ?_; rintro e w' ⟨rfl, rfl⟩)
    | (go_at_call 88; refine (hex_any _ _ _ (by omega) (hT.low (by assumption))).mono ?_; rintro e wx ⟨rfl, hbx⟩; have hb1 := hb0.trans (hbx.mono (by have := hb0.size; omega)); have hc1 := (hbx.cell (p := ⟨w.heap.size, 0, none⟩) (World.block_lt_of_cell? _ _ hc0)).trans hc0; clear hb0 hc0; have hb0 := hb1; have hc0 := hc1; clear hb1 hc1 hbx))
  refine (must_no w.heap.size n _ hc0).mono ?_
  rintro e w' ⟨rfl, rfl⟩
  exact ⟨rfl, rfl, hb0⟩
set_option maxHeartbeats 2000000 in
set_option maxRecDepth 100000 in
theorem esc_s2a (s : ByteArray) (n : Nat) (b N : Int) (E : ByteArray) (w : World) (hs : s.size ≤ 1000000) (hT : TE w) (hH : hasB s n 92 = true) (h1 : n + 1 < s.size) (hat : ∀ h : n + 1 < s.size, (((s[n + 1]'h).toNat : Nat) : Int) = b) (hK : shIdx b = -1) (hN : hexN s (n + 2) = N) (hO : hexOk s (n + 2) = true) (hU : hasB s (n + 1) 117 = true) (hN0 : 0 ≤ N) (hN1 : N ≤ 65535) (hlo : N < 55296) (hE : Utf8.encode N = E) :
    Calls Tryd.prog 69 #[.string s, .int .i64 n] w fun e w' => e = .returned (.tuple #[.string E, .int .i64 (n + 6)]) ∧ Below w.heap.size w w' := by
  have hb0 : Below w.heap.size w (w.alloc (.cells #[.int .i64 n] 3)) := (Below.refl _ w).alloc (Nat.le_refl _) _
  have hc0 : (w.alloc (.cells #[.int .i64 n] 3)).cell? ⟨w.heap.size, 0, none⟩ = some (.int .i64 n) := by simp
  have hd1 : decide ((n : Int) + 1 < (s.size : Int)) = true := decide_eq_true (by omega)
  have hwr : IntKind.i32.wrap N = N := by simp [IntKind.wrap, IntKind.bits]; omega
  go_enter Tryd.func69, Tryd.ntmps69
  go_wp2_with (first
    | (go_at_call 68; refine (has_any _ _ _ _).mono ?_; rintro e w' ⟨rfl, rfl⟩)
    | (go_at_call 87; with_reducible refine (must_yes _ _).mono ?_; rintro e w' ⟨rfl, rfl⟩)
    | (go_at_call 25; refine (sh_byte _ _).mono ?_; rintro e w' ⟨rfl, rfl⟩)
    | (go_at_call 88; refine (hex_any _ _ _ (by omega) (hT.low (by assumption))).mono ?_; rintro e wx ⟨rfl, hbx⟩; have hb1 := hb0.trans (hbx.mono (by have := hb0.size; omega)); have hc1 := (hbx.cell (p := ⟨w.heap.size, 0, none⟩) (World.block_lt_of_cell? _ _ hc0)).trans hc0; clear hb0 hc0; have hb0 := hb1; have hc0 := hc1; clear hb1 hc1 hbx))
  go_quiet (fail)
  go_wp2
  go_ret2
  exact ⟨rfl, below_drawn hb0 _⟩
set_option maxHeartbeats 2000000 in
set_option maxRecDepth 100000 in
theorem esc_s2b (s : ByteArray) (n : Nat) (b N : Int) (E : ByteArray) (w : World) (hs : s.size ≤ 1000000) (hT : TE w) (hH : hasB s n 92 = true) (h1 : n + 1 < s.size) (hat : ∀ h : n + 1 < s.size, (((s[n + 1]'h).toNat : Nat) : Int) = b) (hK : shIdx b = -1) (hN : hexN s (n + 2) = N) (hO : hexOk s (n + 2) = true) (hU : hasB s (n + 1) 117 = true) (hN0 : 0 ≤ N) (hN1 : N ≤ 65535) (hlo : 57343 < N) (hE : Utf8.encode N = E) :
    Calls Tryd.prog 69 #[.string s, .int .i64 n] w fun e w' => e = .returned (.tuple #[.string E, .int .i64 (n + 6)]) ∧ Below w.heap.size w w' := by
  have hb0 : Below w.heap.size w (w.alloc (.cells #[.int .i64 n] 3)) := (Below.refl _ w).alloc (Nat.le_refl _) _
  have hc0 : (w.alloc (.cells #[.int .i64 n] 3)).cell? ⟨w.heap.size, 0, none⟩ = some (.int .i64 n) := by simp
  have hd1 : decide ((n : Int) + 1 < (s.size : Int)) = true := decide_eq_true (by omega)
  have hwr : IntKind.i32.wrap N = N := by simp [IntKind.wrap, IntKind.bits]; omega
  go_enter Tryd.func69, Tryd.ntmps69
  go_wp2_with (first
    | (go_at_call 68; refine (has_any _ _ _ _).mono ?_; rintro e w' ⟨rfl, rfl⟩)
    | (go_at_call 87; with_reducible refine (must_yes _ _).mono ?_; rintro e w' ⟨rfl, rfl⟩)
    | (go_at_call 25; refine (sh_byte _ _).mono ?_; rintro e w' ⟨rfl, rfl⟩)
    | (go_at_call 88; refine (hex_any _ _ _ (by omega) (hT.low (by assumption))).mono ?_; rintro e wx ⟨rfl, hbx⟩; have hb1 := hb0.trans (hbx.mono (by have := hb0.size; omega)); have hc1 := (hbx.cell (p := ⟨w.heap.size, 0, none⟩) (World.block_lt_of_cell? _ _ hc0)).trans hc0; clear hb0 hc0; have hb0 := hb1; have hc0 := hc1; clear hb1 hc1 hbx))
  go_quiet (fail)
  go_wp2
  go_ret2
  exact ⟨rfl, below_drawn hb0 _⟩
set_option maxHeartbeats 2000000 in
set_option maxRecDepth 100000 in
theorem esc_f3a (s : ByteArray) (n : Nat) (b N L : Int) (can : Bool) (w : World) (hs : s.size ≤ 1000000) (hT : TE w) (hH : hasB s n 92 = true) (h1 : n + 1 < s.size) (hat : ∀ h : n + 1 < s.size, (((s[n + 1]'h).toNat : Nat) : Int) = b) (hK : shIdx b = -1) (hN : hexN s (n + 2) = N) (hO : hexOk s (n + 2) = true) (hU : hasB s (n + 1) 117 = true) (hN0 : 0 ≤ N) (hN1 : N ≤ 65535) (hl1 : 55296 ≤ N) (hl2 : N ≤ 57343) (hL : hexN s (n + 8) = L) (hC : hexOk s (n + 8) = can) (hq : 56320 ≤ N) :
    Calls Tryd.prog 69 #[.string s, .int .i64 n] w fun e w' => e = Wrong n ∧ Below w.heap.size w w' := by
  have hb0 : Below w.heap.size w (w.alloc (.cells #[.int .i64 n] 3)) := (Below.refl _ w).alloc (Nat.le_refl _) _
  have hc0 : (w.alloc (.cells #[.int .i64 n] 3)).cell? ⟨w.heap.size, 0, none⟩ = some (.int .i64 n) := by simp
  have hd1 : decide ((n : Int) + 1 < (s.size : Int)) = true := decide_eq_true (by omega)
  have hn1 : ¬ N < 55296 := by omega
  have hn2 : ¬ 57343 < N := by omega
  have hq1 : decide (N < 56320) = false := decide_eq_false (by omega)
  go_enter Tryd.func69, Tryd.ntmps69
  go_wp2_with (first
    | (go_at_call 68; refine (has_any _ _ _ _).mono ?_; rintro e w' ⟨rfl, rfl⟩)
    | (go_at_call 87; with_reducible refine (must_yes _ _).mono ?_; rintro e w' ⟨rfl, rfl⟩)
    | (go_at_call 25; refine (sh_byte _ _).mono ?_; rintro e w' ⟨rfl, rfl⟩)
    | (go_at_call 88; refine (hex_any _ _ _ (by omega) (hT.low (by assumption))).mono ?_; rintro e wx ⟨rfl, hbx⟩; have hb1 := hb0.trans (hbx.mono (by have := hb0.size; omega)); have hc1 := (hbx.cell (p := ⟨w.heap.size, 0, none⟩) (World.block_lt_of_cell? _ _ hc0)).trans hc0; clear hb0 hc0; have hb0 := hb1; have hc0 := hc1; clear hb1 hc1 hbx))
  refine (must_no w.heap.size n _ hc0).mono ?_
  rintro e w' ⟨rfl, rfl⟩
  exact ⟨rfl, rfl, hb0⟩
set_option maxHeartbeats 2000000 in
set_option maxRecDepth 100000 in
theorem esc_f3b (s : ByteArray) (n : Nat) (b N L : Int) (can : Bool) (w : World) (hs : s.size ≤ 1000000) (hT : TE w) (hH : hasB s n 92 = true) (h1 : n + 1 < s.size) (hat : ∀ h : n + 1 < s.size, (((s[n + 1]'h).toNat : Nat) : Int) = b) (hK : shIdx b = -1) (hN : hexN s (n + 2) = N) (hO : hexOk s (n + 2) = true) (hU : hasB s (n + 1) 117 = true) (hN0 : 0 ≤ N) (hN1 : N ≤ 65535) (hl1 : 55296 ≤ N) (hl2 : N ≤ 57343) (hL : hexN s (n + 8) = L) (hC : hexOk s (n + 8) = can) (hq : N < 56320) (h6 : hasB s (n + 6) 92 = false) :
    Calls Tryd.prog 69 #[.string s, .int .i64 n] w fun e w' => e = Wrong n ∧ Below w.heap.size w w' := by
  have hb0 : Below w.heap.size w (w.alloc (.cells #[.int .i64 n] 3)) := (Below.refl _ w).alloc (Nat.le_refl _) _
  have hc0 : (w.alloc (.cells #[.int .i64 n] 3)).cell? ⟨w.heap.size, 0, none⟩ = some (.int .i64 n) := by simp
  have hd1 : decide ((n : Int) + 1 < (s.size : Int)) = true := decide_eq_true (by omega)
  have hn1 : ¬ N < 55296 := by omega
  have hn2 : ¬ 57343 < N := by omega
  have hq1 : decide (N < 56320) = true := decide_eq_true hq
  go_enter Tryd.func69, Tryd.ntmps69
  go_wp2_with (first
    | (go_at_call 68; refine (has_any _ _ _ _).mono ?_; rintro e w' ⟨rfl, rfl⟩)
    | (go_at_call 87; with_reducible refine (must_yes _ _).mono ?_; rintro e w' ⟨rfl, rfl⟩)
    | (go_at_call 25; refine (sh_byte _ _).mono ?_; rintro e w' ⟨rfl, rfl⟩)
    | (go_at_call 88; refine (hex_any _ _ _ (by omega) (hT.low (by assumption))).mono ?_; rintro e wx ⟨rfl, hbx⟩; have hb1 := hb0.trans (hbx.mono (by have := hb0.size; omega)); have hc1 := (hbx.cell (p := ⟨w.heap.size, 0, none⟩) (World.block_lt_of_cell? _ _ hc0)).trans hc0; clear hb0 hc0; have hb0 := hb1; have hc0 := hc1; clear hb1 hc1 hbx))
  refine (must_no w.heap.size n _ hc0).mono ?_
  rintro e w' ⟨rfl, rfl⟩
  exact ⟨rfl, rfl, hb0⟩
set_option maxHeartbeats 2000000 in
set_option maxRecDepth 100000 in
theorem esc_f3c (s : ByteArray) (n : Nat) (b N L : Int) (can : Bool) (w : World) (hs : s.size ≤ 1000000) (hT : TE w) (hH : hasB s n 92 = true) (h1 : n + 1 < s.size) (hat : ∀ h : n + 1 < s.size, (((s[n + 1]'h).toNat : Nat) : Int) = b) (hK : shIdx b = -1) (hN : hexN s (n + 2) = N) (hO : hexOk s (n + 2) = true) (hU : hasB s (n + 1) 117 = true) (hN0 : 0 ≤ N) (hN1 : N ≤ 65535) (hl1 : 55296 ≤ N) (hl2 : N ≤ 57343) (hL : hexN s (n + 8) = L) (hC : hexOk s (n + 8) = can) (hq : N < 56320) (h6 : hasB s (n + 6) 92 = true) (h7 : hasB s (n + 7) 117 = false) :
    Calls Tryd.prog 69 #[.string s, .int .i64 n] w fun e w' => e = Wrong n ∧ Below w.heap.size w w' := by
  have hb0 : Below w.heap.size w (w.alloc (.cells #[.int .i64 n] 3)) := (Below.refl _ w).alloc (Nat.le_refl _) _
  have hc0 : (w.alloc (.cells #[.int .i64 n] 3)).cell? ⟨w.heap.size, 0, none⟩ = some (.int .i64 n) := by simp
  have hd1 : decide ((n : Int) + 1 < (s.size : Int)) = true := decide_eq_true (by omega)
  have hn1 : ¬ N < 55296 := by omega
  have hn2 : ¬ 57343 < N := by omega
  have hq1 : decide (N < 56320) = true := decide_eq_true hq
  go_enter Tryd.func69, Tryd.ntmps69
  go_wp2_with (first
    | (go_at_call 68; refine (has_any _ _ _ _).mono ?_; rintro e w' ⟨rfl, rfl⟩)
    | (go_at_call 87; with_reducible refine (must_yes _ _).mono ?_; rintro e w' ⟨rfl, rfl⟩)
    | (go_at_call 25; refine (sh_byte _ _).mono ?_; rintro e w' ⟨rfl, rfl⟩)
    | (go_at_call 88; refine (hex_any _ _ _ (by omega) (hT.low (by assumption))).mono ?_; rintro e wx ⟨rfl, hbx⟩; have hb1 := hb0.trans (hbx.mono (by have := hb0.size; omega)); have hc1 := (hbx.cell (p := ⟨w.heap.size, 0, none⟩) (World.block_lt_of_cell? _ _ hc0)).trans hc0; clear hb0 hc0; have hb0 := hb1; have hc0 := hc1; clear hb1 hc1 hbx))
  refine (must_no w.heap.size n _ hc0).mono ?_
  rintro e w' ⟨rfl, rfl⟩
  exact ⟨rfl, rfl, hb0⟩
set_option maxHeartbeats 2000000 in
set_option maxRecDepth 100000 in
theorem esc_f3d (s : ByteArray) (n : Nat) (b N L : Int) (w : World) (hs : s.size ≤ 1000000) (hT : TE w) (hH : hasB s n 92 = true) (h1 : n + 1 < s.size) (hat : ∀ h : n + 1 < s.size, (((s[n + 1]'h).toNat : Nat) : Int) = b) (hK : shIdx b = -1) (hN : hexN s (n + 2) = N) (hO : hexOk s (n + 2) = true) (hU : hasB s (n + 1) 117 = true) (hN0 : 0 ≤ N) (hN1 : N ≤ 65535) (hl1 : 55296 ≤ N) (hl2 : N ≤ 57343) (hL : hexN s (n + 8) = L) (hC : hexOk s (n + 8) = false) (hq : N < 56320) (h6 : hasB s (n + 6) 92 = true) (h7 : hasB s (n + 7) 117 = true) :
    Calls Tryd.prog 69 #[.string s, .int .i64 n] w fun e w' => e = Wrong n ∧ Below w.heap.size w w' := by
  have hb0 : Below w.heap.size w (w.alloc (.cells #[.int .i64 n] 3)) := (Below.refl _ w).alloc (Nat.le_refl _) _
  have hc0 : (w.alloc (.cells #[.int .i64 n] 3)).cell? ⟨w.heap.size, 0, none⟩ = some (.int .i64 n) := by simp
  have hd1 : decide ((n : Int) + 1 < (s.size : Int)) = true := decide_eq_true (by omega)
  have hn1 : ¬ N < 55296 := by omega
  have hn2 : ¬ 57343 < N := by omega
  have hq1 : decide (N < 56320) = true := decide_eq_true hq
  go_enter Tryd.func69, Tryd.ntmps69
  go_wp2_with (first
    | (go_at_call 68; refine (has_any _ _ _ _).mono ?_; rintro e w' ⟨rfl, rfl⟩)
    | (go_at_call 87; with_reducible refine (must_yes _ _).mono ?_; rintro e w' ⟨rfl, rfl⟩)
    | (go_at_call 25; refine (sh_byte _ _).mono ?_; rintro e w' ⟨rfl, rfl⟩)
    | (go_at_call 88; refine (hex_any _ _ _ (by omega) (hT.low (by assumption))).mono ?_; rintro e wx ⟨rfl, hbx⟩; have hb1 := hb0.trans (hbx.mono (by have := hb0.size; omega)); have hc1 := (hbx.cell (p := ⟨w.heap.size, 0, none⟩) (World.block_lt_of_cell? _ _ hc0)).trans hc0; clear hb0 hc0; have hb0 := hb1; have hc0 := hc1; clear hb1 hc1 hbx))
  refine (must_no w.heap.size n _ hc0).mono ?_
  rintro e w' ⟨rfl, rfl⟩
  exact ⟨rfl, rfl, hb0⟩
set_option maxHeartbeats 2000000 in
set_option maxRecDepth 100000 in
theorem esc_f3e (s : ByteArray) (n : Nat) (b N L : Int) (w : World) (hs : s.size ≤ 1000000) (hT : TE w) (hH : hasB s n 92 = true) (h1 : n + 1 < s.size) (hat : ∀ h : n + 1 < s.size, (((s[n + 1]'h).toNat : Nat) : Int) = b) (hK : shIdx b = -1) (hN : hexN s (n + 2) = N) (hO : hexOk s (n + 2) = true) (hU : hasB s (n + 1) 117 = true) (hN0 : 0 ≤ N) (hN1 : N ≤ 65535) (hl1 : 55296 ≤ N) (hl2 : N ≤ 57343) (hL : hexN s (n + 8) = L) (hC : hexOk s (n + 8) = true) (hq : N < 56320) (h6 : hasB s (n + 6) 92 = true) (h7 : hasB s (n + 7) 117 = true) (hv : L < 56320) :
    Calls Tryd.prog 69 #[.string s, .int .i64 n] w fun e w' => e = Wrong n ∧ Below w.heap.size w w' := by
  have hb0 : Below w.heap.size w (w.alloc (.cells #[.int .i64 n] 3)) := (Below.refl _ w).alloc (Nat.le_refl _) _
  have hc0 : (w.alloc (.cells #[.int .i64 n] 3)).cell? ⟨w.heap.size, 0, none⟩ = some (.int .i64 n) := by simp
  have hd1 : decide ((n : Int) + 1 < (s.size : Int)) = true := decide_eq_true (by omega)
  have hn1 : ¬ N < 55296 := by omega
  have hn2 : ¬ 57343 < N := by omega
  have hq1 : decide (N < 56320) = true := decide_eq_true hq
  have hv1 : decide (56320 ≤ L) = false := decide_eq_false (by omega)
  go_enter Tryd.func69, Tryd.ntmps69
  go_wp2_with (first
    | (go_at_call 68; refine (has_any _ _ _ _).mono ?_; rintro e w' ⟨rfl, rfl⟩)
    | (go_at_call 87; with_reducible refine (must_yes _ _).mono ?_; rintro e w' ⟨rfl, rfl⟩)
    | (go_at_call 25; refine (sh_byte _ _).mono ?_; rintro e w' ⟨rfl, rfl⟩)
    | (go_at_call 88; refine (hex_any _ _ _ (by omega) (hT.low (by assumption))).mono ?_; rintro e wx ⟨rfl, hbx⟩; have hb1 := hb0.trans (hbx.mono (by have := hb0.size; omega)); have hc1 := (hbx.cell (p := ⟨w.heap.size, 0, none⟩) (World.block_lt_of_cell? _ _ hc0)).trans hc0; clear hb0 hc0; have hb0 := hb1; have hc0 := hc1; clear hb1 hc1 hbx))
  refine (must_no w.heap.size n _ hc0).mono ?_
  rintro e w' ⟨rfl, rfl⟩
  exact ⟨rfl, rfl, hb0⟩
set_option maxHeartbeats 2000000 in
set_option maxRecDepth 100000 in
theorem esc_f3f (s : ByteArray) (n : Nat) (b N L : Int) (w : World) (hs : s.size ≤ 1000000) (hT : TE w) (hH : hasB s n 92 = true) (h1 : n + 1 < s.size) (hat : ∀ h : n + 1 < s.size, (((s[n + 1]'h).toNat : Nat) : Int) = b) (hK : shIdx b = -1) (hN : hexN s (n + 2) = N) (hO : hexOk s (n + 2) = true) (hU : hasB s (n + 1) 117 = true) (hN0 : 0 ≤ N) (hN1 : N ≤ 65535) (hl1 : 55296 ≤ N) (hl2 : N ≤ 57343) (hL : hexN s (n + 8) = L) (hC : hexOk s (n + 8) = true) (hq : N < 56320) (h6 : hasB s (n + 6) 92 = true) (h7 : hasB s (n + 7) 117 = true) (hv : 57343 < L) :
    Calls Tryd.prog 69 #[.string s, .int .i64 n] w fun e w' => e = Wrong n ∧ Below w.heap.size w w' := by
  have hb0 : Below w.heap.size w (w.alloc (.cells #[.int .i64 n] 3)) := (Below.refl _ w).alloc (Nat.le_refl _) _
  have hc0 : (w.alloc (.cells #[.int .i64 n] 3)).cell? ⟨w.heap.size, 0, none⟩ = some (.int .i64 n) := by simp
  have hd1 : decide ((n : Int) + 1 < (s.size : Int)) = true := decide_eq_true (by omega)
  have hn1 : ¬ N < 55296 := by omega
  have hn2 : ¬ 57343 < N := by omega
  have hq1 : decide (N < 56320) = true := decide_eq_true hq
  have hv1 : decide (56320 ≤ L) = true := decide_eq_true (by omega)
  have hv2 : decide (L ≤ 57343) = false := decide_eq_false (by omega)
  go_enter Tryd.func69, Tryd.ntmps69
  go_wp2_with (first
    | (go_at_call 68; refine (has_any _ _ _ _).mono ?_; rintro e w' ⟨rfl, rfl⟩)
    | (go_at_call 87; with_reducible refine (must_yes _ _).mono ?_; rintro e w' ⟨rfl, rfl⟩)
    | (go_at_call 25; refine (sh_byte _ _).mono ?_; rintro e w' ⟨rfl, rfl⟩)
    | (go_at_call 88; refine (hex_any _ _ _ (by omega) (hT.low (by assumption))).mono ?_; rintro e wx ⟨rfl, hbx⟩; have hb1 := hb0.trans (hbx.mono (by have := hb0.size; omega)); have hc1 := (hbx.cell (p := ⟨w.heap.size, 0, none⟩) (World.block_lt_of_cell? _ _ hc0)).trans hc0; clear hb0 hc0; have hb0 := hb1; have hc0 := hc1; clear hb1 hc1 hbx))
  refine (must_no w.heap.size n _ hc0).mono ?_
  rintro e w' ⟨rfl, rfl⟩
  exact ⟨rfl, rfl, hb0⟩
set_option maxHeartbeats 2000000 in
set_option maxRecDepth 100000 in
theorem esc_s3 (s : ByteArray) (n : Nat) (b N L : Int) (E : ByteArray) (w : World) (hs : s.size ≤ 1000000) (hT : TE w) (hH : hasB s n 92 = true) (h1 : n + 1 < s.size) (hat : ∀ h : n + 1 < s.size, (((s[n + 1]'h).toNat : Nat) : Int) = b) (hK : shIdx b = -1) (hN : hexN s (n + 2) = N) (hO : hexOk s (n + 2) = true) (hU : hasB s (n + 1) 117 = true) (hN0 : 0 ≤ N) (hN1 : N ≤ 65535) (hl1 : 55296 ≤ N) (hl2 : N ≤ 57343) (hL : hexN s (n + 8) = L) (hC : hexOk s (n + 8) = true) (hq : N < 56320) (h6 : hasB s (n + 6) 92 = true) (h7 : hasB s (n + 7) 117 = true) (hv : 56320 ≤ L) (hv' : L ≤ 57343) (hE : Utf8.encode (65536 + (N - 55296) * 1024 + L - 56320) = E) :
    Calls Tryd.prog 69 #[.string s, .int .i64 n] w fun e w' => e = .returned (.tuple #[.string E, .int .i64 (n + 12)]) ∧ Below w.heap.size w w' := by
  have hb0 : Below w.heap.size w (w.alloc (.cells #[.int .i64 n] 3)) := (Below.refl _ w).alloc (Nat.le_refl _) _
  have hc0 : (w.alloc (.cells #[.int .i64 n] 3)).cell? ⟨w.heap.size, 0, none⟩ = some (.int .i64 n) := by simp
  have hd1 : decide ((n : Int) + 1 < (s.size : Int)) = true := decide_eq_true (by omega)
  have hn1 : ¬ N < 55296 := by omega
  have hn2 : ¬ 57343 < N := by omega
  have hq1 : decide (N < 56320) = true := decide_eq_true hq
  have hv1 : decide (56320 ≤ L) = true := decide_eq_true (by omega)
  have hv2 : decide (L ≤ 57343) = true := decide_eq_true (by omega)
  have hwr : IntKind.i32.wrap (65536 + (N - 55296) * 1024 + L - 56320) = 65536 + (N - 55296) * 1024 + L - 56320 := by simp [IntKind.wrap, IntKind.bits]; omega
  go_enter Tryd.func69, Tryd.ntmps69
  go_wp2_with (first
    | (go_at_call 68; refine (has_any _ _ _ _).mono ?_; rintro e w' ⟨rfl, rfl⟩)
    | (go_at_call 87; with_reducible refine (must_yes _ _).mono ?_; rintro e w' ⟨rfl, rfl⟩)
    | (go_at_call 25; refine (sh_byte _ _).mono ?_; rintro e w' ⟨rfl, rfl⟩)
    | (go_at_call 88; refine (hex_any _ _ _ (by omega) (hT.low (by assumption))).mono ?_; rintro e wx ⟨rfl, hbx⟩; have hb1 := hb0.trans (hbx.mono (by have := hb0.size; omega)); have hc1 := (hbx.cell (p := ⟨w.heap.size, 0, none⟩) (World.block_lt_of_cell? _ _ hc0)).trans hc0; clear hb0 hc0; have hb0 := hb1; have hc0 := hc1; clear hb1 hc1 hbx))
  go_quiet (fail)
  go_wp2
  go_ret2
  exact ⟨rfl, below_drawn hb0 _⟩
end Go.Proofs.YtjgpmfjkcioinaaDoor.G
