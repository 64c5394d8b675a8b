/-
  The law RealWhole: its walk. (Printed by gen_c13.py.)
-/
import Derived.Test.YtchbmihhkjpkaaaDoorC12
import Derived.Test.YtchbmihhkjpkaaaDoorD2
import Derived.Test.YtchbmihhkjpkaaaDoorRX3
namespace Go.Proofs.YtchbmihhkjpkaaaDoor.G
open Go.RowKit Go.Proofs.YtchbmihhkjpkaaaDoorW.PrintWords Go.Proofs.YtchbmihhkjpkaaaDoor.M
set_option linter.unusedVariables false
set_option linter.unusedSimpArgs false

theorem ten_row : ∀ n : Fin 11, by_ ((⟨#[48, 48, 48, 48, 48, 48, 48, 48, 48, 48]⟩ : ByteArray).extract 0 n.val) = List.replicate n.val 48 := by decide +kernel
theorem ten_by (n : Nat) (h : n ≤ 10) : by_ ((⟨#[48, 48, 48, 48, 48, 48, 48, 48, 48, 48]⟩ : ByteArray).extract 0 n) = List.replicate n 48 := ten_row ⟨n, by omega⟩
/-- How far the digits are written. -/
structure WRel (n m : Nat) (S : ByteArray) : Prop where
  fst : S.size = 0 → m = n
  snd : S.size ≠ 0 → dg m ++ by_ S = dtext n
theorem WRel.step {n m : Nat} {S : ByteArray} (h : WRel n m S) (hc : m ≠ 0 ∨ S.size = 0) (X : UInt8) (hX : (X.toNat : Int) = 48 + (m : Int) % 10) : WRel n (m / 10) (⟨#[X]⟩ ++ S) := by
  have hs : (⟨#[X]⟩ ++ S : ByteArray).size = 1 + S.size := by rw [ByteArray.size_append]; rfl
  have hb : by_ (⟨#[X]⟩ ++ S) = (48 + ((m % 10 : Nat) : Int)) :: by_ S := by
    rw [by_append]
    show (X.toNat : Int) :: by_ S = _
    rw [hX]; congr 1
  refine ⟨fun q => by omega, fun _ => ?_⟩
  rw [hb]
  by_cases h0 : S.size = 0
  · have hm := h.fst h0
    have hn : by_ S = [] := List.eq_nil_of_length_eq_zero (by rw [by_length]; exact h0)
    rw [hn, ← hm]
    unfold dtext
    by_cases hm0 : m = 0
    · subst hm0; rw [if_pos rfl, dg_zero]; rfl
    · rw [if_neg hm0, dg_pos hm0]
  · have hm : m ≠ 0 := hc.resolve_right h0
    rw [← h.snd h0, dg_pos hm, List.append_assoc]; rfl
theorem WRel.done {n : Nat} {S : ByteArray} (h : WRel n 0 S) (h0 : S.size ≠ 0) : by_ S = dtext n := by
  have := h.snd h0
  rw [dg_zero] at this; exact this
set_option maxHeartbeats 800000 in
theorem whole_out_a (n k : Int) (w : World) (h1 : n < 0) : Calls Tryd.prog 5 #[.int .i64 n, .int .i64 k] w fun e w' => e = .returned (.bool true) ∧ Below w.heap.size w w' := by
  have hA := awake3 w
  go_enter Tryd.func5, Tryd.ntmps5
  go_wp2_with (go_at_call 10; (with_reducible refine hA.mono ?_); rintro e w1 ⟨rfl, b1⟩)
  go_ret
  exact ⟨rfl, b1⟩
set_option maxHeartbeats 800000 in
theorem whole_out_b (n k : Int) (w : World) (h0 : ¬ n < 0) (h1 : 99999999999999 < n) : Calls Tryd.prog 5 #[.int .i64 n, .int .i64 k] w fun e w' => e = .returned (.bool true) ∧ Below w.heap.size w w' := by
  have hA := awake3 w
  go_enter Tryd.func5, Tryd.ntmps5
  go_wp2_with (go_at_call 10; (with_reducible refine hA.mono ?_); rintro e w1 ⟨rfl, b1⟩)
  go_ret
  exact ⟨rfl, b1⟩
set_option maxHeartbeats 800000 in
theorem whole_out_c (n k : Int) (w : World) (h0 : ¬ n < 0) (h2 : ¬ 99999999999999 < n) (h1 : k < 0) : Calls Tryd.prog 5 #[.int .i64 n, .int .i64 k] w fun e w' => e = .returned (.bool true) ∧ Below w.heap.size w w' := by
  have hA := awake3 w
  go_enter Tryd.func5, Tryd.ntmps5
  go_wp2_with (go_at_call 10; (with_reducible refine hA.mono ?_); rintro e w1 ⟨rfl, b1⟩)
  go_ret
  exact ⟨rfl, b1⟩
set_option maxHeartbeats 800000 in
theorem whole_out_d (n k : Int) (w : World) (h0 : ¬ n < 0) (h2 : ¬ 99999999999999 < n) (h3 : ¬ k < 0) (h1 : 9 < k) : Calls Tryd.prog 5 #[.int .i64 n, .int .i64 k] w fun e w' => e = .returned (.bool true) ∧ Below w.heap.size w w' := by
  have hA := awake3 w
  go_enter Tryd.func5, Tryd.ntmps5
  go_wp2_with (go_at_call 10; (with_reducible refine hA.mono ?_); rintro e w1 ⟨rfl, b1⟩)
  go_ret
  exact ⟨rfl, b1⟩
set_option maxHeartbeats 3200000 in
theorem whole_long (n k : Nat) (w : World) (n0 : ¬ (n : Int) < 0) (n1 : ¬ 99999999999999 < (n : Int)) (k0 : ¬ (k : Int) < 0) (k1 : ¬ 9 < (k : Int)) (K : UInt8) (hK : (K.toNat : Int) = 48 + (k : Int)) (F : Nat) (hF : floatOfInt .f64 (n : Int) = F) (hFl : F < 18446744073709551616)
    (hlen : 15 < (dtext n).length + k)
    (r1 : Hid (realF (dtext n) = F)) (r2 : Hid (realF (dtext n ++ [46, 48]) = F)) (r3 : Hid (realF (dtext n ++ [101, 48]) = F)) :
    Calls Tryd.prog 5 #[.int .i64 (n : Int), .int .i64 (k : Int)] w fun e w' => e = .returned (.bool true) ∧ Below w.heap.size w w' := by
  have hA := awake3 w
  have hl14 := dtext_length (n := n) (by omega)
  have R1 := Lib.hid (real_at _ _ r1.out (by (try simp); omega))
  have R2 := Lib.hid (real_at _ _ r2.out (by (try simp); omega))
  have R3 := Lib.hid (real_at _ _ r3.out (by (try simp); omega))
  have M1 := fun W : World => same_any F F W hFl hFl
  rw [same_self] at M1
  have HZ := Lib.hid (ten_by k (by omega))
  have HL := Lib.hid hlen
  have HL14 := Lib.hid hl14
  clear hlen hl14 r1 r2 r3 
  go_enter Tryd.func5, Tryd.ntmps5
  try dsimp only [List.append]
  go_wp2_with (go_at_call 10; (with_reducible refine hA.mono ?_); rintro e w1 ⟨rfl, b1⟩)
  go_loopg [6, 7] 15 (fun gf v6 v7 wx => ∃ (S : ByteArray) (m : Nat), v6 = .string S ∧ v7 = .int .i64 (m : Int) ∧ Below w.heap.size w wx ∧ S.size + gf = 15 ∧ m ≤ 99999999999999 ∧ Hid (m < 10 ^ gf) ∧ Hid (WRel n m S))
  case atStart => exact ⟨⟨#[]⟩, n, rfl, rfl, b1, rfl, by omega, Lib.hid (by omega), Lib.hid ⟨fun _ => rfl, fun h => absurd rfl h⟩⟩
  case round =>
    obtain ⟨S, m, rfl, rfl, hbel, hgf, hm9, hmg, hrl⟩ := hrel
    by_cases hgo : m ≠ 0 ∨ S.size = 0
    · obtain ⟨X, hX⟩ := byte_is (48 + (m : Int) % 10) (by omega) (by omega)
      have hcv := one_byte_conv wr X
      rw [hX] at hcv
      have HR := Lib.hid (hrl.out.step hgo X hX)
      have hmg2 := hmg.out
      clear hA R1 R2 R3 M1 HZ hX hrl hmg 
      cases gk with
      | zero =>
        exfalso
        rw [Nat.pow_zero] at hmg2
        omega
      | succ g =>
        have HM := Lib.hid (show m / 10 < 10 ^ g by rw [Nat.pow_succ] at hmg2; omega)
        clear hmg2
        by_cases hm0 : m = 0
        · have hs0 : S.size = 0 := by omega
          have hem := emp_yes hs0
          subst hm0
          rw [show (48 + ((0 : Nat) : Int) % 10 : Int) = 48 from rfl] at hcv
          clear hgo
          go_wp2
          go_roundg g
          case measure => omega
          case rel => exact ⟨⟨#[X]⟩ ++ S, 0 / 10, rfl, rfl, hbel.alloc hbel.size _, by rw [ByteArray.size_append]; show 1 + S.size + g = 15; omega, by omega, HM, HR⟩
        · have hmm : (0 : Int) < (m : Int) := by omega
          clear hgo
          go_wp2
          go_roundg g
          case measure => omega
          case rel => exact ⟨⟨#[X]⟩ ++ S, m / 10, rfl, by rw [Int.natCast_ediv]; rfl, hbel.alloc hbel.size _, by rw [ByteArray.size_append]; show 1 + S.size + g = 15; omega, by omega, HM, HR⟩
    · have hm0 : m = 0 := by omega
      have hs0 : 0 < S.size := by omega
      subst hm0
      have hem := emp_no hs0
      have HS := Lib.hid (hrl.out.done (by omega))
      have hsl : S.size = (dtext n).length := by rw [← by_length, HS.out]
      have hq : (15 : Int) < (S.size : Int) + (k : Int) := by have := HL.out; omega
      have hcv := one_byte_conv wr K
      rw [hK] at hcv
      have hs15 : S.size ≤ 15 := by omega
      clear hgo hrl hmg HL HL14 hsl hgf
      go_wp2_with (first
        | (go_at_call 12; (with_reducible refine (R1.out _ _ ?_).mono ?_); (· exact HS.out); rintro e w2 ⟨rfl, b2⟩; clear R1)
        | (go_at_call 12; (with_reducible refine (R2.out _ _ ?_).mono ?_); (· rw [by_append, HS.out]; first | done | rfl); rintro e w3 ⟨rfl, b3⟩; clear R2)
        | (go_at_call 12; (with_reducible refine (R3.out _ _ ?_).mono ?_); (· rw [by_append, HS.out]; first | done | rfl); rintro e w4 ⟨rfl, b4⟩; clear R3)
        | (go_at_call 15; (with_reducible refine (M1 _).mono ?_); rintro e w' ⟨rfl, rfl⟩))
      go_ret
      refine ⟨rfl, ?_⟩
      have q0 := hbel.alloc hbel.size (.cells #[.int .u8 (48 + (k : Int))] 5)
      have q1 := q0.trans (b2.mono q0.size)
      have q2 := q1.trans (b3.mono q1.size)
      have q3 := q2.trans (b4.mono q2.size)
      exact q3
set_option maxHeartbeats 3200000 in
theorem whole_short (n k : Nat) (w : World) (n0 : ¬ (n : Int) < 0) (n1 : ¬ 99999999999999 < (n : Int)) (k0 : ¬ (k : Int) < 0) (k1 : ¬ 9 < (k : Int)) (K : UInt8) (hK : (K.toNat : Int) = 48 + (k : Int)) (F : Nat) (hF : floatOfInt .f64 (n : Int) = F) (hFl : F < 18446744073709551616)
    (hlen : ¬ 15 < (dtext n).length + k)
    (r1 : Hid (realF (dtext n) = F)) (r2 : Hid (realF (dtext n ++ [46, 48]) = F)) (r3 : Hid (realF (dtext n ++ [101, 48]) = F)) (r4 : Hid (realF (dtext n ++ List.replicate k 48 ++ [69, 45, (K.toNat : Int)]) = F)) (G : Nat) (hGl : G < 18446744073709551616) (r5 : Hid (realF (dtext n ++ [101, 43, (K.toNat : Int)]) = G)) (r6 : Hid (realF (dtext n ++ List.replicate k 48) = G)) :
    Calls Tryd.prog 5 #[.int .i64 (n : Int), .int .i64 (k : Int)] w fun e w' => e = .returned (.bool true) ∧ Below w.heap.size w w' := by
  have hA := awake3 w
  have hl14 := dtext_length (n := n) (by omega)
  have R1 := Lib.hid (real_at _ _ r1.out (by (try simp); omega))
  have R2 := Lib.hid (real_at _ _ r2.out (by (try simp); omega))
  have R3 := Lib.hid (real_at _ _ r3.out (by (try simp); omega))
  have R4 := Lib.hid (real_at _ _ r4.out (by (try simp); omega))
  have R5 := Lib.hid (real_at _ _ r5.out (by (try simp); omega))
  have R6 := Lib.hid (real_at _ _ r6.out (by (try simp); omega))
  have M1 := fun W : World => same_any F F W hFl hFl
  rw [same_self] at M1
  have M2 := fun W : World => same_any G G W hGl hGl
  rw [same_self] at M2
  have HZ := Lib.hid (ten_by k (by omega))
  have HL := Lib.hid hlen
  have HL14 := Lib.hid hl14
  clear hlen hl14 r1 r2 r3 r4 r5 r6
  go_enter Tryd.func5, Tryd.ntmps5
  try dsimp only [List.append]
  go_wp2_with (go_at_call 10; (with_reducible refine hA.mono ?_); rintro e w1 ⟨rfl, b1⟩)
  go_loopg [6, 7] 15 (fun gf v6 v7 wx => ∃ (S : ByteArray) (m : Nat), v6 = .string S ∧ v7 = .int .i64 (m : Int) ∧ Below w.heap.size w wx ∧ S.size + gf = 15 ∧ m ≤ 99999999999999 ∧ Hid (m < 10 ^ gf) ∧ Hid (WRel n m S))
  case atStart => exact ⟨⟨#[]⟩, n, rfl, rfl, b1, rfl, by omega, Lib.hid (by omega), Lib.hid ⟨fun _ => rfl, fun h => absurd rfl h⟩⟩
  case round =>
    obtain ⟨S, m, rfl, rfl, hbel, hgf, hm9, hmg, hrl⟩ := hrel
    by_cases hgo : m ≠ 0 ∨ S.size = 0
    · obtain ⟨X, hX⟩ := byte_is (48 + (m : Int) % 10) (by omega) (by omega)
      have hcv := one_byte_conv wr X
      rw [hX] at hcv
      have HR := Lib.hid (hrl.out.step hgo X hX)
      have hmg2 := hmg.out
      clear hA R1 R2 R3 M1 HZ hX hrl hmg R4 R5 R6 M2
      cases gk with
      | zero =>
        exfalso
        rw [Nat.pow_zero] at hmg2
        omega
      | succ g =>
        have HM := Lib.hid (show m / 10 < 10 ^ g by rw [Nat.pow_succ] at hmg2; omega)
        clear hmg2
        by_cases hm0 : m = 0
        · have hs0 : S.size = 0 := by omega
          have hem := emp_yes hs0
          subst hm0
          rw [show (48 + ((0 : Nat) : Int) % 10 : Int) = 48 from rfl] at hcv
          clear hgo
          go_wp2
          go_roundg g
          case measure => omega
          case rel => exact ⟨⟨#[X]⟩ ++ S, 0 / 10, rfl, rfl, hbel.alloc hbel.size _, by rw [ByteArray.size_append]; show 1 + S.size + g = 15; omega, by omega, HM, HR⟩
        · have hmm : (0 : Int) < (m : Int) := by omega
          clear hgo
          go_wp2
          go_roundg g
          case measure => omega
          case rel => exact ⟨⟨#[X]⟩ ++ S, m / 10, rfl, by rw [Int.natCast_ediv]; rfl, hbel.alloc hbel.size _, by rw [ByteArray.size_append]; show 1 + S.size + g = 15; omega, by omega, HM, HR⟩
    · have hm0 : m = 0 := by omega
      have hs0 : 0 < S.size := by omega
      subst hm0
      have hem := emp_no hs0
      have HS := Lib.hid (hrl.out.done (by omega))
      have hsl : S.size = (dtext n).length := by rw [← by_length, HS.out]
      have hq : ¬ (15 : Int) < (S.size : Int) + (k : Int) := by have := HL.out; omega
      have hcv := one_byte_conv wr K
      rw [hK] at hcv
      have hs15 : S.size ≤ 15 := by omega
      clear hgo hrl hmg HL HL14 hsl hgf
      go_wp2_with (first
        | (go_at_call 12; (with_reducible refine (R1.out _ _ ?_).mono ?_); (· exact HS.out); rintro e w2 ⟨rfl, b2⟩; clear R1)
        | (go_at_call 12; (with_reducible refine (R2.out _ _ ?_).mono ?_); (· rw [by_append, HS.out]; first | done | rfl); rintro e w3 ⟨rfl, b3⟩; clear R2)
        | (go_at_call 12; (with_reducible refine (R3.out _ _ ?_).mono ?_); (· rw [by_append, HS.out]; first | done | rfl); rintro e w4 ⟨rfl, b4⟩; clear R3)
        | (go_at_call 12; (with_reducible refine (R4.out _ _ ?_).mono ?_); (· rw [by_append, by_append, by_append, HS.out, HZ.out, List.append_assoc (dtext n ++ List.replicate k 48)]; first | done | rfl); rintro e w5 ⟨rfl, b5⟩; clear R4)
        | (go_at_call 12; (with_reducible refine (R5.out _ _ ?_).mono ?_); (· rw [by_append, by_append, HS.out, List.append_assoc]; first | done | rfl); rintro e w6 ⟨rfl, b6⟩; clear R5)
        | (go_at_call 12; (with_reducible refine (R6.out _ _ ?_).mono ?_); (· rw [by_append, HS.out, HZ.out]; first | done | rfl); rintro e w7 ⟨rfl, b7⟩; clear R6)
        | (go_at_call 15; (with_reducible refine (M1 _).mono ?_); rintro e w' ⟨rfl, rfl⟩)
        | (go_at_call 15; (with_reducible refine (M2 _).mono ?_); rintro e w' ⟨rfl, rfl⟩))
      go_ret
      refine ⟨rfl, ?_⟩
      have q0 := hbel.alloc hbel.size (.cells #[.int .u8 (48 + (k : Int))] 5)
      have q1 := q0.trans (b2.mono q0.size)
      have q2 := q1.trans (b3.mono q1.size)
      have q3 := q2.trans (b4.mono q2.size)
      have q4 := q3.trans (b5.mono q3.size)
      have q5 := q4.trans (b6.mono q4.size)
      have q6 := q5.trans (b7.mono q5.size)
      exact q6
theorem whole_all (n k : Int) (w : World) : Calls Tryd.prog 5 #[.int .i64 n, .int .i64 k] w fun e w' => e = .returned (.bool true) ∧ Below w.heap.size w w' := by
  by_cases h1 : n < 0
  · exact whole_out_a n k w h1
  by_cases h2 : 99999999999999 < n
  · exact whole_out_b n k w h1 h2
  by_cases h3 : k < 0
  · exact whole_out_c n k w h1 h2 h3
  by_cases h4 : 9 < k
  · exact whole_out_d n k w h1 h2 h3 h4
  obtain ⟨n, rfl⟩ : ∃ j : Nat, n = j := ⟨n.toNat, by omega⟩
  obtain ⟨k, rfl⟩ : ∃ j : Nat, k = j := ⟨k.toNat, by omega⟩
  obtain ⟨K, hK⟩ := byte_is (48 + (k : Int)) (by omega) (by omega)
  have hl14 := dtext_length (n := n) (by omega)
  have r1 := whole_1 n 0 (by omega)
  rw [rep_zero, List.append_nil, Nat.pow_zero, Nat.mul_one] at r1
  have hFl : ofI (n : Int) < 18446744073709551616 := by rw [← r1]; exact realF_lt _
  have r2 := whole_2 n hl14
  have r3 := whole_3 n hl14
  by_cases hq : 15 < (dtext n).length + k
  · exact whole_long n k w h1 h2 h3 h4 K hK _ rfl hFl hq (Lib.hid r1) (Lib.hid r2) (Lib.hid r3)
  · have r4 := whole_4 n k (by omega) (by omega)
    have r5 := whole_5 n k (by omega) (by omega)
    have r6 := whole_1 n k (by omega)
    have hGl : ofI ((n * 10 ^ k : Nat) : Int) < 18446744073709551616 := by rw [← r6]; exact realF_lt _
    rw [← hK] at r4 r5
    exact whole_short n k w h1 h2 h3 h4 K hK _ rfl hFl hq (Lib.hid r1) (Lib.hid r2) (Lib.hid r3) (Lib.hid r4) _ hGl (Lib.hid r5) (Lib.hid r6)
end Go.Proofs.YtchbmihhkjpkaaaDoor.G
