/-
  The law RealZeros: its walk. (Printed by gen_c11.py.)
-/
import Derived.Test.YtchbmihhkjpkaaaDoorC9
import Derived.Test.YtchbmihhkjpkaaaDoorRX2
namespace Go.Proofs.YtchbmihhkjpkaaaDoor.G
open Go.RowKit Go.Proofs.YtchbmihhkjpkaaaDoorW.PrintWords Go.Proofs.YtchbmihhkjpkaaaDoor.M
set_option linter.unusedVariables false
set_option linter.unusedSimpArgs false

theorem zeros_row : ∀ n : Fin 21, by_ ((⟨#[48, 48, 48, 48, 48, 48, 48, 48, 48, 48, 48, 48, 48, 48, 48, 48, 48, 48, 48, 48]⟩ : ByteArray).extract 0 n.val) = List.replicate n.val 48 := by decide +kernel
theorem zeros_by (n : Nat) (h : n ≤ 20) : by_ ((⟨#[48, 48, 48, 48, 48, 48, 48, 48, 48, 48, 48, 48, 48, 48, 48, 48, 48, 48, 48, 48]⟩ : ByteArray).extract 0 n) = List.replicate n 48 := zeros_row ⟨n, by omega⟩
/-- The text of zeros. -/
def ZT (n m : Nat) (e : List Int) : List Int := List.replicate n 48 ++ ((if 0 < m then 46 :: List.replicate m 48 else []) ++ (if e = [] then [] else 101 :: e))
theorem zt_val (n m : Nat) (hn : 1 ≤ n) (e : List Int) (he : Digs e) : realF (ZT n m e) = 0 ∧ realF (45 :: ZT n m e) = 9223372036854775808 := by
  have h := law_zeros n m hn e he
  have hd : (ZT n m e).head? ≠ some 45 := by
    unfold ZT
    cases n with
    | zero => omega
    | succ n => rw [List.replicate_succ]; intro q; cases q
  have hs : rval (ZT n m e) = .zero := h
  rw [real_plain hd, real_minus, hs]
  exact ⟨by decide, by decide⟩
/-- A text of zeros for Real. -/
def ZOk (s : ByteArray) (T : List Int) : Prop := by_ s = T
theorem zok_len {s : ByteArray} {n m : Nat} {e : List Int} (b : Bool) (h : ZOk s (if b = true then 45 :: ZT n m e else ZT n m e)) (hn : n ≤ 20) (hm : m ≤ 20) (he : e.length ≤ 30) : s.size ≤ 140737488351232 := by
  have hl := by_length s
  unfold ZOk at h
  rw [h] at hl
  have : (ZT n m e).length ≤ 100 := by
    unfold ZT
    rw [List.length_append, List.length_append, List.length_replicate]
    split <;> split <;> simp <;> omega
  split at hl
  · rw [List.length_cons] at hl; omega
  · omega
theorem real_z (n m : Nat) (hn : 1 ≤ n) (hn2 : n ≤ 20) (hm : m ≤ 20) (e : List Int) (hl : e.length ≤ 30) (he : Digs e) (b : Bool) (s : ByteArray) (W : World) (h : ZOk s (if b = true then 45 :: ZT n m e else ZT n m e)) :
    Calls Tryd.prog 12 #[.string s] W fun e w' => e = .returned (.float .f64 (if b = true then 9223372036854775808 else 0)) ∧ Below W.heap.size W w' := by
  have hr := real_any s W (zok_len b h hn2 hm hl)
  unfold ZOk at h
  rw [h] at hr
  obtain ⟨h1, h2⟩ := zt_val n m hn e he
  cases b with
  | true => rw [if_pos rfl, h2] at hr; rw [if_pos rfl]; exact hr
  | false => rw [if_neg (by decide), h1] at hr; rw [if_neg (by decide)]; exact hr
theorem bt_digs {e : ByteArray} (h : ∀ k : Nat, k < e.size → 48 ≤ bt e k ∧ bt e k ≤ 57) : Digs (by_ e) := by
  intro c hc
  obtain ⟨k, hk⟩ := List.mem_iff_getElem?.1 hc
  have hl := (List.getElem?_eq_some_iff.1 hk).1
  rw [by_length] at hl
  have hb := bt_by e k (by simpa using hl)
  rw [Int.toNat_natCast, hk] at hb
  rw [Option.some.inj hb]
  exact h k hl
theorem emp_yes {a : ByteArray} (h : a.size = 0) : a.toList.isEmpty = true := by
  have : a.toList = [] := by rw [ByteArray.toList_eq]; exact List.length_eq_zero_iff.1 h
  rw [this]; rfl
theorem emp_no {a : ByteArray} (h : 0 < a.size) : a.toList.isEmpty = false := by
  have : 0 < a.toList.length := by rw [ByteArray.toList_eq]; exact h
  cases hl : a.toList with
  | nil => rw [hl] at this; exact absurd this (by decide)
  | cons x l => rfl
set_option maxHeartbeats 800000 in
theorem zeros_out_a (n m : Int) (minus : Bool) (e : ByteArray) (w : World) (h1 : n < 1) : Calls Tryd.prog 7 #[.int .i64 n, .int .i64 m, .bool minus, .string e] w fun e w' => e = .returned (.bool true) ∧ Below w.heap.size w w' := by
  have hA := awake3 w
  go_enter Tryd.func7, Tryd.ntmps7
  go_wp2_with (go_at_call 10; (with_reducible refine hA.mono ?_); rintro e w1 ⟨rfl, b1⟩)
  go_ret
  exact ⟨rfl, b1⟩
set_option maxHeartbeats 800000 in
theorem zeros_out_b (n m : Int) (minus : Bool) (e : ByteArray) (w : World) (h0 : ¬ n < 1) (h1 : 20 < n) : Calls Tryd.prog 7 #[.int .i64 n, .int .i64 m, .bool minus, .string e] w fun e w' => e = .returned (.bool true) ∧ Below w.heap.size w w' := by
  have hA := awake3 w
  go_enter Tryd.func7, Tryd.ntmps7
  go_wp2_with (go_at_call 10; (with_reducible refine hA.mono ?_); rintro e w1 ⟨rfl, b1⟩)
  go_ret
  exact ⟨rfl, b1⟩
set_option maxHeartbeats 800000 in
theorem zeros_out_c (n m : Int) (minus : Bool) (e : ByteArray) (w : World) (h0 : ¬ n < 1) (h2 : ¬ 20 < n) (h1 : m < 0) : Calls Tryd.prog 7 #[.int .i64 n, .int .i64 m, .bool minus, .string e] w fun e w' => e = .returned (.bool true) ∧ Below w.heap.size w w' := by
  have hA := awake3 w
  go_enter Tryd.func7, Tryd.ntmps7
  go_wp2_with (go_at_call 10; (with_reducible refine hA.mono ?_); rintro e w1 ⟨rfl, b1⟩)
  go_ret
  exact ⟨rfl, b1⟩
set_option maxHeartbeats 800000 in
theorem zeros_out_d (n m : Int) (minus : Bool) (e : ByteArray) (w : World) (h0 : ¬ n < 1) (h2 : ¬ 20 < n) (h3 : ¬ m < 0) (h1 : 20 < m) : Calls Tryd.prog 7 #[.int .i64 n, .int .i64 m, .bool minus, .string e] w fun e w' => e = .returned (.bool true) ∧ Below w.heap.size w w' := by
  have hA := awake3 w
  go_enter Tryd.func7, Tryd.ntmps7
  go_wp2_with (go_at_call 10; (with_reducible refine hA.mono ?_); rintro e w1 ⟨rfl, b1⟩)
  go_ret
  exact ⟨rfl, b1⟩
set_option maxHeartbeats 800000 in
theorem zeros_out_e (n m : Int) (minus : Bool) (e : ByteArray) (w : World) (h0 : ¬ n < 1) (h2 : ¬ 20 < n) (h3 : ¬ m < 0) (h4 : ¬ 20 < m) (h1 : (30 : Int) < (e.size : Int)) : Calls Tryd.prog 7 #[.int .i64 n, .int .i64 m, .bool minus, .string e] w fun e w' => e = .returned (.bool true) ∧ Below w.heap.size w w' := by
  have hA := awake3 w
  go_enter Tryd.func7, Tryd.ntmps7
  go_wp2_with (go_at_call 10; (with_reducible refine hA.mono ?_); rintro e w1 ⟨rfl, b1⟩)
  go_ret
  exact ⟨rfl, b1⟩
set_option maxHeartbeats 3200000 in
theorem zeros_000 (n : Nat) (e : ByteArray) (w : World) (n1 : ¬ (n : Int) < 1) (n2 : ¬ (20 : Int) < (n : Int)) (l1 : ¬ (30 : Int) < (e.size : Int)) (z0 : e.toList.isEmpty = true) (z1 : e.size = 0)
    : Calls Tryd.prog 7 #[.int .i64 n, .int .i64 0, .bool false, .string e] w fun e w' => e = .returned (.bool true) ∧ Below w.heap.size w w' := by
  have hA := awake3 w
  have zS := fun (W : World) => sort_any 0 W (by decide)
  have zN := fun (W : World) => neg_any 0 W (by decide)
  rw [show sortF 0 = 2 by decide +kernel] at zS
  rw [show negF 0 = false by decide +kernel] at zN
  have zE : (FloatKind.f64.format.order 0 0 == some Ordering.eq) = true := by decide +kernel
  go_enter Tryd.func7, Tryd.ntmps7
  go_wp2_with (go_at_call 10; (with_reducible refine hA.mono ?_); rintro e w1 ⟨rfl, b1⟩)
  go_loopg [10] e.size (fun gf s6 wx => wx = w1 ∧ ∃ j : Nat, s6 = .int .i64 j ∧ j + gf = e.size ∧ Hid (∀ k : Nat, k < j → 48 ≤ bt e k ∧ bt e k ≤ 57))
  case atStart => exact ⟨rfl, 0, rfl, by omega, Lib.hid (fun k hk => by omega)⟩
  case round =>
    obtain ⟨rfl, j, rfl, hj, HN⟩ := hrel
    cases gk with
    | zero =>
      obtain rfl : j = e.size := by omega
      have HD := Lib.hid (bt_digs HN.out)
      clear HN hA
      have hR := Lib.hid (real_z n (0 : Nat) (by omega) (by omega) (by omega) (by_ e) (by rw [by_length]; omega) HD.out false)
      have hK : ∀ s : ByteArray, by_ s = ZT n (0 : Nat) (by_ e) → ZOk s (if false = true then 45 :: ZT n (0 : Nat) (by_ e) else ZT n (0 : Nat) (by_ e)) := fun s h => h
      have hZ : ZT n (0 : Nat) (by_ e) = List.replicate n 48 ++ ([] ++ []) := by
        unfold ZT
        rw [if_neg (by decide), if_pos (List.eq_nil_of_length_eq_zero (by rw [by_length]; exact z1))]
      clear hj
      go_wp2_with (first
        | (go_at_call 12; (with_reducible refine (hR.out _ _ (hK _ ?_)).mono ?_); (· rw [hZ]; simp [by_append, zeros_by n (by omega)]; try rfl); rintro e w2 ⟨rfl, b2⟩)
        | (go_at_call 16; (with_reducible refine (zS _).mono ?_); rintro e w' ⟨rfl, rfl⟩)
        | (go_at_call 18; (with_reducible refine (zN _).mono ?_); rintro e w' ⟨rfl, rfl⟩))
      go_ret
      exact ⟨rfl, b1.trans (b2.mono b1.size)⟩
    | succ g => exact absurd hj (by omega)
set_option maxHeartbeats 3200000 in
theorem zeros_001 (n : Nat) (e : ByteArray) (w : World) (n1 : ¬ (n : Int) < 1) (n2 : ¬ (20 : Int) < (n : Int)) (l1 : ¬ (30 : Int) < (e.size : Int)) (z0 : e.toList.isEmpty = true) (z1 : e.size = 0)
    : Calls Tryd.prog 7 #[.int .i64 n, .int .i64 0, .bool true, .string e] w fun e w' => e = .returned (.bool true) ∧ Below w.heap.size w w' := by
  have hA := awake3 w
  have zS := fun (W : World) => sort_any 9223372036854775808 W (by decide)
  have zN := fun (W : World) => neg_any 9223372036854775808 W (by decide)
  rw [show sortF 9223372036854775808 = 2 by decide +kernel] at zS
  rw [show negF 9223372036854775808 = true by decide +kernel] at zN
  have zE : (FloatKind.f64.format.order 9223372036854775808 0 == some Ordering.eq) = true := by decide +kernel
  go_enter Tryd.func7, Tryd.ntmps7
  go_wp2_with (go_at_call 10; (with_reducible refine hA.mono ?_); rintro e w1 ⟨rfl, b1⟩)
  go_loopg [10] e.size (fun gf s6 wx => wx = w1 ∧ ∃ j : Nat, s6 = .int .i64 j ∧ j + gf = e.size ∧ Hid (∀ k : Nat, k < j → 48 ≤ bt e k ∧ bt e k ≤ 57))
  case atStart => exact ⟨rfl, 0, rfl, by omega, Lib.hid (fun k hk => by omega)⟩
  case round =>
    obtain ⟨rfl, j, rfl, hj, HN⟩ := hrel
    cases gk with
    | zero =>
      obtain rfl : j = e.size := by omega
      have HD := Lib.hid (bt_digs HN.out)
      clear HN hA
      have hR := Lib.hid (real_z n (0 : Nat) (by omega) (by omega) (by omega) (by_ e) (by rw [by_length]; omega) HD.out true)
      have hK : ∀ s : ByteArray, by_ s = 45 :: ZT n (0 : Nat) (by_ e) → ZOk s (if true = true then 45 :: ZT n (0 : Nat) (by_ e) else ZT n (0 : Nat) (by_ e)) := fun s h => h
      have hZ : ZT n (0 : Nat) (by_ e) = List.replicate n 48 ++ ([] ++ []) := by
        unfold ZT
        rw [if_neg (by decide), if_pos (List.eq_nil_of_length_eq_zero (by rw [by_length]; exact z1))]
      clear hj
      go_wp2_with (first
        | (go_at_call 12; (with_reducible refine (hR.out _ _ (hK _ ?_)).mono ?_); (· rw [hZ]; simp [by_append, zeros_by n (by omega)]; try rfl); rintro e w2 ⟨rfl, b2⟩)
        | (go_at_call 16; (with_reducible refine (zS _).mono ?_); rintro e w' ⟨rfl, rfl⟩)
        | (go_at_call 18; (with_reducible refine (zN _).mono ?_); rintro e w' ⟨rfl, rfl⟩))
      go_ret
      exact ⟨rfl, b1.trans (b2.mono b1.size)⟩
    | succ g => exact absurd hj (by omega)
set_option maxHeartbeats 3200000 in
theorem zeros_010 (n : Nat) (e : ByteArray) (w : World) (n1 : ¬ (n : Int) < 1) (n2 : ¬ (20 : Int) < (n : Int)) (l1 : ¬ (30 : Int) < (e.size : Int)) (z0 : e.toList.isEmpty = false) (z1 : 0 < e.size)
    : Calls Tryd.prog 7 #[.int .i64 n, .int .i64 0, .bool false, .string e] w fun e w' => e = .returned (.bool true) ∧ Below w.heap.size w w' := by
  have hA := awake3 w
  have zS := fun (W : World) => sort_any 0 W (by decide)
  have zN := fun (W : World) => neg_any 0 W (by decide)
  rw [show sortF 0 = 2 by decide +kernel] at zS
  rw [show negF 0 = false by decide +kernel] at zN
  have zE : (FloatKind.f64.format.order 0 0 == some Ordering.eq) = true := by decide +kernel
  go_enter Tryd.func7, Tryd.ntmps7
  go_wp2_with (go_at_call 10; (with_reducible refine hA.mono ?_); rintro e w1 ⟨rfl, b1⟩)
  go_loopg [10] e.size (fun gf s6 wx => wx = w1 ∧ ∃ j : Nat, s6 = .int .i64 j ∧ j + gf = e.size ∧ Hid (∀ k : Nat, k < j → 48 ≤ bt e k ∧ bt e k ≤ 57))
  case atStart => exact ⟨rfl, 0, rfl, by omega, Lib.hid (fun k hk => by omega)⟩
  case round =>
    obtain ⟨rfl, j, rfl, hj, HN⟩ := hrel
    cases gk with
    | zero =>
      obtain rfl : j = e.size := by omega
      have HD := Lib.hid (bt_digs HN.out)
      clear HN hA
      have hR := Lib.hid (real_z n (0 : Nat) (by omega) (by omega) (by omega) (by_ e) (by rw [by_length]; omega) HD.out false)
      have hK : ∀ s : ByteArray, by_ s = ZT n (0 : Nat) (by_ e) → ZOk s (if false = true then 45 :: ZT n (0 : Nat) (by_ e) else ZT n (0 : Nat) (by_ e)) := fun s h => h
      have hZ : ZT n (0 : Nat) (by_ e) = List.replicate n 48 ++ ([] ++ 101 :: by_ e) := by
        unfold ZT
        rw [if_neg (by decide), if_neg (by intro q; have := by_length e; rw [q] at this; simp at this; omega)]
      clear hj
      go_wp2_with (first
        | (go_at_call 12; (with_reducible refine (hR.out _ _ (hK _ ?_)).mono ?_); (· rw [hZ]; simp [by_append, zeros_by n (by omega)]; try rfl); rintro e w2 ⟨rfl, b2⟩)
        | (go_at_call 16; (with_reducible refine (zS _).mono ?_); rintro e w' ⟨rfl, rfl⟩)
        | (go_at_call 18; (with_reducible refine (zN _).mono ?_); rintro e w' ⟨rfl, rfl⟩))
      go_ret
      exact ⟨rfl, b1.trans (b2.mono b1.size)⟩
    | succ g =>
      have hi : j < e.size := by omega
      have hat : ∀ h : j < e.size, (((e[j]'h).toNat : Nat) : Int) = bt e (j : Int) := fun h => bt_at e j h
      clear hA zS zN zE
      by_cases c1 : bt e (j : Int) < 48
      · obtain ⟨x, hx⟩ : ∃ x, bt e (j : Int) = x := ⟨_, rfl⟩
        rw [hx] at c1
        simp only [hx] at hat
        clear hx HN
        go_wp2
        go_ret
        exact ⟨rfl, b1⟩
      by_cases c2 : 57 < bt e (j : Int)
      · obtain ⟨x, hx⟩ : ∃ x, bt e (j : Int) = x := ⟨_, rfl⟩
        rw [hx] at c1 c2
        simp only [hx] at hat
        clear hx HN
        go_wp2
        go_ret
        exact ⟨rfl, b1⟩
      have HN2 : Hid (∀ k : Nat, k < j + 1 → 48 ≤ bt e k ∧ bt e k ≤ 57) := Lib.hid (fun k hk => by
        by_cases hkj : k = j
        · subst hkj; exact ⟨by omega, by omega⟩
        · exact HN.out k (by omega))
      obtain ⟨x, hx⟩ : ∃ x, bt e (j : Int) = x := ⟨_, rfl⟩
      rw [hx] at c1 c2
      simp only [hx] at hat
      clear hx HN
      go_wp2
      go_roundg g
      case measure => omega
      case rel => exact ⟨rfl, j + 1, rfl, by omega, HN2⟩
set_option maxHeartbeats 3200000 in
theorem zeros_011 (n : Nat) (e : ByteArray) (w : World) (n1 : ¬ (n : Int) < 1) (n2 : ¬ (20 : Int) < (n : Int)) (l1 : ¬ (30 : Int) < (e.size : Int)) (z0 : e.toList.isEmpty = false) (z1 : 0 < e.size)
    : Calls Tryd.prog 7 #[.int .i64 n, .int .i64 0, .bool true, .string e] w fun e w' => e = .returned (.bool true) ∧ Below w.heap.size w w' := by
  have hA := awake3 w
  have zS := fun (W : World) => sort_any 9223372036854775808 W (by decide)
  have zN := fun (W : World) => neg_any 9223372036854775808 W (by decide)
  rw [show sortF 9223372036854775808 = 2 by decide +kernel] at zS
  rw [show negF 9223372036854775808 = true by decide +kernel] at zN
  have zE : (FloatKind.f64.format.order 9223372036854775808 0 == some Ordering.eq) = true := by decide +kernel
  go_enter Tryd.func7, Tryd.ntmps7
  go_wp2_with (go_at_call 10; (with_reducible refine hA.mono ?_); rintro e w1 ⟨rfl, b1⟩)
  go_loopg [10] e.size (fun gf s6 wx => wx = w1 ∧ ∃ j : Nat, s6 = .int .i64 j ∧ j + gf = e.size ∧ Hid (∀ k : Nat, k < j → 48 ≤ bt e k ∧ bt e k ≤ 57))
  case atStart => exact ⟨rfl, 0, rfl, by omega, Lib.hid (fun k hk => by omega)⟩
  case round =>
    obtain ⟨rfl, j, rfl, hj, HN⟩ := hrel
    cases gk with
    | zero =>
      obtain rfl : j = e.size := by omega
      have HD := Lib.hid (bt_digs HN.out)
      clear HN hA
      have hR := Lib.hid (real_z n (0 : Nat) (by omega) (by omega) (by omega) (by_ e) (by rw [by_length]; omega) HD.out true)
      have hK : ∀ s : ByteArray, by_ s = 45 :: ZT n (0 : Nat) (by_ e) → ZOk s (if true = true then 45 :: ZT n (0 : Nat) (by_ e) else ZT n (0 : Nat) (by_ e)) := fun s h => h
      have hZ : ZT n (0 : Nat) (by_ e) = List.replicate n 48 ++ ([] ++ 101 :: by_ e) := by
        unfold ZT
        rw [if_neg (by decide), if_neg (by intro q; have := by_length e; rw [q] at this; simp at this; omega)]
      clear hj
      go_wp2_with (first
        | (go_at_call 12; (with_reducible refine (hR.out _ _ (hK _ ?_)).mono ?_); (· rw [hZ]; simp [by_append, zeros_by n (by omega)]; try rfl); rintro e w2 ⟨rfl, b2⟩)
        | (go_at_call 16; (with_reducible refine (zS _).mono ?_); rintro e w' ⟨rfl, rfl⟩)
        | (go_at_call 18; (with_reducible refine (zN _).mono ?_); rintro e w' ⟨rfl, rfl⟩))
      go_ret
      exact ⟨rfl, b1.trans (b2.mono b1.size)⟩
    | succ g =>
      have hi : j < e.size := by omega
      have hat : ∀ h : j < e.size, (((e[j]'h).toNat : Nat) : Int) = bt e (j : Int) := fun h => bt_at e j h
      clear hA zS zN zE
      by_cases c1 : bt e (j : Int) < 48
      · obtain ⟨x, hx⟩ : ∃ x, bt e (j : Int) = x := ⟨_, rfl⟩
        rw [hx] at c1
        simp only [hx] at hat
        clear hx HN
        go_wp2
        go_ret
        exact ⟨rfl, b1⟩
      by_cases c2 : 57 < bt e (j : Int)
      · obtain ⟨x, hx⟩ : ∃ x, bt e (j : Int) = x := ⟨_, rfl⟩
        rw [hx] at c1 c2
        simp only [hx] at hat
        clear hx HN
        go_wp2
        go_ret
        exact ⟨rfl, b1⟩
      have HN2 : Hid (∀ k : Nat, k < j + 1 → 48 ≤ bt e k ∧ bt e k ≤ 57) := Lib.hid (fun k hk => by
        by_cases hkj : k = j
        · subst hkj; exact ⟨by omega, by omega⟩
        · exact HN.out k (by omega))
      obtain ⟨x, hx⟩ : ∃ x, bt e (j : Int) = x := ⟨_, rfl⟩
      rw [hx] at c1 c2
      simp only [hx] at hat
      clear hx HN
      go_wp2
      go_roundg g
      case measure => omega
      case rel => exact ⟨rfl, j + 1, rfl, by omega, HN2⟩
set_option maxHeartbeats 3200000 in
theorem zeros_100 (n m : Nat) (e : ByteArray) (w : World) (n1 : ¬ (n : Int) < 1) (n2 : ¬ (20 : Int) < (n : Int)) (l1 : ¬ (30 : Int) < (e.size : Int)) (m1 : ¬ (m : Int) < 0) (m2 : ¬ (20 : Int) < (m : Int)) (m3 : (0 : Int) < (m : Int)) (z0 : e.toList.isEmpty = true) (z1 : e.size = 0)
    : Calls Tryd.prog 7 #[.int .i64 n, .int .i64 (m : Int), .bool false, .string e] w fun e w' => e = .returned (.bool true) ∧ Below w.heap.size w w' := by
  have hA := awake3 w
  have zS := fun (W : World) => sort_any 0 W (by decide)
  have zN := fun (W : World) => neg_any 0 W (by decide)
  rw [show sortF 0 = 2 by decide +kernel] at zS
  rw [show negF 0 = false by decide +kernel] at zN
  have zE : (FloatKind.f64.format.order 0 0 == some Ordering.eq) = true := by decide +kernel
  go_enter Tryd.func7, Tryd.ntmps7
  go_wp2_with (go_at_call 10; (with_reducible refine hA.mono ?_); rintro e w1 ⟨rfl, b1⟩)
  go_loopg [10] e.size (fun gf s6 wx => wx = w1 ∧ ∃ j : Nat, s6 = .int .i64 j ∧ j + gf = e.size ∧ Hid (∀ k : Nat, k < j → 48 ≤ bt e k ∧ bt e k ≤ 57))
  case atStart => exact ⟨rfl, 0, rfl, by omega, Lib.hid (fun k hk => by omega)⟩
  case round =>
    obtain ⟨rfl, j, rfl, hj, HN⟩ := hrel
    cases gk with
    | zero =>
      obtain rfl : j = e.size := by omega
      have HD := Lib.hid (bt_digs HN.out)
      clear HN hA
      have hR := Lib.hid (real_z n m (by omega) (by omega) (by omega) (by_ e) (by rw [by_length]; omega) HD.out false)
      have hK : ∀ s : ByteArray, by_ s = ZT n m (by_ e) → ZOk s (if false = true then 45 :: ZT n m (by_ e) else ZT n m (by_ e)) := fun s h => h
      have hZ : ZT n m (by_ e) = List.replicate n 48 ++ (46 :: List.replicate m 48 ++ []) := by
        unfold ZT
        rw [if_pos (by omega), if_pos (List.eq_nil_of_length_eq_zero (by rw [by_length]; exact z1))]
      clear hj
      go_wp2_with (first
        | (go_at_call 12; (with_reducible refine (hR.out _ _ (hK _ ?_)).mono ?_); (· rw [hZ]; simp [by_append, zeros_by n (by omega), zeros_by m (by omega)]; try rfl); rintro e w2 ⟨rfl, b2⟩)
        | (go_at_call 16; (with_reducible refine (zS _).mono ?_); rintro e w' ⟨rfl, rfl⟩)
        | (go_at_call 18; (with_reducible refine (zN _).mono ?_); rintro e w' ⟨rfl, rfl⟩))
      go_ret
      exact ⟨rfl, b1.trans (b2.mono b1.size)⟩
    | succ g => exact absurd hj (by omega)
set_option maxHeartbeats 3200000 in
theorem zeros_101 (n m : Nat) (e : ByteArray) (w : World) (n1 : ¬ (n : Int) < 1) (n2 : ¬ (20 : Int) < (n : Int)) (l1 : ¬ (30 : Int) < (e.size : Int)) (m1 : ¬ (m : Int) < 0) (m2 : ¬ (20 : Int) < (m : Int)) (m3 : (0 : Int) < (m : Int)) (z0 : e.toList.isEmpty = true) (z1 : e.size = 0)
    : Calls Tryd.prog 7 #[.int .i64 n, .int .i64 (m : Int), .bool true, .string e] w fun e w' => e = .returned (.bool true) ∧ Below w.heap.size w w' := by
  have hA := awake3 w
  have zS := fun (W : World) => sort_any 9223372036854775808 W (by decide)
  have zN := fun (W : World) => neg_any 9223372036854775808 W (by decide)
  rw [show sortF 9223372036854775808 = 2 by decide +kernel] at zS
  rw [show negF 9223372036854775808 = true by decide +kernel] at zN
  have zE : (FloatKind.f64.format.order 9223372036854775808 0 == some Ordering.eq) = true := by decide +kernel
  go_enter Tryd.func7, Tryd.ntmps7
  go_wp2_with (go_at_call 10; (with_reducible refine hA.mono ?_); rintro e w1 ⟨rfl, b1⟩)
  go_loopg [10] e.size (fun gf s6 wx => wx = w1 ∧ ∃ j : Nat, s6 = .int .i64 j ∧ j + gf = e.size ∧ Hid (∀ k : Nat, k < j → 48 ≤ bt e k ∧ bt e k ≤ 57))
  case atStart => exact ⟨rfl, 0, rfl, by omega, Lib.hid (fun k hk => by omega)⟩
  case round =>
    obtain ⟨rfl, j, rfl, hj, HN⟩ := hrel
    cases gk with
    | zero =>
      obtain rfl : j = e.size := by omega
      have HD := Lib.hid (bt_digs HN.out)
      clear HN hA
      have hR := Lib.hid (real_z n m (by omega) (by omega) (by omega) (by_ e) (by rw [by_length]; omega) HD.out true)
      have hK : ∀ s : ByteArray, by_ s = 45 :: ZT n m (by_ e) → ZOk s (if true = true then 45 :: ZT n m (by_ e) else ZT n m (by_ e)) := fun s h => h
      have hZ : ZT n m (by_ e) = List.replicate n 48 ++ (46 :: List.replicate m 48 ++ []) := by
        unfold ZT
        rw [if_pos (by omega), if_pos (List.eq_nil_of_length_eq_zero (by rw [by_length]; exact z1))]
      clear hj
      go_wp2_with (first
        | (go_at_call 12; (with_reducible refine (hR.out _ _ (hK _ ?_)).mono ?_); (· rw [hZ]; simp [by_append, zeros_by n (by omega), zeros_by m (by omega)]; try rfl); rintro e w2 ⟨rfl, b2⟩)
        | (go_at_call 16; (with_reducible refine (zS _).mono ?_); rintro e w' ⟨rfl, rfl⟩)
        | (go_at_call 18; (with_reducible refine (zN _).mono ?_); rintro e w' ⟨rfl, rfl⟩))
      go_ret
      exact ⟨rfl, b1.trans (b2.mono b1.size)⟩
    | succ g => exact absurd hj (by omega)
set_option maxHeartbeats 3200000 in
theorem zeros_110 (n m : Nat) (e : ByteArray) (w : World) (n1 : ¬ (n : Int) < 1) (n2 : ¬ (20 : Int) < (n : Int)) (l1 : ¬ (30 : Int) < (e.size : Int)) (m1 : ¬ (m : Int) < 0) (m2 : ¬ (20 : Int) < (m : Int)) (m3 : (0 : Int) < (m : Int)) (z0 : e.toList.isEmpty = false) (z1 : 0 < e.size)
    : Calls Tryd.prog 7 #[.int .i64 n, .int .i64 (m : Int), .bool false, .string e] w fun e w' => e = .returned (.bool true) ∧ Below w.heap.size w w' := by
  have hA := awake3 w
  have zS := fun (W : World) => sort_any 0 W (by decide)
  have zN := fun (W : World) => neg_any 0 W (by decide)
  rw [show sortF 0 = 2 by decide +kernel] at zS
  rw [show negF 0 = false by decide +kernel] at zN
  have zE : (FloatKind.f64.format.order 0 0 == some Ordering.eq) = true := by decide +kernel
  go_enter Tryd.func7, Tryd.ntmps7
  go_wp2_with (go_at_call 10; (with_reducible refine hA.mono ?_); rintro e w1 ⟨rfl, b1⟩)
  go_loopg [10] e.size (fun gf s6 wx => wx = w1 ∧ ∃ j : Nat, s6 = .int .i64 j ∧ j + gf = e.size ∧ Hid (∀ k : Nat, k < j → 48 ≤ bt e k ∧ bt e k ≤ 57))
  case atStart => exact ⟨rfl, 0, rfl, by omega, Lib.hid (fun k hk => by omega)⟩
  case round =>
    obtain ⟨rfl, j, rfl, hj, HN⟩ := hrel
    cases gk with
    | zero =>
      obtain rfl : j = e.size := by omega
      have HD := Lib.hid (bt_digs HN.out)
      clear HN hA
      have hR := Lib.hid (real_z n m (by omega) (by omega) (by omega) (by_ e) (by rw [by_length]; omega) HD.out false)
      have hK : ∀ s : ByteArray, by_ s = ZT n m (by_ e) → ZOk s (if false = true then 45 :: ZT n m (by_ e) else ZT n m (by_ e)) := fun s h => h
      have hZ : ZT n m (by_ e) = List.replicate n 48 ++ (46 :: List.replicate m 48 ++ 101 :: by_ e) := by
        unfold ZT
        rw [if_pos (by omega), if_neg (by intro q; have := by_length e; rw [q] at this; simp at this; omega)]
      clear hj
      go_wp2_with (first
        | (go_at_call 12; (with_reducible refine (hR.out _ _ (hK _ ?_)).mono ?_); (· rw [hZ]; simp [by_append, zeros_by n (by omega), zeros_by m (by omega)]; try rfl); rintro e w2 ⟨rfl, b2⟩)
        | (go_at_call 16; (with_reducible refine (zS _).mono ?_); rintro e w' ⟨rfl, rfl⟩)
        | (go_at_call 18; (with_reducible refine (zN _).mono ?_); rintro e w' ⟨rfl, rfl⟩))
      go_ret
      exact ⟨rfl, b1.trans (b2.mono b1.size)⟩
    | succ g =>
      have hi : j < e.size := by omega
      have hat : ∀ h : j < e.size, (((e[j]'h).toNat : Nat) : Int) = bt e (j : Int) := fun h => bt_at e j h
      clear hA zS zN zE
      by_cases c1 : bt e (j : Int) < 48
      · obtain ⟨x, hx⟩ : ∃ x, bt e (j : Int) = x := ⟨_, rfl⟩
        rw [hx] at c1
        simp only [hx] at hat
        clear hx HN
        go_wp2
        go_ret
        exact ⟨rfl, b1⟩
      by_cases c2 : 57 < bt e (j : Int)
      · obtain ⟨x, hx⟩ : ∃ x, bt e (j : Int) = x := ⟨_, rfl⟩
        rw [hx] at c1 c2
        simp only [hx] at hat
        clear hx HN
        go_wp2
        go_ret
        exact ⟨rfl, b1⟩
      have HN2 : Hid (∀ k : Nat, k < j + 1 → 48 ≤ bt e k ∧ bt e k ≤ 57) := Lib.hid (fun k hk => by
        by_cases hkj : k = j
        · subst hkj; exact ⟨by omega, by omega⟩
        · exact HN.out k (by omega))
      obtain ⟨x, hx⟩ : ∃ x, bt e (j : Int) = x := ⟨_, rfl⟩
      rw [hx] at c1 c2
      simp only [hx] at hat
      clear hx HN
      go_wp2
      go_roundg g
      case measure => omega
      case rel => exact ⟨rfl, j + 1, rfl, by omega, HN2⟩
set_option maxHeartbeats 3200000 in
theorem zeros_111 (n m : Nat) (e : ByteArray) (w : World) (n1 : ¬ (n : Int) < 1) (n2 : ¬ (20 : Int) < (n : Int)) (l1 : ¬ (30 : Int) < (e.size : Int)) (m1 : ¬ (m : Int) < 0) (m2 : ¬ (20 : Int) < (m : Int)) (m3 : (0 : Int) < (m : Int)) (z0 : e.toList.isEmpty = false) (z1 : 0 < e.size)
    : Calls Tryd.prog 7 #[.int .i64 n, .int .i64 (m : Int), .bool true, .string e] w fun e w' => e = .returned (.bool true) ∧ Below w.heap.size w w' := by
  have hA := awake3 w
  have zS := fun (W : World) => sort_any 9223372036854775808 W (by decide)
  have zN := fun (W : World) => neg_any 9223372036854775808 W (by decide)
  rw [show sortF 9223372036854775808 = 2 by decide +kernel] at zS
  rw [show negF 9223372036854775808 = true by decide +kernel] at zN
  have zE : (FloatKind.f64.format.order 9223372036854775808 0 == some Ordering.eq) = true := by decide +kernel
  go_enter Tryd.func7, Tryd.ntmps7
  go_wp2_with (go_at_call 10; (with_reducible refine hA.mono ?_); rintro e w1 ⟨rfl, b1⟩)
  go_loopg [10] e.size (fun gf s6 wx => wx = w1 ∧ ∃ j : Nat, s6 = .int .i64 j ∧ j + gf = e.size ∧ Hid (∀ k : Nat, k < j → 48 ≤ bt e k ∧ bt e k ≤ 57))
  case atStart => exact ⟨rfl, 0, rfl, by omega, Lib.hid (fun k hk => by omega)⟩
  case round =>
    obtain ⟨rfl, j, rfl, hj, HN⟩ := hrel
    cases gk with
    | zero =>
      obtain rfl : j = e.size := by omega
      have HD := Lib.hid (bt_digs HN.out)
      clear HN hA
      have hR := Lib.hid (real_z n m (by omega) (by omega) (by omega) (by_ e) (by rw [by_length]; omega) HD.out true)
      have hK : ∀ s : ByteArray, by_ s = 45 :: ZT n m (by_ e) → ZOk s (if true = true then 45 :: ZT n m (by_ e) else ZT n m (by_ e)) := fun s h => h
      have hZ : ZT n m (by_ e) = List.replicate n 48 ++ (46 :: List.replicate m 48 ++ 101 :: by_ e) := by
        unfold ZT
        rw [if_pos (by omega), if_neg (by intro q; have := by_length e; rw [q] at this; simp at this; omega)]
      clear hj
      go_wp2_with (first
        | (go_at_call 12; (with_reducible refine (hR.out _ _ (hK _ ?_)).mono ?_); (· rw [hZ]; simp [by_append, zeros_by n (by omega), zeros_by m (by omega)]; try rfl); rintro e w2 ⟨rfl, b2⟩)
        | (go_at_call 16; (with_reducible refine (zS _).mono ?_); rintro e w' ⟨rfl, rfl⟩)
        | (go_at_call 18; (with_reducible refine (zN _).mono ?_); rintro e w' ⟨rfl, rfl⟩))
      go_ret
      exact ⟨rfl, b1.trans (b2.mono b1.size)⟩
    | succ g =>
      have hi : j < e.size := by omega
      have hat : ∀ h : j < e.size, (((e[j]'h).toNat : Nat) : Int) = bt e (j : Int) := fun h => bt_at e j h
      clear hA zS zN zE
      by_cases c1 : bt e (j : Int) < 48
      · obtain ⟨x, hx⟩ : ∃ x, bt e (j : Int) = x := ⟨_, rfl⟩
        rw [hx] at c1
        simp only [hx] at hat
        clear hx HN
        go_wp2
        go_ret
        exact ⟨rfl, b1⟩
      by_cases c2 : 57 < bt e (j : Int)
      · obtain ⟨x, hx⟩ : ∃ x, bt e (j : Int) = x := ⟨_, rfl⟩
        rw [hx] at c1 c2
        simp only [hx] at hat
        clear hx HN
        go_wp2
        go_ret
        exact ⟨rfl, b1⟩
      have HN2 : Hid (∀ k : Nat, k < j + 1 → 48 ≤ bt e k ∧ bt e k ≤ 57) := Lib.hid (fun k hk => by
        by_cases hkj : k = j
        · subst hkj; exact ⟨by omega, by omega⟩
        · exact HN.out k (by omega))
      obtain ⟨x, hx⟩ : ∃ x, bt e (j : Int) = x := ⟨_, rfl⟩
      rw [hx] at c1 c2
      simp only [hx] at hat
      clear hx HN
      go_wp2
      go_roundg g
      case measure => omega
      case rel => exact ⟨rfl, j + 1, rfl, by omega, HN2⟩
theorem zeros_all (n m : Int) (minus : Bool) (e : ByteArray) (w : World) : Calls Tryd.prog 7 #[.int .i64 n, .int .i64 m, .bool minus, .string e] w fun e w' => e = .returned (.bool true) ∧ Below w.heap.size w w' := by
  by_cases h1 : n < 1
  · exact zeros_out_a n m minus e w h1
  by_cases h2 : 20 < n
  · exact zeros_out_b n m minus e w h1 h2
  by_cases h3 : m < 0
  · exact zeros_out_c n m minus e w h1 h2 h3
  by_cases h4 : 20 < m
  · exact zeros_out_d n m minus e w h1 h2 h3 h4
  by_cases h5 : (30 : Int) < (e.size : Int)
  · exact zeros_out_e n m minus e w h1 h2 h3 h4 h5
  obtain ⟨n, rfl⟩ : ∃ k : Nat, n = k := ⟨n.toNat, by omega⟩
  obtain ⟨m, rfl⟩ : ∃ k : Nat, m = k := ⟨m.toNat, by omega⟩
  by_cases hm : m = 0
  · subst hm
    by_cases he : e.size = 0
    · cases minus with
      | false => exact zeros_000 n e w h1 h2 h5 (emp_yes he) he
      | true => exact zeros_001 n e w h1 h2 h5 (emp_yes he) he
    · cases minus with
      | false => exact zeros_010 n e w h1 h2 h5 (emp_no (by omega)) (by omega)
      | true => exact zeros_011 n e w h1 h2 h5 (emp_no (by omega)) (by omega)
  · by_cases he : e.size = 0
    · cases minus with
      | false => exact zeros_100 n m e w h1 h2 h5 h3 h4 (by omega) (emp_yes he) he
      | true => exact zeros_101 n m e w h1 h2 h5 h3 h4 (by omega) (emp_yes he) he
    · cases minus with
      | false => exact zeros_110 n m e w h1 h2 h5 h3 h4 (by omega) (emp_no (by omega)) (by omega)
      | true => exact zeros_111 n m e w h1 h2 h5 h3 h4 (by omega) (emp_no (by omega)) (by omega)
end Go.Proofs.YtchbmihhkjpkaaaDoor.G
