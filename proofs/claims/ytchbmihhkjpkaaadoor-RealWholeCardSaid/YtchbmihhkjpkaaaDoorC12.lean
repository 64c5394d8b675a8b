/-
  The law RealEdges: its walk. (Printed by gen_c12.py.)
-/
import Derived.Test.YtchbmihhkjpkaaaDoorC9
import Derived.Test.YtchbmihhkjpkaaaDoorRX2
import Derived.RangeFuncRecord
namespace Go.Proofs.YtchbmihhkjpkaaaDoor.G
open Go.RowKit Go.Proofs.YtchbmihhkjpkaaaDoorW.PrintWords Go.Proofs.YtchbmihhkjpkaaaDoor.M
set_option linter.unusedVariables false
set_option linter.unusedSimpArgs false

theorem one_byte_conv (W : World) (X : UInt8) : (convert 30 9 (.slice (some ⟨W.heap.size, 0, none⟩) 1 1)).run Tryd.prog (W.alloc (.cells #[.int .u8 (X.toNat : Int)] 5)) = .ok (.string ⟨#[X]⟩) (W.alloc (.cells #[.int .u8 (X.toNat : Int)] 5)) :=
  run_convert_bytes_back _ _ _ _ ⟨W.heap.size, 0, none⟩ 1 [X] Tryd.underlying30 Tryd.underlying5 Tryd.underlying9 (fun j hj => by
    have hj2 : j < 1 := hj
    obtain rfl : j = 0 := by omega
    rw [show (⟨W.heap.size, 0, none⟩ : Addr).add 0 = ⟨W.heap.size, 0, none⟩ by unfold Addr.add; rfl]
    show (W.alloc _).cell? _ = _
    rw [cell_of_row _ _ 0 _ _ _ (World.alloc_heap_new W _)]
    rfl)
theorem four_conv (W : World) (X0 X1 X2 X3 : UInt8) : (convert 30 9 (.slice (some ⟨W.heap.size, 0, none⟩) 4 4)).run Tryd.prog (W.alloc (.cells #[.int .u8 (X0.toNat : Int), .int .u8 (X1.toNat : Int), .int .u8 (X2.toNat : Int), .int .u8 (X3.toNat : Int)] 5)) = .ok (.string ⟨#[X0, X1, X2, X3]⟩) (W.alloc (.cells #[.int .u8 (X0.toNat : Int), .int .u8 (X1.toNat : Int), .int .u8 (X2.toNat : Int), .int .u8 (X3.toNat : Int)] 5)) :=
  run_convert_bytes_back _ _ _ _ ⟨W.heap.size, 0, none⟩ 4 [X0, X1, X2, X3] Tryd.underlying30 Tryd.underlying5 Tryd.underlying9 (fun j hj => by
    have hj2 : j < 4 := hj
    have key : ∀ k : Nat, (⟨W.heap.size, 0, none⟩ : Addr).add k = ⟨W.heap.size, k, none⟩ := fun k => by
      unfold Addr.add
      by_cases h : k = 0
      · subst h; rfl
      · simp [h]
    rw [key]
    show (W.alloc _).cell? _ = _
    rw [cell_of_row _ _ j _ _ _ (World.alloc_heap_new W _)]
    rcases (show j = 0 ∨ j = 1 ∨ j = 2 ∨ j = 3 by omega) with rfl | rfl | rfl | rfl <;> rfl)
/-- Real at a short text, by its bytes. -/
theorem real_at (l : List Int) (f : Nat) (hf : realF l = f) (hl : l.length ≤ 1000) (s : ByteArray) (W : World) (h : by_ s = l) :
    Calls Tryd.prog 12 #[.string s] W fun e w' => e = .returned (.float .f64 f) ∧ Below W.heap.size W w' := by
  have hr := real_any s W (by have := by_length s; rw [h] at this; omega)
  rw [h, hf] at hr
  exact hr
theorem edge_vals {c : Int} (h0 : 49 ≤ c) (h1 : c ≤ 57) {x : Nat} (hx : 402 ≤ x) (hx2 : x ≤ 9999) :
    realF (c :: 101 :: four x) = 9218868437227405312 ∧ realF (c :: 69 :: 45 :: four x) = 0 ∧ realF (45 :: c :: 101 :: four x) = 18442240474082181120 ∧ realF (45 :: c :: 69 :: 45 :: four x) = 9223372036854775808 := by
  obtain ⟨q1, q2⟩ := law_edges h0 h1 hx hx2
  have hd : ∀ r : List Int, (c :: r).head? ≠ some 45 := fun r q => by have q2 : c = 45 := Option.some.inj q; omega
  rw [real_plain (hd _), real_plain (hd _), real_minus, real_minus, q1, q2]
  exact ⟨by decide, by decide, by decide, by decide⟩
set_option maxHeartbeats 800000 in
theorem edges_out_a (c x : Int) (minus : Bool) (w : World) (h1 : c < 49) : Calls Tryd.prog 8 #[.int .u8 c, .int .i64 x, .bool minus] w fun e w' => e = .returned (.bool true) ∧ Below w.heap.size w w' := by
  have hA := awake3 w
  go_enter Tryd.func8, Tryd.ntmps8
  go_wp2_with (go_at_call 10; (with_reducible refine hA.mono ?_); rintro e w1 ⟨rfl, b1⟩)
  go_ret
  exact ⟨rfl, b1⟩
set_option maxHeartbeats 800000 in
theorem edges_out_b (c x : Int) (minus : Bool) (w : World) (h0 : ¬ c < 49) (h1 : 57 < c) : Calls Tryd.prog 8 #[.int .u8 c, .int .i64 x, .bool minus] w fun e w' => e = .returned (.bool true) ∧ Below w.heap.size w w' := by
  have hA := awake3 w
  go_enter Tryd.func8, Tryd.ntmps8
  go_wp2_with (go_at_call 10; (with_reducible refine hA.mono ?_); rintro e w1 ⟨rfl, b1⟩)
  go_ret
  exact ⟨rfl, b1⟩
set_option maxHeartbeats 800000 in
theorem edges_out_c (c x : Int) (minus : Bool) (w : World) (h0 : ¬ c < 49) (h2 : ¬ 57 < c) (h1 : x < 402) : Calls Tryd.prog 8 #[.int .u8 c, .int .i64 x, .bool minus] w fun e w' => e = .returned (.bool true) ∧ Below w.heap.size w w' := by
  have hA := awake3 w
  go_enter Tryd.func8, Tryd.ntmps8
  go_wp2_with (go_at_call 10; (with_reducible refine hA.mono ?_); rintro e w1 ⟨rfl, b1⟩)
  go_ret
  exact ⟨rfl, b1⟩
set_option maxHeartbeats 800000 in
theorem edges_out_d (c x : Int) (minus : Bool) (w : World) (h0 : ¬ c < 49) (h2 : ¬ 57 < c) (h3 : ¬ x < 402) (h1 : 9999 < x) : Calls Tryd.prog 8 #[.int .u8 c, .int .i64 x, .bool minus] w fun e w' => e = .returned (.bool true) ∧ Below w.heap.size w w' := by
  have hA := awake3 w
  go_enter Tryd.func8, Tryd.ntmps8
  go_wp2_with (go_at_call 10; (with_reducible refine hA.mono ?_); rintro e w1 ⟨rfl, b1⟩)
  go_ret
  exact ⟨rfl, b1⟩
set_option maxHeartbeats 3200000 in
theorem edges_false (c : Int) (x : Nat) (w : World) (c0 : ¬ c < 49) (c1 : ¬ 57 < c) (x0 : ¬ (x : Int) < 402) (x1 : ¬ 9999 < (x : Int)) (X Y0 Y1 Y2 Y3 : UInt8)
    (e : (X.toNat : Int) = c) (e0 : (Y0.toNat : Int) = 48 + (x : Int) / 1000) (e1 : (Y1.toNat : Int) = 48 + (x : Int) / 100 % 10) (e2 : (Y2.toNat : Int) = 48 + (x : Int) / 10 % 10) (e3 : (Y3.toNat : Int) = 48 + (x : Int) % 10)
    (r1 : Hid (realF ((X.toNat : Int) :: 101 :: [(Y0.toNat : Int), (Y1.toNat : Int), (Y2.toNat : Int), (Y3.toNat : Int)]) = 9218868437227405312)) (r2 : Hid (realF ((X.toNat : Int) :: 69 :: 45 :: [(Y0.toNat : Int), (Y1.toNat : Int), (Y2.toNat : Int), (Y3.toNat : Int)]) = 0)) :
    Calls Tryd.prog 8 #[.int .u8 c, .int .i64 (x : Int), .bool false] w fun e w' => e = .returned (.bool true) ∧ Below w.heap.size w w' := by
  have hA := awake3 w
  have hC := fun (W : World) => four_conv W Y0 Y1 Y2 Y3
  have hD := fun (W : World) => one_byte_conv W X
  have R1 := Lib.hid (real_at _ _ r1.out (by simp))
  have R2 := Lib.hid (real_at _ _ r2.out (by simp))
  simp only [e, e0, e1, e2, e3] at hC hD
  clear e e0 e1 e2 e3 r1 r2
  have s1 := fun (W : World) => sort_any 9218868437227405312 W (by decide)
  have s2 := fun (W : World) => sort_any 0 W (by decide)
  have n1 := fun (W : World) => neg_any 9218868437227405312 W (by decide)
  have n2 := fun (W : World) => neg_any 0 W (by decide)
  rw [show sortF 9218868437227405312 = 1 by decide +kernel] at s1
  rw [show sortF 0 = 2 by decide +kernel] at s2
  rw [show negF 9218868437227405312 = false by decide +kernel] at n1
  rw [show negF 0 = false by decide +kernel] at n2
  go_enter Tryd.func8, Tryd.ntmps8
  go_wp2_with (first
    | (go_at_call 10; (with_reducible refine hA.mono ?_); rintro e w1 ⟨rfl, b1⟩; have hcv := hC w1; have hcw := hD (w1.alloc (.cells #[.int .u8 (48 + (x : Int) / 1000), .int .u8 (48 + (x : Int) / 100 % 10), .int .u8 (48 + (x : Int) / 10 % 10), .int .u8 (48 + (x : Int) % 10)] 5)); rw [World.size_alloc] at hcw; clear hC hD)
    | (go_at_call 12; (with_reducible refine (R1.out _ _ ?_).mono ?_); (· (repeat rw [by_append]); rfl); rintro e w2 ⟨rfl, b2⟩)
    | (go_at_call 12; (with_reducible refine (R2.out _ _ ?_).mono ?_); (· (repeat rw [by_append]); rfl); rintro e w3 ⟨rfl, b3⟩)
    | (go_at_call 16; (with_reducible refine (s1 _).mono ?_); rintro e w' ⟨rfl, rfl⟩)
    | (go_at_call 16; (with_reducible refine (s2 _).mono ?_); rintro e w' ⟨rfl, rfl⟩)
    | (go_at_call 18; (with_reducible refine (n1 _).mono ?_); rintro e w' ⟨rfl, rfl⟩)
    | (go_at_call 18; (with_reducible refine (n2 _).mono ?_); rintro e w' ⟨rfl, rfl⟩))
  go_ret
  refine ⟨rfl, ?_⟩
  have q0 := (b1.alloc b1.size (.cells #[.int .u8 (48 + (x : Int) / 1000), .int .u8 (48 + (x : Int) / 100 % 10), .int .u8 (48 + (x : Int) / 10 % 10), .int .u8 (48 + (x : Int) % 10)] 5))
  have q1 := q0.alloc q0.size (.cells #[.int .u8 c] 5)
  have q2 := q1.trans (b2.mono q1.size)
  exact q2.trans (b3.mono q2.size)
set_option maxHeartbeats 3200000 in
theorem edges_true (c : Int) (x : Nat) (w : World) (c0 : ¬ c < 49) (c1 : ¬ 57 < c) (x0 : ¬ (x : Int) < 402) (x1 : ¬ 9999 < (x : Int)) (X Y0 Y1 Y2 Y3 : UInt8)
    (e : (X.toNat : Int) = c) (e0 : (Y0.toNat : Int) = 48 + (x : Int) / 1000) (e1 : (Y1.toNat : Int) = 48 + (x : Int) / 100 % 10) (e2 : (Y2.toNat : Int) = 48 + (x : Int) / 10 % 10) (e3 : (Y3.toNat : Int) = 48 + (x : Int) % 10)
    (r1 : Hid (realF (45 :: (X.toNat : Int) :: 101 :: [(Y0.toNat : Int), (Y1.toNat : Int), (Y2.toNat : Int), (Y3.toNat : Int)]) = 18442240474082181120)) (r2 : Hid (realF (45 :: (X.toNat : Int) :: 69 :: 45 :: [(Y0.toNat : Int), (Y1.toNat : Int), (Y2.toNat : Int), (Y3.toNat : Int)]) = 9223372036854775808)) :
    Calls Tryd.prog 8 #[.int .u8 c, .int .i64 (x : Int), .bool true] w fun e w' => e = .returned (.bool true) ∧ Below w.heap.size w w' := by
  have hA := awake3 w
  have hC := fun (W : World) => four_conv W Y0 Y1 Y2 Y3
  have hD := fun (W : World) => one_byte_conv W X
  have R1 := Lib.hid (real_at _ _ r1.out (by simp))
  have R2 := Lib.hid (real_at _ _ r2.out (by simp))
  simp only [e, e0, e1, e2, e3] at hC hD
  clear e e0 e1 e2 e3 r1 r2
  have s1 := fun (W : World) => sort_any 18442240474082181120 W (by decide)
  have s2 := fun (W : World) => sort_any 9223372036854775808 W (by decide)
  have n1 := fun (W : World) => neg_any 18442240474082181120 W (by decide)
  have n2 := fun (W : World) => neg_any 9223372036854775808 W (by decide)
  rw [show sortF 18442240474082181120 = 1 by decide +kernel] at s1
  rw [show sortF 9223372036854775808 = 2 by decide +kernel] at s2
  rw [show negF 18442240474082181120 = true by decide +kernel] at n1
  rw [show negF 9223372036854775808 = true by decide +kernel] at n2
  go_enter Tryd.func8, Tryd.ntmps8
  go_wp2_with (first
    | (go_at_call 10; (with_reducible refine hA.mono ?_); rintro e w1 ⟨rfl, b1⟩; have hcv := hC w1; have hcw := hD (w1.alloc (.cells #[.int .u8 (48 + (x : Int) / 1000), .int .u8 (48 + (x : Int) / 100 % 10), .int .u8 (48 + (x : Int) / 10 % 10), .int .u8 (48 + (x : Int) % 10)] 5)); rw [World.size_alloc] at hcw; clear hC hD)
    | (go_at_call 12; (with_reducible refine (R1.out _ _ ?_).mono ?_); (· (repeat rw [by_append]); rfl); rintro e w2 ⟨rfl, b2⟩)
    | (go_at_call 12; (with_reducible refine (R2.out _ _ ?_).mono ?_); (· (repeat rw [by_append]); rfl); rintro e w3 ⟨rfl, b3⟩)
    | (go_at_call 16; (with_reducible refine (s1 _).mono ?_); rintro e w' ⟨rfl, rfl⟩)
    | (go_at_call 16; (with_reducible refine (s2 _).mono ?_); rintro e w' ⟨rfl, rfl⟩)
    | (go_at_call 18; (with_reducible refine (n1 _).mono ?_); rintro e w' ⟨rfl, rfl⟩)
    | (go_at_call 18; (with_reducible refine (n2 _).mono ?_); rintro e w' ⟨rfl, rfl⟩))
  go_ret
  refine ⟨rfl, ?_⟩
  have q0 := (b1.alloc b1.size (.cells #[.int .u8 (48 + (x : Int) / 1000), .int .u8 (48 + (x : Int) / 100 % 10), .int .u8 (48 + (x : Int) / 10 % 10), .int .u8 (48 + (x : Int) % 10)] 5))
  have q1 := q0.alloc q0.size (.cells #[.int .u8 c] 5)
  have q2 := q1.trans (b2.mono q1.size)
  exact q2.trans (b3.mono q2.size)
theorem four_eq (x : Nat) (Y0 Y1 Y2 Y3 : UInt8) (e0 : (Y0.toNat : Int) = 48 + (x : Int) / 1000) (e1 : (Y1.toNat : Int) = 48 + (x : Int) / 100 % 10) (e2 : (Y2.toNat : Int) = 48 + (x : Int) / 10 % 10) (e3 : (Y3.toNat : Int) = 48 + (x : Int) % 10) :
    [(Y0.toNat : Int), (Y1.toNat : Int), (Y2.toNat : Int), (Y3.toNat : Int)] = four x := by
  unfold four
  rw [e0, e1, e2, e3]
  congr 1
theorem byte_is (n : Int) (h0 : 0 ≤ n) (h1 : n ≤ 255) : ∃ X : UInt8, (X.toNat : Int) = n := ⟨UInt8.ofNat n.toNat, by rw [UInt8.toNat_ofNat']; omega⟩
theorem edges_all (c x : Int) (minus : Bool) (w : World) : Calls Tryd.prog 8 #[.int .u8 c, .int .i64 x, .bool minus] w fun e w' => e = .returned (.bool true) ∧ Below w.heap.size w w' := by
  by_cases h1 : c < 49
  · exact edges_out_a c x minus w h1
  by_cases h2 : 57 < c
  · exact edges_out_b c x minus w h1 h2
  by_cases h3 : x < 402
  · exact edges_out_c c x minus w h1 h2 h3
  by_cases h4 : 9999 < x
  · exact edges_out_d c x minus w h1 h2 h3 h4
  obtain ⟨x, rfl⟩ : ∃ k : Nat, x = k := ⟨x.toNat, by omega⟩
  obtain ⟨X, e⟩ := byte_is c (by omega) (by omega)
  obtain ⟨Y0, e0⟩ := byte_is (48 + (x : Int) / 1000) (by omega) (by omega)
  obtain ⟨Y1, e1⟩ := byte_is (48 + (x : Int) / 100 % 10) (by omega) (by omega)
  obtain ⟨Y2, e2⟩ := byte_is (48 + (x : Int) / 10 % 10) (by omega) (by omega)
  obtain ⟨Y3, e3⟩ := byte_is (48 + (x : Int) % 10) (by omega) (by omega)
  have hf := four_eq x Y0 Y1 Y2 Y3 e0 e1 e2 e3
  obtain ⟨v1, v2, v3, v4⟩ := edge_vals (c := c) (by omega) (by omega) (x := x) (by omega) (by omega)
  rw [← hf, ← e] at v1 v2 v3 v4
  cases minus with
  | false => exact edges_false c x w h1 h2 h3 h4 X Y0 Y1 Y2 Y3 e e0 e1 e2 e3 (Lib.hid v1) (Lib.hid v2)
  | true => exact edges_true c x w h1 h2 h3 h4 X Y0 Y1 Y2 Y3 e e0 e1 e2 e3 (Lib.hid v3) (Lib.hid v4)
end Go.Proofs.YtchbmihhkjpkaaaDoor.G
