/-
  The document's answers of layer 3: Negative, Sort, Same; the law RealTells. (Printed by gen_d4.py.)
-/
import Derived.Test.YtchbmihhkjpkaaaDoorD3
namespace Go.Proofs.YtchbmihhkjpkaaaDoor.G
open Go.RowKit Go.Proofs.YtchbmihhkjpkaaaDoorW.PrintWords Go.Proofs.YtchbmihhkjpkaaaDoor.M
set_option linter.unusedVariables false
set_option linter.unusedSimpArgs false

set_option maxHeartbeats 800000 in
theorem rneg_lt (a : Nat) (w : World) (h1 : (FloatKind.f64.format.order a 0 == some Ordering.lt) = true) : Calls Tryd.prog 14 #[.float .f64 a] w fun e w' => e = .returned (.bool true) ∧ w' = w := by
  go_enter Tryd.func14, Tryd.ntmps14
  go_wp2
  go_ret
  exact ⟨rfl, rfl⟩
set_option maxHeartbeats 800000 in
theorem rneg_no (a : Nat) (w : World) (h1 : (FloatKind.f64.format.order a 0 == some Ordering.lt) = false) (h2 : (FloatKind.f64.format.order a 0 == some Ordering.eq) = false) : Calls Tryd.prog 14 #[.float .f64 a] w fun e w' => e = .returned (.bool false) ∧ w' = w := by
  go_enter Tryd.func14, Tryd.ntmps14
  go_wp2
  go_ret
  exact ⟨rfl, rfl⟩
set_option maxHeartbeats 800000 in
theorem rneg_z (a : Nat) (w : World) (h1 : (FloatKind.f64.format.order a 0 == some Ordering.lt) = false) (h2 : (FloatKind.f64.format.order a 0 == some Ordering.eq) = true) (r : Nat) (h3 : ∀ W : World, (binOp .quo 22 (.float .f64 4607182418800017408) (.float .f64 a)).run Tryd.prog W = .ok (.float .f64 r) W) (s : Bool) (h4 : (FloatKind.f64.format.order r 0 == some Ordering.lt) = s) : Calls Tryd.prog 14 #[.float .f64 a] w fun e w' => e = .returned (.bool s) ∧ w' = w := by
  go_enter Tryd.func14, Tryd.ntmps14
  go_wp2
  go_ret
  exact ⟨rfl, rfl⟩
theorem rneg_any (a : Nat) (w : World) : Calls Tryd.prog 14 #[.float .f64 a] w fun e w' => e = .returned (.bool (negF a)) ∧ w' = w := by
  have h1 : (FloatKind.f64.format.order a 0 == some Ordering.lt) = (sgn a && !isN a && !decide (sortF a = 2)) := cmp_neg a
  have h2 : (FloatKind.f64.format.order a 0 == some Ordering.eq) = decide (sortF a = 2) := cmp_zero a
  by_cases q : sortF a = 2
  · have hn : isN a = false := by rw [← sort_nan, q]; rfl
    have e : negF a = sgn a := by unfold negF; rw [hn]; simp
    rw [decide_eq_true q] at h1 h2
    rw [e]
    exact rneg_z a w (by rw [h1]; simp) h2 _ (fun W => run_float_arith (P := Tryd.prog) W .quo 22 .f64 4607182418800017408 a _ (div_zero q)) _ (inf_lt _)
  · rw [decide_eq_false q] at h1 h2
    have e : (sgn a && !isN a && !false) = negF a := by unfold negF; simp
    rw [e] at h1
    cases hn : negF a with
    | true => rw [hn] at h1; exact rneg_lt a w h1
    | false => rw [hn] at h1; exact rneg_no a w h1 h2
set_option maxHeartbeats 800000 in
theorem rsort_0 (a : Nat) (w : World) (h1 : (FloatKind.f64.format.order a a != some Ordering.eq) = true) : Calls Tryd.prog 17 #[.float .f64 a] w fun e w' => e = .returned (.int .i64 0) ∧ w' = w := by
  go_enter Tryd.func17, Tryd.ntmps17
  go_wp2
  go_ret
  exact ⟨rfl, rfl⟩
set_option maxHeartbeats 800000 in
theorem rsort_1 (a : Nat) (w : World) (h1 : (FloatKind.f64.format.order a a != some Ordering.eq) = false) (h2 : (FloatKind.f64.format.order a 0 != some Ordering.eq) = true) (r : Nat) (h3 : ∀ W : World, (binOp .add 22 (.float .f64 a) (.float .f64 a)).run Tryd.prog W = .ok (.float .f64 r) W) (h4 : (FloatKind.f64.format.order a r == some Ordering.eq) = true) : Calls Tryd.prog 17 #[.float .f64 a] w fun e w' => e = .returned (.int .i64 1) ∧ w' = w := by
  go_enter Tryd.func17, Tryd.ntmps17
  go_wp2
  go_ret
  exact ⟨rfl, rfl⟩
set_option maxHeartbeats 800000 in
theorem rsort_2 (a : Nat) (w : World) (h1 : (FloatKind.f64.format.order a a != some Ordering.eq) = false) (h2 : (FloatKind.f64.format.order a 0 != some Ordering.eq) = false) (h5 : (FloatKind.f64.format.order a 0 == some Ordering.eq) = true) : Calls Tryd.prog 17 #[.float .f64 a] w fun e w' => e = .returned (.int .i64 2) ∧ w' = w := by
  go_enter Tryd.func17, Tryd.ntmps17
  go_wp2
  go_ret
  exact ⟨rfl, rfl⟩
set_option maxHeartbeats 800000 in
theorem rsort_3 (a : Nat) (w : World) (h1 : (FloatKind.f64.format.order a a != some Ordering.eq) = false) (h2 : (FloatKind.f64.format.order a 0 != some Ordering.eq) = true) (h5 : (FloatKind.f64.format.order a 0 == some Ordering.eq) = false) (r : Nat) (h3 : ∀ W : World, (binOp .add 22 (.float .f64 a) (.float .f64 a)).run Tryd.prog W = .ok (.float .f64 r) W) (h4 : (FloatKind.f64.format.order a r == some Ordering.eq) = false) : Calls Tryd.prog 17 #[.float .f64 a] w fun e w' => e = .returned (.int .i64 3) ∧ w' = w := by
  go_enter Tryd.func17, Tryd.ntmps17
  go_wp2
  go_ret
  exact ⟨rfl, rfl⟩
theorem rsort_any (a : Nat) (w : World) (ha : a < 18446744073709551616) : Calls Tryd.prog 17 #[.float .f64 a] w fun e w' => e = .returned (.int .i64 (sortF a)) ∧ w' = w := by
  have hr := sort_range a
  have e2 : (FloatKind.f64.format.order a a != some Ordering.eq) = isN a := by rw [isN_iff]; rfl
  have z1 : (FloatKind.f64.format.order a 0 == some Ordering.eq) = decide (sortF a = 2) := cmp_zero a
  have z2 : (FloatKind.f64.format.order a 0 != some Ordering.eq) = !decide (sortF a = 2) := by rw [← z1]; rfl
  have hn := sort_nan a
  rcases (show sortF a = 0 ∨ sortF a = 1 ∨ sortF a = 2 ∨ sortF a = 3 by omega) with q | q | q | q
  · rw [q]
    exact rsort_0 a w (by rw [e2, ← hn, q]; rfl)
  · have hi : isN a = false := by rw [← hn, q]; rfl
    rw [hi] at e2
    rw [q] at z1 z2 ⊢
    have es : (FloatKind.f64.format.order a a == some Ordering.eq) = true := by have : cmpF a a = some .eq := cmp_self hi; exact beq_iff_eq.2 this
    exact rsort_1 a w e2 z2 a (fun W => run_float_arith (P := Tryd.prog) W .add 22 .f64 a a a (twice_inf q ha)) es
  · have hi : isN a = false := by rw [← hn, q]; rfl
    rw [hi] at e2
    rw [q] at z1 z2 ⊢
    exact rsort_2 a w e2 z2 z1
  · have hi : isN a = false := by rw [← hn, q]; rfl
    rw [hi] at e2
    obtain ⟨r, q1, q2⟩ := twice_fin q
    rw [q] at z1 z2 ⊢
    exact rsort_3 a w e2 z2 z1 r (fun W => run_float_arith (P := Tryd.prog) W .add 22 .f64 a a r q1) q2
set_option maxHeartbeats 4000000 in
theorem rsame_any (a b : Nat) (w : World) : Calls Tryd.prog 11 #[.float .f64 a, .float .f64 b] w fun e w' => e = .returned (.bool (sameF a b)) ∧ w' = w := by
  have hS := fun (W : World) => rneg_any a W
  have hT := fun (W : World) => rneg_any b W
  have e1 : (FloatKind.f64.format.order a a != some Ordering.eq) = isN a := by rw [isN_iff]; rfl
  have e2 : (FloatKind.f64.format.order b b != some Ordering.eq) = isN b := by rw [isN_iff]; rfl
  obtain ⟨c, hc⟩ : ∃ c, (FloatKind.f64.format.order a b == some Ordering.eq) = c := ⟨_, rfl⟩
  have hc2 : (cmpF a b == some .eq) = c := hc
  unfold sameF
  obtain ⟨x, hx⟩ : ∃ x, isN a = x := ⟨_, rfl⟩
  obtain ⟨y, hy⟩ : ∃ y, isN b = y := ⟨_, rfl⟩
  obtain ⟨s, hs⟩ : ∃ s, negF a = s := ⟨_, rfl⟩
  obtain ⟨t, ht⟩ : ∃ t, negF b = t := ⟨_, rfl⟩
  simp only [hx, hy, hs, ht, hc2] at hS hT e1 e2 ⊢
  clear hx hy hs ht hc2
  cases x <;> cases y <;> cases c <;> cases s <;> cases t
  all_goals
    go_enter Tryd.func11, Tryd.ntmps11
    go_wp2_with (first
      | (go_at_call 14; with_reducible refine (hS _).mono ?_; rintro e w' ⟨rfl, rfl⟩)
      | (go_at_call 14; with_reducible refine (hT _).mono ?_; rintro e w' ⟨rfl, rfl⟩))
    go_ret
    exact ⟨rfl, rfl⟩
theorem alike_same {T b : Nat} (h : Alike T b) : sameF T b = true := by
  rcases h with ⟨h1, h2⟩ | rfl
  · exact same_nan h1 h2
  · exact same_self _
set_option maxHeartbeats 800000 in
theorem tells_long (s : ByteArray) (a b : Nat) (w : World) (h : 600 < s.size) : Calls Tryd.prog 3 #[.string s, .float .f64 a, .float .f64 b] w fun e w' => e = .returned (.bool true) ∧ Below w.heap.size w w' := by
  have hA := awake3 w
  go_enter Tryd.func3, Tryd.ntmps3
  go_wp2_with (go_at_call 10; (with_reducible refine hA.mono ?_); rintro e w1 ⟨rfl, b1⟩)
  go_ret
  exact ⟨rfl, b1⟩
set_option maxHeartbeats 3200000 in
theorem tells_go (s : ByteArray) (a b : Nat) (w : World) (h : s.size ≤ 600) (T : Nat) (S N : Bool) (k : Int)
    (cr : ∀ W : World, Calls Tryd.prog 12 #[.string s] W fun e w' => e = .returned (.float .f64 T) ∧ Below W.heap.size W w')
    (cf : ∀ W : World, Calls Tryd.prog 13 #[.string s] W (FOut T W))
    (cs : ∀ W : World, Calls Tryd.prog 11 #[.float .f64 a, .float .f64 b] W fun e w' => e = .returned (.bool S) ∧ w' = W)
    (ct : ∀ (W : World) (y : Nat), Alike T y → Calls Tryd.prog 11 #[.float .f64 T, .float .f64 y] W fun e w' => e = .returned (.bool true) ∧ w' = W)
    (cn : ∀ W : World, Calls Tryd.prog 14 #[.float .f64 a] W fun e w' => e = .returned (.bool N) ∧ w' = W)
    (ck : ∀ W : World, Calls Tryd.prog 17 #[.float .f64 a] W fun e w' => e = .returned (.int .i64 k) ∧ w' = W)
    (rs : ∀ W : World, Calls Tryd.prog 15 #[.float .f64 a, .float .f64 b] W fun e w' => e = .returned (.bool S) ∧ w' = W)
    (rk : ∀ W : World, Calls Tryd.prog 16 #[.float .f64 a] W fun e w' => e = .returned (.int .i64 k) ∧ w' = W)
    (rn : ∀ W : World, Calls Tryd.prog 18 #[.float .f64 a] W fun e w' => e = .returned (.bool N) ∧ w' = W) :
    Calls Tryd.prog 3 #[.string s, .float .f64 a, .float .f64 b] w fun e w' => e = .returned (.bool true) ∧ Below w.heap.size w w' := by
  have hA := awake3 w
  cases S <;> cases N
  all_goals
    go_enter Tryd.func3, Tryd.ntmps3
    go_wp2_with (first
      | (go_at_call 10; (with_reducible refine hA.mono ?_); rintro e w1 ⟨rfl, b1⟩)
      | (go_at_call 12; (with_reducible refine (cr _).mono ?_); rintro e w2 ⟨rfl, b2⟩)
      | (go_at_call 13; (with_reducible refine (cf _).mono ?_); rintro e w3 ⟨⟨y, rfl, hy1, hy2, b3⟩⟩)
      | (go_at_call 11; (with_reducible refine (ct _ _ hy1).mono ?_); rintro e w' ⟨rfl, rfl⟩; clear ct)
      | (go_at_call 11; (with_reducible refine (cs _).mono ?_); rintro e w' ⟨rfl, rfl⟩)
      | (go_at_call 14; (with_reducible refine (cn _).mono ?_); rintro e w' ⟨rfl, rfl⟩)
      | (go_at_call 17; (with_reducible refine (ck _).mono ?_); rintro e w' ⟨rfl, rfl⟩)
      | (go_at_call 15; (with_reducible refine (rs _).mono ?_); rintro e w' ⟨rfl, rfl⟩)
      | (go_at_call 16; (with_reducible refine (rk _).mono ?_); rintro e w' ⟨rfl, rfl⟩)
      | (go_at_call 18; (with_reducible refine (rn _).mono ?_); rintro e w' ⟨rfl, rfl⟩))
    go_ret
    refine ⟨rfl, ?_⟩
    have q1 := b1.trans (b2.mono b1.size)
    exact q1.trans (b3.mono q1.size)
theorem tells_all (s : ByteArray) (a b : Nat) (w : World) (ha : a < 18446744073709551616) (hb : b < 18446744073709551616) : Calls Tryd.prog 3 #[.string s, .float .f64 a, .float .f64 b] w fun e w' => e = .returned (.bool true) ∧ Below w.heap.size w w' := by
  by_cases h : 600 < s.size
  · exact tells_long s a b w h
  · have h2 : s.size ≤ 600 := by omega
    exact tells_go s a b w h2 _ _ _ _ (fun W => real_any s W (by omega)) (fun W => ref_any s W h2) (fun W => rsame_any a b W)
      (fun W y hy => by have := rsame_any (realF (by_ s)) y W; rw [alike_same hy] at this; exact this)
      (fun W => rneg_any a W) (fun W => rsort_any a W ha) (fun W => same_any a b W ha hb) (fun W => sort_any a W ha) (fun W => neg_any a W ha)
end Go.Proofs.YtchbmihhkjpkaaaDoor.G
