/-
  The document's answers of layer 3: plain, Real. (Printed by gen_d2.py.)
-/
import Derived.Test.YtchbmihhkjpkaaaDoorD2
namespace Go.Proofs.YtchbmihhkjpkaaaDoor.G
open Go.RowKit Go.Proofs.YtchbmihhkjpkaaaDoorW.PrintWords Go.Proofs.YtchbmihhkjpkaaaDoor.M
set_option linter.unusedVariables false
set_option linter.unusedSimpArgs false

set_option maxHeartbeats 1600000 in
theorem plain_d0 (s : ByteArray) (w : World) (hs : s.size ≤ 600) (n : Nat) (hn : n ≤ s.size) (L R : ByteArray) (hL : s.extract 0 n = L) (hR : s.extract n s.size = R) (hrs : R.size ≤ 600) (T : Nat)
    (c0 : ∀ W : World, Calls Tryd.prog 48 #[.string s, .int .i64 0] W fun e w' => e = .returned (.int .i64 (n : Int)) ∧ w' = W) (hr0 : 0 < R.size) (hat : ∀ h : 0 < R.size, (((R[0]'h).toNat : Nat) : Int) = 46) (c1 : ∀ W : World, Calls Tryd.prog 48 #[.string R, .int .i64 1] W fun e w' => e = .returned (.int .i64 0) ∧ w' = W) (cn : Hid (∀ W : World, Calls Tryd.prog 49 #[] W (FOut T W))) :
    Calls Tryd.prog 31 #[.string s] w (FOut T w) := by
  go_enter Tryd.func31, Tryd.ntmps31
  go_wp2_with (first
    | (go_at_call 48; (with_reducible refine (c0 _).mono ?_); rintro e w' ⟨rfl, rfl⟩)
    | (go_at_call 48; (with_reducible refine (c1 _).mono ?_); rintro e w' ⟨rfl, rfl⟩)
    | (go_at_call 49; (with_reducible refine (cn.out _).mono ?_); rintro e w' ⟨⟨b, rfl, hb1, hb2, hb3⟩⟩))
  go_ret
  exact ⟨⟨b, rfl, hb1, hb2, hb3⟩⟩
set_option maxHeartbeats 1600000 in
theorem plain_Ez (s : ByteArray) (w : World) (hs : s.size ≤ 600) (n : Nat) (hn : n ≤ s.size) (L R : ByteArray) (hL : s.extract 0 n = L) (hR : s.extract n s.size = R) (hrs : R.size ≤ 600) (T : Nat)
    (c0 : ∀ W : World, Calls Tryd.prog 48 #[.string s, .int .i64 0] W fun e w' => e = .returned (.int .i64 (n : Int)) ∧ w' = W) (hr0 : R.size = 0) (x : Int) (ok : Bool) (cx : ∀ W : World, Calls Tryd.prog 50 #[.string R] W (EOut x ok W)) (n0 : (n == 0) = true) (n1 : ((n : Int) == 0) = true) (cn : Hid (∀ W : World, Calls Tryd.prog 49 #[] W (FOut T W))) :
    Calls Tryd.prog 31 #[.string s] w (FOut T w) := by
  go_enter Tryd.func31, Tryd.ntmps31
  go_wp2_with (first
    | (go_at_call 48; (with_reducible refine (c0 _).mono ?_); rintro e w' ⟨rfl, rfl⟩)
    | (go_at_call 50; (with_reducible refine (cx _).mono ?_); rintro e w' ⟨rfl, rfl⟩)
    | (go_at_call 49; (with_reducible refine (cn.out _).mono ?_); rintro e w' ⟨⟨b, rfl, hb1, hb2, hb3⟩⟩))
  go_ret
  exact ⟨⟨b, rfl, hb1, hb2, hb3⟩⟩
set_option maxHeartbeats 1600000 in
theorem plain_Ef (s : ByteArray) (w : World) (hs : s.size ≤ 600) (n : Nat) (hn : n ≤ s.size) (L R : ByteArray) (hL : s.extract 0 n = L) (hR : s.extract n s.size = R) (hrs : R.size ≤ 600) (T : Nat)
    (c0 : ∀ W : World, Calls Tryd.prog 48 #[.string s, .int .i64 0] W fun e w' => e = .returned (.int .i64 (n : Int)) ∧ w' = W) (hr0 : R.size = 0) (x : Int) (cx : ∀ W : World, Calls Tryd.prog 50 #[.string R] W (EOut x false W)) (n0 : (n == 0) = false) (n1 : ((n : Int) == 0) = false) (cn : Hid (∀ W : World, Calls Tryd.prog 49 #[] W (FOut T W))) :
    Calls Tryd.prog 31 #[.string s] w (FOut T w) := by
  go_enter Tryd.func31, Tryd.ntmps31
  go_wp2_with (first
    | (go_at_call 48; (with_reducible refine (c0 _).mono ?_); rintro e w' ⟨rfl, rfl⟩)
    | (go_at_call 50; (with_reducible refine (cx _).mono ?_); rintro e w' ⟨rfl, rfl⟩)
    | (go_at_call 49; (with_reducible refine (cn.out _).mono ?_); rintro e w' ⟨⟨b, rfl, hb1, hb2, hb3⟩⟩))
  go_ret
  exact ⟨⟨b, rfl, hb1, hb2, hb3⟩⟩
set_option maxHeartbeats 1600000 in
theorem plain_Eg (s : ByteArray) (w : World) (hs : s.size ≤ 600) (n : Nat) (hn : n ≤ s.size) (L R : ByteArray) (hL : s.extract 0 n = L) (hR : s.extract n s.size = R) (hrs : R.size ≤ 600) (T : Nat)
    (c0 : ∀ W : World, Calls Tryd.prog 48 #[.string s, .int .i64 0] W fun e w' => e = .returned (.int .i64 (n : Int)) ∧ w' = W) (hr0 : R.size = 0) (x : Int) (cx : ∀ W : World, Calls Tryd.prog 50 #[.string R] W (EOut x true W)) (n0 : (n == 0) = false) (n1 : ((n : Int) == 0) = false) (hx0 : -1000000 ≤ x) (hx1 : x ≤ 1000000) (cv : Hid (∀ W : World, Calls Tryd.prog 51 #[.string L, .int .i64 x] W (FOut T W))) :
    Calls Tryd.prog 31 #[.string s] w (FOut T w) := by
  go_enter Tryd.func31, Tryd.ntmps31
  go_wp2_with (first
    | (go_at_call 48; (with_reducible refine (c0 _).mono ?_); rintro e w' ⟨rfl, rfl⟩)
    | (go_at_call 50; (with_reducible refine (cx _).mono ?_); rintro e w' ⟨rfl, rfl⟩)
    | (go_at_call 51; (with_reducible refine (cv.out _).mono ?_); rintro e w' ⟨⟨b, rfl, hb1, hb2, hb3⟩⟩))
  go_ret
  exact ⟨⟨b, rfl, hb1, hb2, hb3⟩⟩
set_option maxHeartbeats 1600000 in
theorem plain_Nz (s : ByteArray) (w : World) (hs : s.size ≤ 600) (n : Nat) (hn : n ≤ s.size) (L R : ByteArray) (hL : s.extract 0 n = L) (hR : s.extract n s.size = R) (hrs : R.size ≤ 600) (T : Nat)
    (c0 : ∀ W : World, Calls Tryd.prog 48 #[.string s, .int .i64 0] W fun e w' => e = .returned (.int .i64 (n : Int)) ∧ w' = W) (hr0 : 0 < R.size) (c : Int) (hat : ∀ h : 0 < R.size, (((R[0]'h).toNat : Nat) : Int) = c) (u1 : (c == 46) = false) (x : Int) (ok : Bool) (cx : ∀ W : World, Calls Tryd.prog 50 #[.string R] W (EOut x ok W)) (n0 : (n == 0) = true) (n1 : ((n : Int) == 0) = true) (cn : Hid (∀ W : World, Calls Tryd.prog 49 #[] W (FOut T W))) :
    Calls Tryd.prog 31 #[.string s] w (FOut T w) := by
  go_enter Tryd.func31, Tryd.ntmps31
  go_wp2_with (first
    | (go_at_call 48; (with_reducible refine (c0 _).mono ?_); rintro e w' ⟨rfl, rfl⟩)
    | (go_at_call 50; (with_reducible refine (cx _).mono ?_); rintro e w' ⟨rfl, rfl⟩)
    | (go_at_call 49; (with_reducible refine (cn.out _).mono ?_); rintro e w' ⟨⟨b, rfl, hb1, hb2, hb3⟩⟩))
  go_ret
  exact ⟨⟨b, rfl, hb1, hb2, hb3⟩⟩
set_option maxHeartbeats 1600000 in
theorem plain_Nf (s : ByteArray) (w : World) (hs : s.size ≤ 600) (n : Nat) (hn : n ≤ s.size) (L R : ByteArray) (hL : s.extract 0 n = L) (hR : s.extract n s.size = R) (hrs : R.size ≤ 600) (T : Nat)
    (c0 : ∀ W : World, Calls Tryd.prog 48 #[.string s, .int .i64 0] W fun e w' => e = .returned (.int .i64 (n : Int)) ∧ w' = W) (hr0 : 0 < R.size) (c : Int) (hat : ∀ h : 0 < R.size, (((R[0]'h).toNat : Nat) : Int) = c) (u1 : (c == 46) = false) (x : Int) (cx : ∀ W : World, Calls Tryd.prog 50 #[.string R] W (EOut x false W)) (n0 : (n == 0) = false) (n1 : ((n : Int) == 0) = false) (cn : Hid (∀ W : World, Calls Tryd.prog 49 #[] W (FOut T W))) :
    Calls Tryd.prog 31 #[.string s] w (FOut T w) := by
  go_enter Tryd.func31, Tryd.ntmps31
  go_wp2_with (first
    | (go_at_call 48; (with_reducible refine (c0 _).mono ?_); rintro e w' ⟨rfl, rfl⟩)
    | (go_at_call 50; (with_reducible refine (cx _).mono ?_); rintro e w' ⟨rfl, rfl⟩)
    | (go_at_call 49; (with_reducible refine (cn.out _).mono ?_); rintro e w' ⟨⟨b, rfl, hb1, hb2, hb3⟩⟩))
  go_ret
  exact ⟨⟨b, rfl, hb1, hb2, hb3⟩⟩
set_option maxHeartbeats 1600000 in
theorem plain_Ng (s : ByteArray) (w : World) (hs : s.size ≤ 600) (n : Nat) (hn : n ≤ s.size) (L R : ByteArray) (hL : s.extract 0 n = L) (hR : s.extract n s.size = R) (hrs : R.size ≤ 600) (T : Nat)
    (c0 : ∀ W : World, Calls Tryd.prog 48 #[.string s, .int .i64 0] W fun e w' => e = .returned (.int .i64 (n : Int)) ∧ w' = W) (hr0 : 0 < R.size) (c : Int) (hat : ∀ h : 0 < R.size, (((R[0]'h).toNat : Nat) : Int) = c) (u1 : (c == 46) = false) (x : Int) (cx : ∀ W : World, Calls Tryd.prog 50 #[.string R] W (EOut x true W)) (n0 : (n == 0) = false) (n1 : ((n : Int) == 0) = false) (hx0 : -1000000 ≤ x) (hx1 : x ≤ 1000000) (cv : Hid (∀ W : World, Calls Tryd.prog 51 #[.string L, .int .i64 x] W (FOut T W))) :
    Calls Tryd.prog 31 #[.string s] w (FOut T w) := by
  go_enter Tryd.func31, Tryd.ntmps31
  go_wp2_with (first
    | (go_at_call 48; (with_reducible refine (c0 _).mono ?_); rintro e w' ⟨rfl, rfl⟩)
    | (go_at_call 50; (with_reducible refine (cx _).mono ?_); rintro e w' ⟨rfl, rfl⟩)
    | (go_at_call 51; (with_reducible refine (cv.out _).mono ?_); rintro e w' ⟨⟨b, rfl, hb1, hb2, hb3⟩⟩))
  go_ret
  exact ⟨⟨b, rfl, hb1, hb2, hb3⟩⟩
set_option maxHeartbeats 1600000 in
theorem plain_Dz (s : ByteArray) (w : World) (hs : s.size ≤ 600) (n : Nat) (hn : n ≤ s.size) (L R : ByteArray) (hL : s.extract 0 n = L) (hR : s.extract n s.size = R) (hrs : R.size ≤ 600) (T : Nat)
    (c0 : ∀ W : World, Calls Tryd.prog 48 #[.string s, .int .i64 0] W fun e w' => e = .returned (.int .i64 (n : Int)) ∧ w' = W) (hr0 : 0 < R.size) (hat : ∀ h : 0 < R.size, (((R[0]'h).toNat : Nat) : Int) = 46) (k : Nat) (k0 : (k == 0) = false) (k1 : ((k : Int) == 0) = false) (hk : k + 1 ≤ R.size) (M2 R2 : ByteArray) (hM2 : R.extract 1 (k + 1) = M2) (hR2 : R.extract (k + 1) R.size = R2) (hm2 : M2.size ≤ 600) (hl2 : L.size ≤ 600) (c1 : ∀ W : World, Calls Tryd.prog 48 #[.string R, .int .i64 1] W fun e w' => e = .returned (.int .i64 (k : Int)) ∧ w' = W) (x : Int) (ok : Bool) (cx : ∀ W : World, Calls Tryd.prog 50 #[.string R2] W (EOut x ok W)) (n0 : (n == 0) = true) (n1 : ((n : Int) == 0) = true) (cn : Hid (∀ W : World, Calls Tryd.prog 49 #[] W (FOut T W))) :
    Calls Tryd.prog 31 #[.string s] w (FOut T w) := by
  go_enter Tryd.func31, Tryd.ntmps31
  go_wp2_with (first
    | (go_at_call 48; (with_reducible refine (c0 _).mono ?_); rintro e w' ⟨rfl, rfl⟩)
    | (go_at_call 48; (with_reducible refine (c1 _).mono ?_); rintro e w' ⟨rfl, rfl⟩)
    | (go_at_call 50; (with_reducible refine (cx _).mono ?_); rintro e w' ⟨rfl, rfl⟩)
    | (go_at_call 49; (with_reducible refine (cn.out _).mono ?_); rintro e w' ⟨⟨b, rfl, hb1, hb2, hb3⟩⟩))
  go_ret
  exact ⟨⟨b, rfl, hb1, hb2, hb3⟩⟩
set_option maxHeartbeats 1600000 in
theorem plain_Df (s : ByteArray) (w : World) (hs : s.size ≤ 600) (n : Nat) (hn : n ≤ s.size) (L R : ByteArray) (hL : s.extract 0 n = L) (hR : s.extract n s.size = R) (hrs : R.size ≤ 600) (T : Nat)
    (c0 : ∀ W : World, Calls Tryd.prog 48 #[.string s, .int .i64 0] W fun e w' => e = .returned (.int .i64 (n : Int)) ∧ w' = W) (hr0 : 0 < R.size) (hat : ∀ h : 0 < R.size, (((R[0]'h).toNat : Nat) : Int) = 46) (k : Nat) (k0 : (k == 0) = false) (k1 : ((k : Int) == 0) = false) (hk : k + 1 ≤ R.size) (M2 R2 : ByteArray) (hM2 : R.extract 1 (k + 1) = M2) (hR2 : R.extract (k + 1) R.size = R2) (hm2 : M2.size ≤ 600) (hl2 : L.size ≤ 600) (c1 : ∀ W : World, Calls Tryd.prog 48 #[.string R, .int .i64 1] W fun e w' => e = .returned (.int .i64 (k : Int)) ∧ w' = W) (x : Int) (cx : ∀ W : World, Calls Tryd.prog 50 #[.string R2] W (EOut x false W)) (n0 : (n == 0) = false) (n1 : ((n : Int) == 0) = false) (cn : Hid (∀ W : World, Calls Tryd.prog 49 #[] W (FOut T W))) :
    Calls Tryd.prog 31 #[.string s] w (FOut T w) := by
  go_enter Tryd.func31, Tryd.ntmps31
  go_wp2_with (first
    | (go_at_call 48; (with_reducible refine (c0 _).mono ?_); rintro e w' ⟨rfl, rfl⟩)
    | (go_at_call 48; (with_reducible refine (c1 _).mono ?_); rintro e w' ⟨rfl, rfl⟩)
    | (go_at_call 50; (with_reducible refine (cx _).mono ?_); rintro e w' ⟨rfl, rfl⟩)
    | (go_at_call 49; (with_reducible refine (cn.out _).mono ?_); rintro e w' ⟨⟨b, rfl, hb1, hb2, hb3⟩⟩))
  go_ret
  exact ⟨⟨b, rfl, hb1, hb2, hb3⟩⟩
set_option maxHeartbeats 1600000 in
theorem plain_Dg (s : ByteArray) (w : World) (hs : s.size ≤ 600) (n : Nat) (hn : n ≤ s.size) (L R : ByteArray) (hL : s.extract 0 n = L) (hR : s.extract n s.size = R) (hrs : R.size ≤ 600) (T : Nat)
    (c0 : ∀ W : World, Calls Tryd.prog 48 #[.string s, .int .i64 0] W fun e w' => e = .returned (.int .i64 (n : Int)) ∧ w' = W) (hr0 : 0 < R.size) (hat : ∀ h : 0 < R.size, (((R[0]'h).toNat : Nat) : Int) = 46) (k : Nat) (k0 : (k == 0) = false) (k1 : ((k : Int) == 0) = false) (hk : k + 1 ≤ R.size) (M2 R2 : ByteArray) (hM2 : R.extract 1 (k + 1) = M2) (hR2 : R.extract (k + 1) R.size = R2) (hm2 : M2.size ≤ 600) (hl2 : L.size ≤ 600) (c1 : ∀ W : World, Calls Tryd.prog 48 #[.string R, .int .i64 1] W fun e w' => e = .returned (.int .i64 (k : Int)) ∧ w' = W) (x : Int) (cx : ∀ W : World, Calls Tryd.prog 50 #[.string R2] W (EOut x true W)) (n0 : (n == 0) = false) (n1 : ((n : Int) == 0) = false) (hx0 : -1000000 ≤ x) (hx1 : x ≤ 1000000) (cv : Hid (∀ W : World, Calls Tryd.prog 51 #[.string (L ++ M2), .int .i64 (x - (k : Int))] W (FOut T W))) :
    Calls Tryd.prog 31 #[.string s] w (FOut T w) := by
  go_enter Tryd.func31, Tryd.ntmps31
  go_wp2_with (first
    | (go_at_call 48; (with_reducible refine (c0 _).mono ?_); rintro e w' ⟨rfl, rfl⟩)
    | (go_at_call 48; (with_reducible refine (c1 _).mono ?_); rintro e w' ⟨rfl, rfl⟩)
    | (go_at_call 50; (with_reducible refine (cx _).mono ?_); rintro e w' ⟨rfl, rfl⟩)
    | (go_at_call 51; (with_reducible refine (cv.out _).mono ?_); rintro e w' ⟨⟨b, rfl, hb1, hb2, hb3⟩⟩))
  go_ret
  exact ⟨⟨b, rfl, hb1, hb2, hb3⟩⟩
theorem sat_le (q : List Int) : ∀ (m : Int), 0 ≤ m → m ≤ 1000000 → Digs q → 0 ≤ q.foldl (fun x c => min 1000000 (10 * x + (c - 48))) m ∧ q.foldl (fun x c => min 1000000 (10 * x + (c - 48))) m ≤ 1000000 := by
  induction q with
  | nil => intro m h0 h1 _; exact ⟨h0, h1⟩
  | cons c q ih =>
    intro m h0 h1 hd
    have hc := hd c (by simp)
    exact ih (min 1000000 (10 * m + (c - 48))) (by omega) (by omega) (fun d hd2 => hd d (by simp [hd2]))
theorem dig_full {q : List Int} (h : ¬ dig q < q.length) : Digs q := by
  intro c hc
  have hle := dig_le' q
  have := digits_ge q.length (show q.length ≤ dig q by omega) c (by rw [List.take_length]; exact hc)
  exact this
theorem expd_le {q : List Int} {x : Int} (h : expd q = some x) : 0 ≤ x ∧ x ≤ 1000000 := by
  unfold expd at h
  split at h
  · cases h
  · rename_i h2
    cases h
    exact sat_le q 0 (by omega) (by omega) (dig_full (fun q => h2 (.inr q)))
theorem expo_le {l : List Int} {x : Int} (h : expo l = some x) : -1000000 ≤ x ∧ x ≤ 1000000 := by
  unfold expo at h
  split at h
  · cases h; omega
  split at h
  · split at h
    · obtain ⟨y, h1, rfl⟩ := Option.map_eq_some_iff.1 h
      have := expd_le h1; omega
    split at h
    · have := expd_le h; omega
    · have := expd_le h; omega
  · cases h
theorem by_drop (s : ByteArray) (n : Nat) : by_ (s.extract n s.size) = (by_ s).drop n := by
  rw [by_extract, List.take_of_length_le (by rw [by_length]; exact Nat.le_refl _)]
theorem by_take (s : ByteArray) (n : Nat) : by_ (s.extract 0 n) = (by_ s).take n := by rw [by_extract]; rfl
theorem by_mid (s : ByteArray) (k : Nat) : by_ (s.extract 1 (k + 1)) = (by_ s).tail.take k := by
  rw [by_extract, List.drop_take, Nat.add_sub_cancel, List.drop_one]
theorem nan_out (w : World) : Hid (∀ W : World, Calls Tryd.prog 49 #[] W (FOut (sgv .nan false) W)) := Lib.hid (fun W => rnan_any _ nan_isN W)
theorem expo_pair (l : List Int) : (expo l = none ∧ (expo l).getD 0 = 0 ∧ (expo l).isSome = false) ∨ ∃ x, expo l = some x ∧ (expo l).getD 0 = x ∧ (expo l).isSome = true := by
  cases h : expo l with
  | none => exact .inl ⟨rfl, rfl, rfl⟩
  | some x => exact .inr ⟨x, rfl, rfl, rfl⟩
set_option maxHeartbeats 1600000 in
/-- The document's plain. -/
theorem plain_any (s : ByteArray) (w : World) (hs : s.size ≤ 600) : Calls Tryd.prog 31 #[.string s] w (FOut (sgv (rval (by_ s)) false) w) := by
  have c0 := fun W : World => rdig0 s W (by omega)
  have hnle : dig (by_ s) ≤ s.size := by rw [← by_length]; exact dig_le' _
  have hL := by_take s (dig (by_ s))
  have hR := by_drop s (dig (by_ s))
  have hdl : Digs ((by_ s).take (dig (by_ s))) := fun c hc => digits_ge _ (Nat.le_refl _) c hc
  have hcn := nan_out w
  unfold rval worth
  obtain ⟨n, hn⟩ : ∃ n, dig (by_ s) = n := ⟨_, rfl⟩
  rw [hn] at hnle hL hR hdl ⊢
  simp only [hn] at c0
  obtain ⟨L, eL⟩ : ∃ L, s.extract 0 n = L := ⟨_, rfl⟩
  obtain ⟨R, eR⟩ : ∃ R, s.extract n s.size = R := ⟨_, rfl⟩
  have hLs : L.size = n := by rw [← eL, ByteArray.size_extract]; omega
  have hRs : R.size = s.size - n := by rw [← eR, ByteArray.size_extract]; omega
  rw [eL] at hL
  rw [eR] at hR
  rw [← hR, ← hL]
  rw [← hL] at hdl
  clear hn hR hL
  by_cases hr0 : R.size = 0
  · have er : by_ R = [] := List.eq_nil_of_length_eq_zero (by rw [by_length]; exact hr0)
    have cx := fun W : World => exponent_any R W (by omega)
    rw [er] at cx ⊢
    rw [if_neg (show ¬ ([] : List Int).head? = some 46 by intro q; cases q)]
    by_cases n0 : n = 0
    · rw [if_pos n0]
      exact plain_Ez s w hs n hnle L R eL eR (by omega) _ c0 hr0 _ _ cx (beq_iff_eq.2 n0) (beq_iff_eq.2 (by omega)) hcn
    · rw [if_neg n0]
      have cv := Lib.hid (fun W : World => value_any L 0 W (by omega) (by omega) (by omega) hdl)
      exact plain_Eg s w hs n hnle L R eL eR (by omega) _ c0 hr0 0 cx (beq_eq_false_iff_ne.2 n0) (beq_eq_false_iff_ne.2 (by omega)) (by omega) (by omega) cv
  have hr1 : 0 < R.size := by omega
  have hat : ∀ h : 0 < R.size, (((R[0]'h).toNat : Nat) : Int) = bt R 0 := fun h => bt_at R 0 h
  have hcR : by_ R = bt R 0 :: at_ R 1 := by have := at_cons R 0 (by omega) (by omega); rw [at_zero] at this; exact this
  obtain ⟨c, ec⟩ : ∃ c, bt R 0 = c := ⟨_, rfl⟩
  simp only [ec] at hat
  rw [ec] at hcR
  by_cases h46 : c = 46
  · subst h46
    have c1 := fun W : World => rdig1 R W (by omega) (by omega)
    have hkle := dig_at_le R 1 (by omega)
    have hdm : Digs ((at_ R 1).take (dig (at_ R 1))) := fun c hc => digits_ge _ (Nat.le_refl _) c hc
    have ehd : (by_ R).head? = some 46 := by rw [hcR]; rfl
    have etl : (by_ R).tail = at_ R 1 := by rw [hcR]; rfl
    rw [if_pos ehd, etl]
    have hkle2 : 1 + dig (at_ R 1) ≤ R.size := hkle
    clear hkle
    obtain ⟨k, hk⟩ : ∃ k, dig (at_ R 1) = k := ⟨_, rfl⟩
    rw [hk] at hkle2 hdm ⊢
    simp only [hk] at c1
    by_cases k0 : k = 0
    · subst k0
      rw [if_pos rfl]
      by_cases n0 : n = 0
      · rw [if_pos n0]
        exact plain_d0 s w hs n hnle L R eL eR (by omega) _ c0 hr1 hat c1 hcn
      · rw [if_neg n0]
        exact plain_d0 s w hs n hnle L R eL eR (by omega) _ c0 hr1 hat c1 hcn
    · rw [if_neg k0]
      have hM := by_mid R k
      have hR2 := by_drop R (k + 1)
      rw [etl] at hM
      rw [show (by_ R).drop (k + 1) = (at_ R 1).drop k by rw [hcR]; rfl] at hR2
      obtain ⟨M2, eM⟩ : ∃ M2, R.extract 1 (k + 1) = M2 := ⟨_, rfl⟩
      obtain ⟨R2, eR2⟩ : ∃ R2, R.extract (k + 1) R.size = R2 := ⟨_, rfl⟩
      have hMs : M2.size = k := by rw [← eM, ByteArray.size_extract]; omega
      have hR2s : R2.size ≤ 600 := by rw [← eR2, ByteArray.size_extract]; omega
      rw [eM] at hM
      rw [eR2] at hR2
      rw [← hM, ← hR2]
      rw [← hM] at hdm
      have cx := fun W : World => exponent_any R2 W (by omega)
      by_cases n0 : n = 0
      · rw [if_pos n0]
        exact plain_Dz s w hs n hnle L R eL eR (by omega) _ c0 hr1 hat k (beq_eq_false_iff_ne.2 k0) (beq_eq_false_iff_ne.2 (by omega)) (by omega) M2 R2 eM eR2 (by omega) (by omega) c1 _ _ cx (beq_iff_eq.2 n0) (beq_iff_eq.2 (by omega)) hcn
      · rw [if_neg n0]
        rcases expo_pair (by_ R2) with ⟨q1, q2, q3⟩ | ⟨x, q1, q2, q3⟩
        · simp only [q2, q3] at cx
          rw [q1]
          exact plain_Df s w hs n hnle L R eL eR (by omega) _ c0 hr1 hat k (beq_eq_false_iff_ne.2 k0) (beq_eq_false_iff_ne.2 (by omega)) (by omega) M2 R2 eM eR2 (by omega) (by omega) c1 _ cx (beq_eq_false_iff_ne.2 n0) (beq_eq_false_iff_ne.2 (by omega)) hcn
        · simp only [q2, q3] at cx
          rw [q1]
          have hx := expo_le q1
          have hdd : Digs (by_ (L ++ M2)) := by rw [by_append]; exact digs_append hdl hdm
          have cv := Lib.hid (fun W : World => value_any (L ++ M2) (x - (k : Int)) W (by rw [ByteArray.size_append]; omega) (by omega) (by omega) hdd)
          rw [by_append] at cv
          exact plain_Dg s w hs n hnle L R eL eR (by omega) _ c0 hr1 hat k (beq_eq_false_iff_ne.2 k0) (beq_eq_false_iff_ne.2 (by omega)) (by omega) M2 R2 eM eR2 (by omega) (by omega) c1 x cx (beq_eq_false_iff_ne.2 n0) (beq_eq_false_iff_ne.2 (by omega)) hx.1 hx.2 cv
  · have ehd : ¬ (by_ R).head? = some 46 := by rw [hcR]; intro q; exact h46 (Option.some.inj q)
    rw [if_neg ehd]
    have cx := fun W : World => exponent_any R W (by omega)
    have u1 : (c == 46) = false := beq_eq_false_iff_ne.2 h46
    by_cases n0 : n = 0
    · rw [if_pos n0]
      exact plain_Nz s w hs n hnle L R eL eR (by omega) _ c0 hr1 c hat u1 _ _ cx (beq_iff_eq.2 n0) (beq_iff_eq.2 (by omega)) hcn
    · rw [if_neg n0]
      rcases expo_pair (by_ R) with ⟨q1, q2, q3⟩ | ⟨x, q1, q2, q3⟩
      · simp only [q2, q3] at cx
        rw [q1]
        exact plain_Nf s w hs n hnle L R eL eR (by omega) _ c0 hr1 c hat u1 _ cx (beq_eq_false_iff_ne.2 n0) (beq_eq_false_iff_ne.2 (by omega)) hcn
      · simp only [q2, q3] at cx
        rw [q1]
        have hx := expo_le q1
        have cv := Lib.hid (fun W : World => value_any L x W (by omega) (by omega) (by omega) hdl)
        exact plain_Ng s w hs n hnle L R eL eR (by omega) _ c0 hr1 c hat u1 x cx (beq_eq_false_iff_ne.2 n0) (beq_eq_false_iff_ne.2 (by omega)) hx.1 hx.2 cv
theorem alike_flip {v : Val} {b : Nat} (h : Alike (sgv v false) b) : Alike (sgv v true) (flip b) := by
  unfold sgv at h ⊢
  by_cases c : v = .nan
  · rw [if_pos c] at h ⊢
    refine .inl ⟨nan_isN, ?_⟩
    rw [isN_flip]
    rcases h with h | h
    · exact h.2
    · rw [← h]; exact nan_isN
  · rw [if_neg c] at h ⊢
    rw [if_neg (by decide)] at h
    rw [if_pos rfl]
    rcases h with h | h
    · exact .inl ⟨by rw [isN_flip]; exact h.1, by rw [isN_flip]; exact h.2⟩
    · exact .inr (by rw [h])
set_option maxHeartbeats 800000 in
theorem ref_minus (s : ByteArray) (w : World) (hs : s.size ≤ 600) (h0 : 0 < s.size) (hat : ∀ h : 0 < s.size, (((s[0]'h).toNat : Nat) : Int) = 45) (S : ByteArray) (hS : s.extract 1 s.size = S) (v : Val)
    (cp : Hid (∀ W : World, Calls Tryd.prog 31 #[.string S] W (FOut (sgv v false) W))) :
    Calls Tryd.prog 13 #[.string s] w (FOut (sgv v true) w) := by
  go_enter Tryd.func13, Tryd.ntmps13
  go_wp2_with (go_at_call 31; (with_reducible refine (cp.out _).mono ?_); rintro e w' ⟨⟨b, rfl, hb1, hb2, hb3⟩⟩)
  go_ret
  exact ⟨⟨flip b, rfl, alike_flip hb1, flip_lt hb2, hb3⟩⟩
set_option maxHeartbeats 800000 in
theorem ref_plain (s : ByteArray) (w : World) (hs : s.size ≤ 600) (h0 : 0 < s.size) (c : Int) (hat : ∀ h : 0 < s.size, (((s[0]'h).toNat : Nat) : Int) = c) (u : (c == 45) = false) (T : Nat)
    (cp : Hid (∀ W : World, Calls Tryd.prog 31 #[.string s] W (FOut T W))) :
    Calls Tryd.prog 13 #[.string s] w (FOut T w) := by
  go_enter Tryd.func13, Tryd.ntmps13
  go_wp2_with (go_at_call 31; (with_reducible refine (cp.out _).mono ?_); rintro e w' ⟨⟨b, rfl, hb1, hb2, hb3⟩⟩)
  go_ret
  exact ⟨⟨b, rfl, hb1, hb2, hb3⟩⟩
set_option maxHeartbeats 800000 in
theorem ref_nil (s : ByteArray) (w : World) (h0 : s.size = 0) (T : Nat)
    (cp : Hid (∀ W : World, Calls Tryd.prog 31 #[.string s] W (FOut T W))) :
    Calls Tryd.prog 13 #[.string s] w (FOut T w) := by
  go_enter Tryd.func13, Tryd.ntmps13
  go_wp2_with (go_at_call 31; (with_reducible refine (cp.out _).mono ?_); rintro e w' ⟨⟨b, rfl, hb1, hb2, hb3⟩⟩)
  go_ret
  exact ⟨⟨b, rfl, hb1, hb2, hb3⟩⟩
/-- The document's Real. -/
theorem ref_any (s : ByteArray) (w : World) (hs : s.size ≤ 600) : Calls Tryd.prog 13 #[.string s] w (FOut (realF (by_ s)) w) := by
  by_cases h0 : s.size = 0
  · have e : by_ s = [] := List.eq_nil_of_length_eq_zero (by rw [by_length]; exact h0)
    rw [real_plain (l := by_ s) (by rw [e]; intro q; cases q)]
    exact ref_nil s w h0 _ (Lib.hid (fun W => plain_any s W hs))
  have h1 : 0 < s.size := by omega
  have hat : ∀ h : 0 < s.size, (((s[0]'h).toNat : Nat) : Int) = bt s 0 := fun h => bt_at s 0 h
  have hc : by_ s = bt s 0 :: at_ s 1 := by have := at_cons s 0 (by omega) (by omega); rw [at_zero] at this; exact this
  by_cases h45 : bt s 0 = 45
  · rw [h45] at hc
    simp only [h45] at hat
    have e : realF (by_ s) = sgv (rval (at_ s 1)) true := by rw [hc, real_minus]
    have e2 : by_ (s.extract 1 s.size) = at_ s 1 := by rw [by_drop, hc]; rfl
    rw [e, ← e2]
    exact ref_minus s w hs h1 hat _ rfl _ (Lib.hid (fun W => plain_any _ W (by rw [ByteArray.size_extract]; omega)))
  · rw [real_plain (l := by_ s) (by rw [hc]; intro q; exact h45 (Option.some.inj q))]
    exact ref_plain s w hs h1 _ hat (beq_eq_false_iff_ne.2 h45) _ (Lib.hid (fun W => plain_any s W hs))
end Go.Proofs.YtchbmihhkjpkaaaDoor.G
