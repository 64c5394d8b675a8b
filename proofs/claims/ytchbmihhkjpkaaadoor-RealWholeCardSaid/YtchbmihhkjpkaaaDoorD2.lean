/-
  The document's answers of layer 3: exponent. (Printed by gen_d2.py.)
-/
import Derived.Test.YtchbmihhkjpkaaaDoorD1
namespace Go.Proofs.YtchbmihhkjpkaaaDoor.G
open Go.RowKit Go.Proofs.YtchbmihhkjpkaaaDoorW.PrintWords Go.Proofs.YtchbmihhkjpkaaaDoor.M
set_option linter.unusedVariables false
set_option linter.unusedSimpArgs false

theorem emp_yes {a : ByteArray} (h : a.size = 0) : a.toList.isEmpty = true := by
  have : a.toList = [] := by rw [ByteArray.toList_eq]; exact List.length_eq_zero_iff.1 h
  rw [this]; rfl
theorem emp_no {a : ByteArray} (h : 0 < a.size) : a.toList.isEmpty = false := by
  have : 0 < a.toList.length := by rw [ByteArray.toList_eq]; exact h
  cases hl : a.toList with
  | nil => rw [hl] at this; exact absurd this (by decide)
  | cons x l => rfl
/-- What 'exponent' answers. -/
def EOut (x : Int) (b : Bool) (w : World) (e : Ending) (w' : World) : Prop := e = .returned (.tuple #[.int .i64 x, .bool b]) ∧ w' = w
set_option maxHeartbeats 800000 in
theorem exp_nil (s : ByteArray) (w : World) (h : s.toList.isEmpty = true) : Calls Tryd.prog 50 #[.string s] w (EOut 0 true w) := by
  go_enter Tryd.func50, Tryd.ntmps50
  go_wp2
  go_ret2
  exact ⟨rfl, rfl⟩
set_option maxHeartbeats 800000 in
theorem exp_else (s : ByteArray) (w : World) (hs : s.size ≤ 2000) (h : s.toList.isEmpty = false) (h0 : 0 < s.size) (c : Int) (hat : ∀ h : 0 < s.size, (((s[0]'h).toNat : Nat) : Int) = c) (u1 : (c == 101) = false) (u2 : (c == 69) = false) (u3 : (c != 101) = true) (u4 : (c != 69) = true) :
    Calls Tryd.prog 50 #[.string s] w (EOut 0 false w) := by
  go_enter Tryd.func50, Tryd.ntmps50
  go_wp2
  go_ret2
  exact ⟨rfl, rfl⟩
set_option maxHeartbeats 1600000 in
theorem exp_101A_zero (s : ByteArray) (w : World) (hs : s.size ≤ 2000) (h : s.toList.isEmpty = false) (n1 : s.size = 1) (h0 : 0 < s.size) (hat0 : ∀ h : 0 < s.size, (((s[0]'h).toNat : Nat) : Int) = 101)
    (hD : ∀ W : World, Calls Tryd.prog 48 #[.string s, .int .i64 1] W fun e w' => e = .returned (.int .i64 0) ∧ w' = W) :
    Calls Tryd.prog 50 #[.string s] w (EOut 0 false w) := by
  go_enter Tryd.func50, Tryd.ntmps50
  go_wp2_with (go_at_call 48; (with_reducible refine (hD _).mono ?_); rintro e w' ⟨rfl, rfl⟩)
  go_ret2
  exact ⟨rfl, rfl⟩
set_option maxHeartbeats 1600000 in
theorem exp_101P_zero (s : ByteArray) (w : World) (hs : s.size ≤ 2000) (h : s.toList.isEmpty = false) (n1 : 1 < s.size) (h0 : 0 < s.size) (hat0 : ∀ h : 0 < s.size, (((s[0]'h).toNat : Nat) : Int) = 101) (hat1 : ∀ h : 1 < s.size, (((s[1]'h).toNat : Nat) : Int) = 43)
    (hD : ∀ W : World, Calls Tryd.prog 48 #[.string s, .int .i64 2] W fun e w' => e = .returned (.int .i64 0) ∧ w' = W) :
    Calls Tryd.prog 50 #[.string s] w (EOut 0 false w) := by
  go_enter Tryd.func50, Tryd.ntmps50
  go_wp2_with (go_at_call 48; (with_reducible refine (hD _).mono ?_); rintro e w' ⟨rfl, rfl⟩)
  go_ret2
  exact ⟨rfl, rfl⟩
set_option maxHeartbeats 1600000 in
theorem exp_101P_short (s : ByteArray) (w : World) (hs : s.size ≤ 2000) (h : s.toList.isEmpty = false) (n1 : 1 < s.size) (h0 : 0 < s.size) (hat0 : ∀ h : 0 < s.size, (((s[0]'h).toNat : Nat) : Int) = 101) (hat1 : ∀ h : 1 < s.size, (((s[1]'h).toNat : Nat) : Int) = 43) (d : Nat) (d0 : (d == 0) = false) (d1 : ((d : Int) == 0) = false) (d2 : d ≤ 2000) (hsum : (2 : Int) + (d : Int) < (s.size : Int))
    (hD : ∀ W : World, Calls Tryd.prog 48 #[.string s, .int .i64 2] W fun e w' => e = .returned (.int .i64 (d : Int)) ∧ w' = W) :
    Calls Tryd.prog 50 #[.string s] w (EOut 0 false w) := by
  go_enter Tryd.func50, Tryd.ntmps50
  go_wp2_with (go_at_call 48; (with_reducible refine (hD _).mono ?_); rintro e w' ⟨rfl, rfl⟩)
  go_ret2
  exact ⟨rfl, rfl⟩
set_option maxHeartbeats 1600000 in
theorem exp_101P_good (s : ByteArray) (w : World) (hs : s.size ≤ 2000) (h : s.toList.isEmpty = false) (n1 : 1 < s.size) (h0 : 0 < s.size) (hat0 : ∀ h : 0 < s.size, (((s[0]'h).toNat : Nat) : Int) = 101) (hat1 : ∀ h : 1 < s.size, (((s[1]'h).toNat : Nat) : Int) = 43) (d : Nat) (d0 : (d == 0) = false) (d1 : ((d : Int) == 0) = false) (d2 : d ≤ 2000) (hsum : ¬ (2 : Int) + (d : Int) < (s.size : Int))
    (hD : ∀ W : World, Calls Tryd.prog 48 #[.string s, .int .i64 2] W fun e w' => e = .returned (.int .i64 (d : Int)) ∧ w' = W) (hi : 2 ≤ s.size) (HD : Hid (∀ k : Nat, 2 ≤ k → k < s.size → 48 ≤ bt s k ∧ bt s k ≤ 57)) (T : Int) (HT : Hid (sat (at_ s 2) = T)) :
    Calls Tryd.prog 50 #[.string s] w (EOut T true w) := by
  go_enter Tryd.func50, Tryd.ntmps50
  go_wp2_with (go_at_call 48; (with_reducible refine (hD _).mono ?_); rintro e w' ⟨rfl, rfl⟩)
  clear hD hsum d0 d1
  go_loop [6, 7] (fun mv kv => ∃ (k : Nat) (m : Int), kv = .int .i64 k ∧ mv = .int .i64 m ∧ 2 ≤ k ∧ k ≤ s.size ∧ 0 ≤ m ∧ m ≤ 1000000 ∧ Hid ((at_ s k).foldl stepS m = T)) (fun _ kv => s.size - (intOf kv).toNat)
  case atStart => exact ⟨2, 0, rfl, rfl, by omega, by omega, by omega, by omega, HT⟩
  case round =>
    obtain ⟨k, m, rfl, rfl, hk0, hk, hm0, hm1, hfo⟩ := hrel
    by_cases hlt : k < s.size
    · have hatk : ∀ h : k < s.size, (((s[k]'h).toNat : Nat) : Int) = bt s (k : Int) := fun h => bt_at s k h
      have hc := HD.out k hk0 hlt
      have hcons := at_cons s k (by omega) (by omega)
      have hfo2 : Hid ((at_ s ((k + 1 : Nat) : Int)).foldl stepS (stepS m (bt s k)) = T) := Lib.hid (by rw [← hfo.out, hcons]; rfl)
      obtain ⟨c, hc2⟩ : ∃ c, bt s (k : Int) = c := ⟨_, rfl⟩
      rw [hc2] at hc hfo2
      simp only [hc2] at hatk
      clear hc2 hcons hfo hat0 hat1
      by_cases hq : 10 * m + c - 48 ≤ 1000000
      · have e : stepS m c = 10 * m + c - 48 := by unfold stepS; omega
        rw [e] at hfo2
        clear e
        go_wp2
        exact ⟨⟨k + 1, _, rfl, rfl, by omega, by omega, by omega, by omega, hfo2⟩, by show s.size - ((k : Int) + 1).toNat < s.size - ((k : Nat) : Int).toNat; omega⟩
      · have e : stepS m c = 1000000 := by unfold stepS; omega
        rw [e] at hfo2
        clear e
        go_wp2
        exact ⟨⟨k + 1, _, rfl, rfl, by omega, by omega, by omega, by omega, hfo2⟩, by show s.size - ((k : Int) + 1).toNat < s.size - ((k : Nat) : Int).toNat; omega⟩
    · obtain rfl : k = s.size := by omega
      have hfo3 : Hid (m = T) := Lib.hid (by
        have := hfo.out
        rw [at_nil s s.size (by omega)] at this
        exact this)
      clear hfo HT HD hk0 hk
      go_wp2
      go_ret2
      have hmt := hfo3.out
      subst hmt
      exact ⟨rfl, rfl⟩
set_option maxHeartbeats 1600000 in
theorem exp_101M_zero (s : ByteArray) (w : World) (hs : s.size ≤ 2000) (h : s.toList.isEmpty = false) (n1 : 1 < s.size) (h0 : 0 < s.size) (hat0 : ∀ h : 0 < s.size, (((s[0]'h).toNat : Nat) : Int) = 101) (hat1 : ∀ h : 1 < s.size, (((s[1]'h).toNat : Nat) : Int) = 45)
    (hD : ∀ W : World, Calls Tryd.prog 48 #[.string s, .int .i64 2] W fun e w' => e = .returned (.int .i64 0) ∧ w' = W) :
    Calls Tryd.prog 50 #[.string s] w (EOut 0 false w) := by
  go_enter Tryd.func50, Tryd.ntmps50
  go_wp2_with (go_at_call 48; (with_reducible refine (hD _).mono ?_); rintro e w' ⟨rfl, rfl⟩)
  go_ret2
  exact ⟨rfl, rfl⟩
set_option maxHeartbeats 1600000 in
theorem exp_101M_short (s : ByteArray) (w : World) (hs : s.size ≤ 2000) (h : s.toList.isEmpty = false) (n1 : 1 < s.size) (h0 : 0 < s.size) (hat0 : ∀ h : 0 < s.size, (((s[0]'h).toNat : Nat) : Int) = 101) (hat1 : ∀ h : 1 < s.size, (((s[1]'h).toNat : Nat) : Int) = 45) (d : Nat) (d0 : (d == 0) = false) (d1 : ((d : Int) == 0) = false) (d2 : d ≤ 2000) (hsum : (2 : Int) + (d : Int) < (s.size : Int))
    (hD : ∀ W : World, Calls Tryd.prog 48 #[.string s, .int .i64 2] W fun e w' => e = .returned (.int .i64 (d : Int)) ∧ w' = W) :
    Calls Tryd.prog 50 #[.string s] w (EOut 0 false w) := by
  go_enter Tryd.func50, Tryd.ntmps50
  go_wp2_with (go_at_call 48; (with_reducible refine (hD _).mono ?_); rintro e w' ⟨rfl, rfl⟩)
  go_ret2
  exact ⟨rfl, rfl⟩
set_option maxHeartbeats 1600000 in
theorem exp_101M_good (s : ByteArray) (w : World) (hs : s.size ≤ 2000) (h : s.toList.isEmpty = false) (n1 : 1 < s.size) (h0 : 0 < s.size) (hat0 : ∀ h : 0 < s.size, (((s[0]'h).toNat : Nat) : Int) = 101) (hat1 : ∀ h : 1 < s.size, (((s[1]'h).toNat : Nat) : Int) = 45) (d : Nat) (d0 : (d == 0) = false) (d1 : ((d : Int) == 0) = false) (d2 : d ≤ 2000) (hsum : ¬ (2 : Int) + (d : Int) < (s.size : Int))
    (hD : ∀ W : World, Calls Tryd.prog 48 #[.string s, .int .i64 2] W fun e w' => e = .returned (.int .i64 (d : Int)) ∧ w' = W) (hi : 2 ≤ s.size) (HD : Hid (∀ k : Nat, 2 ≤ k → k < s.size → 48 ≤ bt s k ∧ bt s k ≤ 57)) (T : Int) (HT : Hid (sat (at_ s 2) = T)) :
    Calls Tryd.prog 50 #[.string s] w (EOut (-T) true w) := by
  go_enter Tryd.func50, Tryd.ntmps50
  go_wp2_with (go_at_call 48; (with_reducible refine (hD _).mono ?_); rintro e w' ⟨rfl, rfl⟩)
  clear hD hsum d0 d1
  go_loop [6, 7] (fun mv kv => ∃ (k : Nat) (m : Int), kv = .int .i64 k ∧ mv = .int .i64 m ∧ 2 ≤ k ∧ k ≤ s.size ∧ 0 ≤ m ∧ m ≤ 1000000 ∧ Hid ((at_ s k).foldl stepS m = T)) (fun _ kv => s.size - (intOf kv).toNat)
  case atStart => exact ⟨2, 0, rfl, rfl, by omega, by omega, by omega, by omega, HT⟩
  case round =>
    obtain ⟨k, m, rfl, rfl, hk0, hk, hm0, hm1, hfo⟩ := hrel
    by_cases hlt : k < s.size
    · have hatk : ∀ h : k < s.size, (((s[k]'h).toNat : Nat) : Int) = bt s (k : Int) := fun h => bt_at s k h
      have hc := HD.out k hk0 hlt
      have hcons := at_cons s k (by omega) (by omega)
      have hfo2 : Hid ((at_ s ((k + 1 : Nat) : Int)).foldl stepS (stepS m (bt s k)) = T) := Lib.hid (by rw [← hfo.out, hcons]; rfl)
      obtain ⟨c, hc2⟩ : ∃ c, bt s (k : Int) = c := ⟨_, rfl⟩
      rw [hc2] at hc hfo2
      simp only [hc2] at hatk
      clear hc2 hcons hfo hat0 hat1
      by_cases hq : 10 * m + c - 48 ≤ 1000000
      · have e : stepS m c = 10 * m + c - 48 := by unfold stepS; omega
        rw [e] at hfo2
        clear e
        go_wp2
        exact ⟨⟨k + 1, _, rfl, rfl, by omega, by omega, by omega, by omega, hfo2⟩, by show s.size - ((k : Int) + 1).toNat < s.size - ((k : Nat) : Int).toNat; omega⟩
      · have e : stepS m c = 1000000 := by unfold stepS; omega
        rw [e] at hfo2
        clear e
        go_wp2
        exact ⟨⟨k + 1, _, rfl, rfl, by omega, by omega, by omega, by omega, hfo2⟩, by show s.size - ((k : Int) + 1).toNat < s.size - ((k : Nat) : Int).toNat; omega⟩
    · obtain rfl : k = s.size := by omega
      have hfo3 : Hid (m = T) := Lib.hid (by
        have := hfo.out
        rw [at_nil s s.size (by omega)] at this
        exact this)
      clear hfo HT HD hk0 hk
      go_wp2
      go_ret2
      have hmt := hfo3.out
      subst hmt
      exact ⟨rfl, rfl⟩
set_option maxHeartbeats 1600000 in
theorem exp_101O_zero (s : ByteArray) (w : World) (hs : s.size ≤ 2000) (h : s.toList.isEmpty = false) (n1 : 1 < s.size) (h0 : 0 < s.size) (hat0 : ∀ h : 0 < s.size, (((s[0]'h).toNat : Nat) : Int) = 101) (c1 : Int) (hat1 : ∀ h : 1 < s.size, (((s[1]'h).toNat : Nat) : Int) = c1) (u1 : (c1 == 43) = false) (u2 : (c1 == 45) = false)
    (hD : ∀ W : World, Calls Tryd.prog 48 #[.string s, .int .i64 1] W fun e w' => e = .returned (.int .i64 0) ∧ w' = W) :
    Calls Tryd.prog 50 #[.string s] w (EOut 0 false w) := by
  go_enter Tryd.func50, Tryd.ntmps50
  go_wp2_with (go_at_call 48; (with_reducible refine (hD _).mono ?_); rintro e w' ⟨rfl, rfl⟩)
  go_ret2
  exact ⟨rfl, rfl⟩
set_option maxHeartbeats 1600000 in
theorem exp_101O_short (s : ByteArray) (w : World) (hs : s.size ≤ 2000) (h : s.toList.isEmpty = false) (n1 : 1 < s.size) (h0 : 0 < s.size) (hat0 : ∀ h : 0 < s.size, (((s[0]'h).toNat : Nat) : Int) = 101) (c1 : Int) (hat1 : ∀ h : 1 < s.size, (((s[1]'h).toNat : Nat) : Int) = c1) (u1 : (c1 == 43) = false) (u2 : (c1 == 45) = false) (d : Nat) (d0 : (d == 0) = false) (d1 : ((d : Int) == 0) = false) (d2 : d ≤ 2000) (hsum : (1 : Int) + (d : Int) < (s.size : Int))
    (hD : ∀ W : World, Calls Tryd.prog 48 #[.string s, .int .i64 1] W fun e w' => e = .returned (.int .i64 (d : Int)) ∧ w' = W) :
    Calls Tryd.prog 50 #[.string s] w (EOut 0 false w) := by
  go_enter Tryd.func50, Tryd.ntmps50
  go_wp2_with (go_at_call 48; (with_reducible refine (hD _).mono ?_); rintro e w' ⟨rfl, rfl⟩)
  go_ret2
  exact ⟨rfl, rfl⟩
set_option maxHeartbeats 1600000 in
theorem exp_101O_good (s : ByteArray) (w : World) (hs : s.size ≤ 2000) (h : s.toList.isEmpty = false) (n1 : 1 < s.size) (h0 : 0 < s.size) (hat0 : ∀ h : 0 < s.size, (((s[0]'h).toNat : Nat) : Int) = 101) (c1 : Int) (hat1 : ∀ h : 1 < s.size, (((s[1]'h).toNat : Nat) : Int) = c1) (u1 : (c1 == 43) = false) (u2 : (c1 == 45) = false) (d : Nat) (d0 : (d == 0) = false) (d1 : ((d : Int) == 0) = false) (d2 : d ≤ 2000) (hsum : ¬ (1 : Int) + (d : Int) < (s.size : Int))
    (hD : ∀ W : World, Calls Tryd.prog 48 #[.string s, .int .i64 1] W fun e w' => e = .returned (.int .i64 (d : Int)) ∧ w' = W) (hi : 1 ≤ s.size) (HD : Hid (∀ k : Nat, 1 ≤ k → k < s.size → 48 ≤ bt s k ∧ bt s k ≤ 57)) (T : Int) (HT : Hid (sat (at_ s 1) = T)) :
    Calls Tryd.prog 50 #[.string s] w (EOut T true w) := by
  go_enter Tryd.func50, Tryd.ntmps50
  go_wp2_with (go_at_call 48; (with_reducible refine (hD _).mono ?_); rintro e w' ⟨rfl, rfl⟩)
  clear hD hsum d0 d1
  go_loop [6, 7] (fun mv kv => ∃ (k : Nat) (m : Int), kv = .int .i64 k ∧ mv = .int .i64 m ∧ 1 ≤ k ∧ k ≤ s.size ∧ 0 ≤ m ∧ m ≤ 1000000 ∧ Hid ((at_ s k).foldl stepS m = T)) (fun _ kv => s.size - (intOf kv).toNat)
  case atStart => exact ⟨1, 0, rfl, rfl, by omega, by omega, by omega, by omega, HT⟩
  case round =>
    obtain ⟨k, m, rfl, rfl, hk0, hk, hm0, hm1, hfo⟩ := hrel
    by_cases hlt : k < s.size
    · have hatk : ∀ h : k < s.size, (((s[k]'h).toNat : Nat) : Int) = bt s (k : Int) := fun h => bt_at s k h
      have hc := HD.out k hk0 hlt
      have hcons := at_cons s k (by omega) (by omega)
      have hfo2 : Hid ((at_ s ((k + 1 : Nat) : Int)).foldl stepS (stepS m (bt s k)) = T) := Lib.hid (by rw [← hfo.out, hcons]; rfl)
      obtain ⟨c, hc2⟩ : ∃ c, bt s (k : Int) = c := ⟨_, rfl⟩
      rw [hc2] at hc hfo2
      simp only [hc2] at hatk
      clear hc2 hcons hfo hat0 hat1
      by_cases hq : 10 * m + c - 48 ≤ 1000000
      · have e : stepS m c = 10 * m + c - 48 := by unfold stepS; omega
        rw [e] at hfo2
        clear e
        go_wp2
        exact ⟨⟨k + 1, _, rfl, rfl, by omega, by omega, by omega, by omega, hfo2⟩, by show s.size - ((k : Int) + 1).toNat < s.size - ((k : Nat) : Int).toNat; omega⟩
      · have e : stepS m c = 1000000 := by unfold stepS; omega
        rw [e] at hfo2
        clear e
        go_wp2
        exact ⟨⟨k + 1, _, rfl, rfl, by omega, by omega, by omega, by omega, hfo2⟩, by show s.size - ((k : Int) + 1).toNat < s.size - ((k : Nat) : Int).toNat; omega⟩
    · obtain rfl : k = s.size := by omega
      have hfo3 : Hid (m = T) := Lib.hid (by
        have := hfo.out
        rw [at_nil s s.size (by omega)] at this
        exact this)
      clear hfo HT HD hk0 hk
      go_wp2
      go_ret2
      have hmt := hfo3.out
      subst hmt
      exact ⟨rfl, rfl⟩
set_option maxHeartbeats 1600000 in
theorem exp_69A_zero (s : ByteArray) (w : World) (hs : s.size ≤ 2000) (h : s.toList.isEmpty = false) (n1 : s.size = 1) (h0 : 0 < s.size) (hat0 : ∀ h : 0 < s.size, (((s[0]'h).toNat : Nat) : Int) = 69)
    (hD : ∀ W : World, Calls Tryd.prog 48 #[.string s, .int .i64 1] W fun e w' => e = .returned (.int .i64 0) ∧ w' = W) :
    Calls Tryd.prog 50 #[.string s] w (EOut 0 false w) := by
  go_enter Tryd.func50, Tryd.ntmps50
  go_wp2_with (go_at_call 48; (with_reducible refine (hD _).mono ?_); rintro e w' ⟨rfl, rfl⟩)
  go_ret2
  exact ⟨rfl, rfl⟩
set_option maxHeartbeats 1600000 in
theorem exp_69P_zero (s : ByteArray) (w : World) (hs : s.size ≤ 2000) (h : s.toList.isEmpty = false) (n1 : 1 < s.size) (h0 : 0 < s.size) (hat0 : ∀ h : 0 < s.size, (((s[0]'h).toNat : Nat) : Int) = 69) (hat1 : ∀ h : 1 < s.size, (((s[1]'h).toNat : Nat) : Int) = 43)
    (hD : ∀ W : World, Calls Tryd.prog 48 #[.string s, .int .i64 2] W fun e w' => e = .returned (.int .i64 0) ∧ w' = W) :
    Calls Tryd.prog 50 #[.string s] w (EOut 0 false w) := by
  go_enter Tryd.func50, Tryd.ntmps50
  go_wp2_with (go_at_call 48; (with_reducible refine (hD _).mono ?_); rintro e w' ⟨rfl, rfl⟩)
  go_ret2
  exact ⟨rfl, rfl⟩
set_option maxHeartbeats 1600000 in
theorem exp_69P_short (s : ByteArray) (w : World) (hs : s.size ≤ 2000) (h : s.toList.isEmpty = false) (n1 : 1 < s.size) (h0 : 0 < s.size) (hat0 : ∀ h : 0 < s.size, (((s[0]'h).toNat : Nat) : Int) = 69) (hat1 : ∀ h : 1 < s.size, (((s[1]'h).toNat : Nat) : Int) = 43) (d : Nat) (d0 : (d == 0) = false) (d1 : ((d : Int) == 0) = false) (d2 : d ≤ 2000) (hsum : (2 : Int) + (d : Int) < (s.size : Int))
    (hD : ∀ W : World, Calls Tryd.prog 48 #[.string s, .int .i64 2] W fun e w' => e = .returned (.int .i64 (d : Int)) ∧ w' = W) :
    Calls Tryd.prog 50 #[.string s] w (EOut 0 false w) := by
  go_enter Tryd.func50, Tryd.ntmps50
  go_wp2_with (go_at_call 48; (with_reducible refine (hD _).mono ?_); rintro e w' ⟨rfl, rfl⟩)
  go_ret2
  exact ⟨rfl, rfl⟩
set_option maxHeartbeats 1600000 in
theorem exp_69P_good (s : ByteArray) (w : World) (hs : s.size ≤ 2000) (h : s.toList.isEmpty = false) (n1 : 1 < s.size) (h0 : 0 < s.size) (hat0 : ∀ h : 0 < s.size, (((s[0]'h).toNat : Nat) : Int) = 69) (hat1 : ∀ h : 1 < s.size, (((s[1]'h).toNat : Nat) : Int) = 43) (d : Nat) (d0 : (d == 0) = false) (d1 : ((d : Int) == 0) = false) (d2 : d ≤ 2000) (hsum : ¬ (2 : Int) + (d : Int) < (s.size : Int))
    (hD : ∀ W : World, Calls Tryd.prog 48 #[.string s, .int .i64 2] W fun e w' => e = .returned (.int .i64 (d : Int)) ∧ w' = W) (hi : 2 ≤ s.size) (HD : Hid (∀ k : Nat, 2 ≤ k → k < s.size → 48 ≤ bt s k ∧ bt s k ≤ 57)) (T : Int) (HT : Hid (sat (at_ s 2) = T)) :
    Calls Tryd.prog 50 #[.string s] w (EOut T true w) := by
  go_enter Tryd.func50, Tryd.ntmps50
  go_wp2_with (go_at_call 48; (with_reducible refine (hD _).mono ?_); rintro e w' ⟨rfl, rfl⟩)
  clear hD hsum d0 d1
  go_loop [6, 7] (fun mv kv => ∃ (k : Nat) (m : Int), kv = .int .i64 k ∧ mv = .int .i64 m ∧ 2 ≤ k ∧ k ≤ s.size ∧ 0 ≤ m ∧ m ≤ 1000000 ∧ Hid ((at_ s k).foldl stepS m = T)) (fun _ kv => s.size - (intOf kv).toNat)
  case atStart => exact ⟨2, 0, rfl, rfl, by omega, by omega, by omega, by omega, HT⟩
  case round =>
    obtain ⟨k, m, rfl, rfl, hk0, hk, hm0, hm1, hfo⟩ := hrel
    by_cases hlt : k < s.size
    · have hatk : ∀ h : k < s.size, (((s[k]'h).toNat : Nat) : Int) = bt s (k : Int) := fun h => bt_at s k h
      have hc := HD.out k hk0 hlt
      have hcons := at_cons s k (by omega) (by omega)
      have hfo2 : Hid ((at_ s ((k + 1 : Nat) : Int)).foldl stepS (stepS m (bt s k)) = T) := Lib.hid (by rw [← hfo.out, hcons]; rfl)
      obtain ⟨c, hc2⟩ : ∃ c, bt s (k : Int) = c := ⟨_, rfl⟩
      rw [hc2] at hc hfo2
      simp only [hc2] at hatk
      clear hc2 hcons hfo hat0 hat1
      by_cases hq : 10 * m + c - 48 ≤ 1000000
      · have e : stepS m c = 10 * m + c - 48 := by unfold stepS; omega
        rw [e] at hfo2
        clear e
        go_wp2
        exact ⟨⟨k + 1, _, rfl, rfl, by omega, by omega, by omega, by omega, hfo2⟩, by show s.size - ((k : Int) + 1).toNat < s.size - ((k : Nat) : Int).toNat; omega⟩
      · have e : stepS m c = 1000000 := by unfold stepS; omega
        rw [e] at hfo2
        clear e
        go_wp2
        exact ⟨⟨k + 1, _, rfl, rfl, by omega, by omega, by omega, by omega, hfo2⟩, by show s.size - ((k : Int) + 1).toNat < s.size - ((k : Nat) : Int).toNat; omega⟩
    · obtain rfl : k = s.size := by omega
      have hfo3 : Hid (m = T) := Lib.hid (by
        have := hfo.out
        rw [at_nil s s.size (by omega)] at this
        exact this)
      clear hfo HT HD hk0 hk
      go_wp2
      go_ret2
      have hmt := hfo3.out
      subst hmt
      exact ⟨rfl, rfl⟩
set_option maxHeartbeats 1600000 in
theorem exp_69M_zero (s : ByteArray) (w : World) (hs : s.size ≤ 2000) (h : s.toList.isEmpty = false) (n1 : 1 < s.size) (h0 : 0 < s.size) (hat0 : ∀ h : 0 < s.size, (((s[0]'h).toNat : Nat) : Int) = 69) (hat1 : ∀ h : 1 < s.size, (((s[1]'h).toNat : Nat) : Int) = 45)
    (hD : ∀ W : World, Calls Tryd.prog 48 #[.string s, .int .i64 2] W fun e w' => e = .returned (.int .i64 0) ∧ w' = W) :
    Calls Tryd.prog 50 #[.string s] w (EOut 0 false w) := by
  go_enter Tryd.func50, Tryd.ntmps50
  go_wp2_with (go_at_call 48; (with_reducible refine (hD _).mono ?_); rintro e w' ⟨rfl, rfl⟩)
  go_ret2
  exact ⟨rfl, rfl⟩
set_option maxHeartbeats 1600000 in
theorem exp_69M_short (s : ByteArray) (w : World) (hs : s.size ≤ 2000) (h : s.toList.isEmpty = false) (n1 : 1 < s.size) (h0 : 0 < s.size) (hat0 : ∀ h : 0 < s.size, (((s[0]'h).toNat : Nat) : Int) = 69) (hat1 : ∀ h : 1 < s.size, (((s[1]'h).toNat : Nat) : Int) = 45) (d : Nat) (d0 : (d == 0) = false) (d1 : ((d : Int) == 0) = false) (d2 : d ≤ 2000) (hsum : (2 : Int) + (d : Int) < (s.size : Int))
    (hD : ∀ W : World, Calls Tryd.prog 48 #[.string s, .int .i64 2] W fun e w' => e = .returned (.int .i64 (d : Int)) ∧ w' = W) :
    Calls Tryd.prog 50 #[.string s] w (EOut 0 false w) := by
  go_enter Tryd.func50, Tryd.ntmps50
  go_wp2_with (go_at_call 48; (with_reducible refine (hD _).mono ?_); rintro e w' ⟨rfl, rfl⟩)
  go_ret2
  exact ⟨rfl, rfl⟩
set_option maxHeartbeats 1600000 in
theorem exp_69M_good (s : ByteArray) (w : World) (hs : s.size ≤ 2000) (h : s.toList.isEmpty = false) (n1 : 1 < s.size) (h0 : 0 < s.size) (hat0 : ∀ h : 0 < s.size, (((s[0]'h).toNat : Nat) : Int) = 69) (hat1 : ∀ h : 1 < s.size, (((s[1]'h).toNat : Nat) : Int) = 45) (d : Nat) (d0 : (d == 0) = false) (d1 : ((d : Int) == 0) = false) (d2 : d ≤ 2000) (hsum : ¬ (2 : Int) + (d : Int) < (s.size : Int))
    (hD : ∀ W : World, Calls Tryd.prog 48 #[.string s, .int .i64 2] W fun e w' => e = .returned (.int .i64 (d : Int)) ∧ w' = W) (hi : 2 ≤ s.size) (HD : Hid (∀ k : Nat, 2 ≤ k → k < s.size → 48 ≤ bt s k ∧ bt s k ≤ 57)) (T : Int) (HT : Hid (sat (at_ s 2) = T)) :
    Calls Tryd.prog 50 #[.string s] w (EOut (-T) true w) := by
  go_enter Tryd.func50, Tryd.ntmps50
  go_wp2_with (go_at_call 48; (with_reducible refine (hD _).mono ?_); rintro e w' ⟨rfl, rfl⟩)
  clear hD hsum d0 d1
  go_loop [6, 7] (fun mv kv => ∃ (k : Nat) (m : Int), kv = .int .i64 k ∧ mv = .int .i64 m ∧ 2 ≤ k ∧ k ≤ s.size ∧ 0 ≤ m ∧ m ≤ 1000000 ∧ Hid ((at_ s k).foldl stepS m = T)) (fun _ kv => s.size - (intOf kv).toNat)
  case atStart => exact ⟨2, 0, rfl, rfl, by omega, by omega, by omega, by omega, HT⟩
  case round =>
    obtain ⟨k, m, rfl, rfl, hk0, hk, hm0, hm1, hfo⟩ := hrel
    by_cases hlt : k < s.size
    · have hatk : ∀ h : k < s.size, (((s[k]'h).toNat : Nat) : Int) = bt s (k : Int) := fun h => bt_at s k h
      have hc := HD.out k hk0 hlt
      have hcons := at_cons s k (by omega) (by omega)
      have hfo2 : Hid ((at_ s ((k + 1 : Nat) : Int)).foldl stepS (stepS m (bt s k)) = T) := Lib.hid (by rw [← hfo.out, hcons]; rfl)
      obtain ⟨c, hc2⟩ : ∃ c, bt s (k : Int) = c := ⟨_, rfl⟩
      rw [hc2] at hc hfo2
      simp only [hc2] at hatk
      clear hc2 hcons hfo hat0 hat1
      by_cases hq : 10 * m + c - 48 ≤ 1000000
      · have e : stepS m c = 10 * m + c - 48 := by unfold stepS; omega
        rw [e] at hfo2
        clear e
        go_wp2
        exact ⟨⟨k + 1, _, rfl, rfl, by omega, by omega, by omega, by omega, hfo2⟩, by show s.size - ((k : Int) + 1).toNat < s.size - ((k : Nat) : Int).toNat; omega⟩
      · have e : stepS m c = 1000000 := by unfold stepS; omega
        rw [e] at hfo2
        clear e
        go_wp2
        exact ⟨⟨k + 1, _, rfl, rfl, by omega, by omega, by omega, by omega, hfo2⟩, by show s.size - ((k : Int) + 1).toNat < s.size - ((k : Nat) : Int).toNat; omega⟩
    · obtain rfl : k = s.size := by omega
      have hfo3 : Hid (m = T) := Lib.hid (by
        have := hfo.out
        rw [at_nil s s.size (by omega)] at this
        exact this)
      clear hfo HT HD hk0 hk
      go_wp2
      go_ret2
      have hmt := hfo3.out
      subst hmt
      exact ⟨rfl, rfl⟩
set_option maxHeartbeats 1600000 in
theorem exp_69O_zero (s : ByteArray) (w : World) (hs : s.size ≤ 2000) (h : s.toList.isEmpty = false) (n1 : 1 < s.size) (h0 : 0 < s.size) (hat0 : ∀ h : 0 < s.size, (((s[0]'h).toNat : Nat) : Int) = 69) (c1 : Int) (hat1 : ∀ h : 1 < s.size, (((s[1]'h).toNat : Nat) : Int) = c1) (u1 : (c1 == 43) = false) (u2 : (c1 == 45) = false)
    (hD : ∀ W : World, Calls Tryd.prog 48 #[.string s, .int .i64 1] W fun e w' => e = .returned (.int .i64 0) ∧ w' = W) :
    Calls Tryd.prog 50 #[.string s] w (EOut 0 false w) := by
  go_enter Tryd.func50, Tryd.ntmps50
  go_wp2_with (go_at_call 48; (with_reducible refine (hD _).mono ?_); rintro e w' ⟨rfl, rfl⟩)
  go_ret2
  exact ⟨rfl, rfl⟩
set_option maxHeartbeats 1600000 in
theorem exp_69O_short (s : ByteArray) (w : World) (hs : s.size ≤ 2000) (h : s.toList.isEmpty = false) (n1 : 1 < s.size) (h0 : 0 < s.size) (hat0 : ∀ h : 0 < s.size, (((s[0]'h).toNat : Nat) : Int) = 69) (c1 : Int) (hat1 : ∀ h : 1 < s.size, (((s[1]'h).toNat : Nat) : Int) = c1) (u1 : (c1 == 43) = false) (u2 : (c1 == 45) = false) (d : Nat) (d0 : (d == 0) = false) (d1 : ((d : Int) == 0) = false) (d2 : d ≤ 2000) (hsum : (1 : Int) + (d : Int) < (s.size : Int))
    (hD : ∀ W : World, Calls Tryd.prog 48 #[.string s, .int .i64 1] W fun e w' => e = .returned (.int .i64 (d : Int)) ∧ w' = W) :
    Calls Tryd.prog 50 #[.string s] w (EOut 0 false w) := by
  go_enter Tryd.func50, Tryd.ntmps50
  go_wp2_with (go_at_call 48; (with_reducible refine (hD _).mono ?_); rintro e w' ⟨rfl, rfl⟩)
  go_ret2
  exact ⟨rfl, rfl⟩
set_option maxHeartbeats 1600000 in
theorem exp_69O_good (s : ByteArray) (w : World) (hs : s.size ≤ 2000) (h : s.toList.isEmpty = false) (n1 : 1 < s.size) (h0 : 0 < s.size) (hat0 : ∀ h : 0 < s.size, (((s[0]'h).toNat : Nat) : Int) = 69) (c1 : Int) (hat1 : ∀ h : 1 < s.size, (((s[1]'h).toNat : Nat) : Int) = c1) (u1 : (c1 == 43) = false) (u2 : (c1 == 45) = false) (d : Nat) (d0 : (d == 0) = false) (d1 : ((d : Int) == 0) = false) (d2 : d ≤ 2000) (hsum : ¬ (1 : Int) + (d : Int) < (s.size : Int))
    (hD : ∀ W : World, Calls Tryd.prog 48 #[.string s, .int .i64 1] W fun e w' => e = .returned (.int .i64 (d : Int)) ∧ w' = W) (hi : 1 ≤ s.size) (HD : Hid (∀ k : Nat, 1 ≤ k → k < s.size → 48 ≤ bt s k ∧ bt s k ≤ 57)) (T : Int) (HT : Hid (sat (at_ s 1) = T)) :
    Calls Tryd.prog 50 #[.string s] w (EOut T true w) := by
  go_enter Tryd.func50, Tryd.ntmps50
  go_wp2_with (go_at_call 48; (with_reducible refine (hD _).mono ?_); rintro e w' ⟨rfl, rfl⟩)
  clear hD hsum d0 d1
  go_loop [6, 7] (fun mv kv => ∃ (k : Nat) (m : Int), kv = .int .i64 k ∧ mv = .int .i64 m ∧ 1 ≤ k ∧ k ≤ s.size ∧ 0 ≤ m ∧ m ≤ 1000000 ∧ Hid ((at_ s k).foldl stepS m = T)) (fun _ kv => s.size - (intOf kv).toNat)
  case atStart => exact ⟨1, 0, rfl, rfl, by omega, by omega, by omega, by omega, HT⟩
  case round =>
    obtain ⟨k, m, rfl, rfl, hk0, hk, hm0, hm1, hfo⟩ := hrel
    by_cases hlt : k < s.size
    · have hatk : ∀ h : k < s.size, (((s[k]'h).toNat : Nat) : Int) = bt s (k : Int) := fun h => bt_at s k h
      have hc := HD.out k hk0 hlt
      have hcons := at_cons s k (by omega) (by omega)
      have hfo2 : Hid ((at_ s ((k + 1 : Nat) : Int)).foldl stepS (stepS m (bt s k)) = T) := Lib.hid (by rw [← hfo.out, hcons]; rfl)
      obtain ⟨c, hc2⟩ : ∃ c, bt s (k : Int) = c := ⟨_, rfl⟩
      rw [hc2] at hc hfo2
      simp only [hc2] at hatk
      clear hc2 hcons hfo hat0 hat1
      by_cases hq : 10 * m + c - 48 ≤ 1000000
      · have e : stepS m c = 10 * m + c - 48 := by unfold stepS; omega
        rw [e] at hfo2
        clear e
        go_wp2
        exact ⟨⟨k + 1, _, rfl, rfl, by omega, by omega, by omega, by omega, hfo2⟩, by show s.size - ((k : Int) + 1).toNat < s.size - ((k : Nat) : Int).toNat; omega⟩
      · have e : stepS m c = 1000000 := by unfold stepS; omega
        rw [e] at hfo2
        clear e
        go_wp2
        exact ⟨⟨k + 1, _, rfl, rfl, by omega, by omega, by omega, by omega, hfo2⟩, by show s.size - ((k : Int) + 1).toNat < s.size - ((k : Nat) : Int).toNat; omega⟩
    · obtain rfl : k = s.size := by omega
      have hfo3 : Hid (m = T) := Lib.hid (by
        have := hfo.out
        rw [at_nil s s.size (by omega)] at this
        exact this)
      clear hfo HT HD hk0 hk
      go_wp2
      go_ret2
      have hmt := hfo3.out
      subst hmt
      exact ⟨rfl, rfl⟩
theorem rdig0 (s : ByteArray) (w : World) (hs : s.size ≤ 2000) :
    Calls Tryd.prog 48 #[.string s, .int .i64 0] w fun e w' => e = .returned (.int .i64 ((dig (by_ s) : Nat) : Int)) ∧ w' = w := by
  have h := rdigits s 0 w (Nat.zero_le _) hs
  rw [show at_ s ((0 : Nat) : Int) = by_ s from at_zero s] at h
  exact h
theorem rdig1 (s : ByteArray) (w : World) (h1 : 1 ≤ s.size) (hs : s.size ≤ 2000) :
    Calls Tryd.prog 48 #[.string s, .int .i64 1] w fun e w' => e = .returned (.int .i64 ((dig (at_ s 1) : Nat) : Int)) ∧ w' = w := rdigits s 1 w h1 hs
theorem rdig2 (s : ByteArray) (w : World) (h1 : 2 ≤ s.size) (hs : s.size ≤ 2000) :
    Calls Tryd.prog 48 #[.string s, .int .i64 2] w fun e w' => e = .returned (.int .i64 ((dig (at_ s 2) : Nat) : Int)) ∧ w' = w := rdigits s 2 w h1 hs
theorem expd_zero {q : List Int} (h : dig q = 0) : expd q = none := if_pos (.inl h)
theorem expd_short {q : List Int} (h : dig q < q.length) : expd q = none := if_pos (.inr h)
theorem expd_good {q : List Int} (h0 : dig q ≠ 0) (h : ¬ dig q < q.length) : expd q = some (sat q) := if_neg (fun q => q.elim h0 h)
theorem expo_e {c : Int} (hc : c = 101 ∨ c = 69) (r : List Int) : expo (c :: r) = if r.head? = some 45 then (expd r.tail).map (- ·) else if r.head? = some 43 then expd r.tail else expd r := by
  unfold expo
  rw [if_neg (by simp), if_pos (by rcases hc with rfl | rfl <;> simp)]; rfl
theorem expo_else {c : Int} (h1 : c ≠ 101) (h2 : c ≠ 69) (r : List Int) : expo (c :: r) = none := by
  unfold expo
  rw [if_neg (by simp), if_neg (by simp [h1, h2])]
theorem digs_from {s : ByteArray} {i : Nat} (hi : i ≤ s.size) (h : i + dig (at_ s i) = s.size) : ∀ k : Nat, i ≤ k → k < s.size → 48 ≤ bt s k ∧ bt s k ≤ 57 := fun k h1 h2 => by
  have := dig_in s i (k - i) hi (by omega)
  rw [show i + (k - i) = k by omega] at this
  exact this
set_option maxHeartbeats 800000 in
/-- The document's exponent. -/
theorem exponent_any (s : ByteArray) (w : World) (hs : s.size ≤ 2000) :
    Calls Tryd.prog 50 #[.string s] w (EOut ((expo (by_ s)).getD 0) (expo (by_ s)).isSome w) := by
  by_cases h0 : s.size = 0
  · have e : by_ s = [] := List.eq_nil_of_length_eq_zero (by rw [by_length]; exact h0)
    rw [e]
    exact exp_nil s w (emp_yes h0)
  have h0' : 0 < s.size := by omega
  have hne := emp_no h0'
  have hat0 : ∀ h : 0 < s.size, (((s[0]'h).toNat : Nat) : Int) = bt s 0 := fun h => bt_at s 0 h
  have hc0 : by_ s = bt s 0 :: at_ s 1 := by have := at_cons s 0 (by omega) (by omega); rw [at_zero] at this; exact this
  have hl1 : (at_ s 1).length = s.size - 1 := by have := at_length s 1 (by omega) (by omega); omega
  obtain ⟨c0, e0⟩ : ∃ c, bt s 0 = c := ⟨_, rfl⟩
  rw [e0] at hc0
  simp only [e0] at hat0
  rw [hc0]
  by_cases he : c0 = 101 ∨ c0 = 69
  · rw [expo_e he]
    by_cases n1 : s.size = 1
    · have en : at_ s 1 = [] := List.eq_nil_of_length_eq_zero (by omega)
      have hD := fun W : World => rdig1 s W (by omega) hs
      rw [en] at hD ⊢
      rcases he with rfl | rfl
      · exact exp_101A_zero s w hs hne n1 h0' hat0 hD
      · exact exp_69A_zero s w hs hne n1 h0' hat0 hD
    have n1' : 1 < s.size := by omega
    have hat1 : ∀ h : 1 < s.size, (((s[1]'h).toNat : Nat) : Int) = bt s 1 := fun h => bt_at s 1 h
    have hc1 : at_ s 1 = bt s 1 :: at_ s 2 := at_cons s 1 (by omega) (by omega)
    have hl2 : (at_ s 2).length = s.size - 2 := by have := at_length s 2 (by omega) (by omega); omega
    obtain ⟨c1, e1⟩ : ∃ c, bt s 1 = c := ⟨_, rfl⟩
    rw [e1] at hc1
    simp only [e1] at hat1
    have hD2 := fun W : World => rdig2 s W (by omega) hs
    have hD1 := fun W : World => rdig1 s W (by omega) hs
    have hle2 : 2 + dig (at_ s 2) ≤ s.size := dig_at_le s 2 (by omega)
    have hle1 : 1 + dig (at_ s 1) ≤ s.size := dig_at_le s 1 (by omega)
    have hF2 : 2 + dig (at_ s 2) = s.size → ∀ k : Nat, 2 ≤ k → k < s.size → 48 ≤ bt s k ∧ bt s k ≤ 57 := digs_from (s := s) (i := 2) (by omega)
    have hF1 : 1 + dig (at_ s 1) = s.size → ∀ k : Nat, 1 ≤ k → k < s.size → 48 ≤ bt s k ∧ bt s k ≤ 57 := digs_from (s := s) (i := 1) (by omega)
    by_cases h45 : c1 = 45
    · subst h45
      rw [hc1, if_pos (show (45 :: at_ s 2 : List Int).head? = some 45 from rfl)]
      show Calls _ _ _ _ (EOut (((expd (at_ s 2)).map (- ·)).getD 0) ((expd (at_ s 2)).map (- ·)).isSome w)
      rcases he with rfl | rfl
      · by_cases z : dig (at_ s 2) = 0
        · rw [expd_zero z]
          rw [z] at hD2
          exact exp_101M_zero s w hs hne n1' h0' hat0 hat1 hD2
        · have z1 : (dig (at_ s 2) == 0) = false := beq_eq_false_iff_ne.2 z
          have z2 : (((dig (at_ s 2) : Nat) : Int) == 0) = false := beq_eq_false_iff_ne.2 (by omega)
          by_cases y : dig (at_ s 2) < (at_ s 2).length
          · rw [expd_short y]
            exact exp_101M_short s w hs hne n1' h0' hat0 hat1 _ z1 z2 (by omega) (by omega) hD2
          · rw [expd_good z y]
            exact exp_101M_good s w hs hne n1' h0' hat0 hat1 _ z1 z2 (by omega) (by omega) hD2 (by omega) (Lib.hid (hF2 (by omega))) _ (Lib.hid rfl)
      · by_cases z : dig (at_ s 2) = 0
        · rw [expd_zero z]
          rw [z] at hD2
          exact exp_69M_zero s w hs hne n1' h0' hat0 hat1 hD2
        · have z1 : (dig (at_ s 2) == 0) = false := beq_eq_false_iff_ne.2 z
          have z2 : (((dig (at_ s 2) : Nat) : Int) == 0) = false := beq_eq_false_iff_ne.2 (by omega)
          by_cases y : dig (at_ s 2) < (at_ s 2).length
          · rw [expd_short y]
            exact exp_69M_short s w hs hne n1' h0' hat0 hat1 _ z1 z2 (by omega) (by omega) hD2
          · rw [expd_good z y]
            exact exp_69M_good s w hs hne n1' h0' hat0 hat1 _ z1 z2 (by omega) (by omega) hD2 (by omega) (Lib.hid (hF2 (by omega))) _ (Lib.hid rfl)
    by_cases h43 : c1 = 43
    · subst h43
      rw [hc1, if_neg (show ¬ (43 :: at_ s 2 : List Int).head? = some 45 by intro q; cases q), if_pos (show (43 :: at_ s 2 : List Int).head? = some 43 from rfl)]
      show Calls _ _ _ _ (EOut ((expd (at_ s 2)).getD 0) (expd (at_ s 2)).isSome w)
      rcases he with rfl | rfl
      · by_cases z : dig (at_ s 2) = 0
        · rw [expd_zero z]
          rw [z] at hD2
          exact exp_101P_zero s w hs hne n1' h0' hat0 hat1 hD2
        · have z1 : (dig (at_ s 2) == 0) = false := beq_eq_false_iff_ne.2 z
          have z2 : (((dig (at_ s 2) : Nat) : Int) == 0) = false := beq_eq_false_iff_ne.2 (by omega)
          by_cases y : dig (at_ s 2) < (at_ s 2).length
          · rw [expd_short y]
            exact exp_101P_short s w hs hne n1' h0' hat0 hat1 _ z1 z2 (by omega) (by omega) hD2
          · rw [expd_good z y]
            exact exp_101P_good s w hs hne n1' h0' hat0 hat1 _ z1 z2 (by omega) (by omega) hD2 (by omega) (Lib.hid (hF2 (by omega))) _ (Lib.hid rfl)
      · by_cases z : dig (at_ s 2) = 0
        · rw [expd_zero z]
          rw [z] at hD2
          exact exp_69P_zero s w hs hne n1' h0' hat0 hat1 hD2
        · have z1 : (dig (at_ s 2) == 0) = false := beq_eq_false_iff_ne.2 z
          have z2 : (((dig (at_ s 2) : Nat) : Int) == 0) = false := beq_eq_false_iff_ne.2 (by omega)
          by_cases y : dig (at_ s 2) < (at_ s 2).length
          · rw [expd_short y]
            exact exp_69P_short s w hs hne n1' h0' hat0 hat1 _ z1 z2 (by omega) (by omega) hD2
          · rw [expd_good z y]
            exact exp_69P_good s w hs hne n1' h0' hat0 hat1 _ z1 z2 (by omega) (by omega) hD2 (by omega) (Lib.hid (hF2 (by omega))) _ (Lib.hid rfl)
    have u1 : (c1 == 43) = false := beq_eq_false_iff_ne.2 h43
    have u2 : (c1 == 45) = false := beq_eq_false_iff_ne.2 h45
    have e45 : ¬ (at_ s 1).head? = some 45 := by rw [hc1]; intro q; exact h45 (Option.some.inj q)
    have e43 : ¬ (at_ s 1).head? = some 43 := by rw [hc1]; intro q; exact h43 (Option.some.inj q)
    rw [if_neg e45, if_neg e43]
    rcases he with rfl | rfl
    · by_cases z : dig (at_ s 1) = 0
      · rw [expd_zero z]
        rw [z] at hD1
        exact exp_101O_zero s w hs hne n1' h0' hat0 c1 hat1 u1 u2 hD1
      · have z1 : (dig (at_ s 1) == 0) = false := beq_eq_false_iff_ne.2 z
        have z2 : (((dig (at_ s 1) : Nat) : Int) == 0) = false := beq_eq_false_iff_ne.2 (by omega)
        by_cases y : dig (at_ s 1) < (at_ s 1).length
        · rw [expd_short y]
          exact exp_101O_short s w hs hne n1' h0' hat0 c1 hat1 u1 u2 _ z1 z2 (by omega) (by omega) hD1
        · rw [expd_good z y]
          exact exp_101O_good s w hs hne n1' h0' hat0 c1 hat1 u1 u2 _ z1 z2 (by omega) (by omega) hD1 (by omega) (Lib.hid (hF1 (by omega))) _ (Lib.hid rfl)
    · by_cases z : dig (at_ s 1) = 0
      · rw [expd_zero z]
        rw [z] at hD1
        exact exp_69O_zero s w hs hne n1' h0' hat0 c1 hat1 u1 u2 hD1
      · have z1 : (dig (at_ s 1) == 0) = false := beq_eq_false_iff_ne.2 z
        have z2 : (((dig (at_ s 1) : Nat) : Int) == 0) = false := beq_eq_false_iff_ne.2 (by omega)
        by_cases y : dig (at_ s 1) < (at_ s 1).length
        · rw [expd_short y]
          exact exp_69O_short s w hs hne n1' h0' hat0 c1 hat1 u1 u2 _ z1 z2 (by omega) (by omega) hD1
        · rw [expd_good z y]
          exact exp_69O_good s w hs hne n1' h0' hat0 c1 hat1 u1 u2 _ z1 z2 (by omega) (by omega) hD1 (by omega) (Lib.hid (hF1 (by omega))) _ (Lib.hid rfl)
  · have h1 : c0 ≠ 101 := fun q => he (.inl q)
    have h2 : c0 ≠ 69 := fun q => he (.inr q)
    rw [expo_else h1 h2]
    exact exp_else s w hs hne h0' c0 hat0 (beq_eq_false_iff_ne.2 h1) (beq_eq_false_iff_ne.2 h2) (bne_iff_ne.2 h1) (bne_iff_ne.2 h2)
end Go.Proofs.YtchbmihhkjpkaaaDoor.G
