/-
  The law ScanEnds, walked: no name, or a name at the text's end.
-/
import Derived.Test.YtdhncfkbblfokaaHScanEndsL
namespace Go.Proofs.Ytdhncfkbblfokaa.G
open Go.RowKit Go.Proofs.YtdhncfkbblfokaaW.PrintWords Go.Proofs.Ytdhncfkbblfokaa.M
set_option linter.unusedVariables false
set_option linter.unusedSimpArgs false

set_option maxHeartbeats 1600000 in
set_option maxRecDepth 100000 in
theorem scanEnds_a1 (s : ByteArray) (n C B : Nat) (k : Int) (w : World) (hs : s.size ≤ 600) (hn : n ≤ s.size) (hC0 : n ≤ C) (hC1 : C ≤ s.size) (v3 : blank s n = C) (v5 : blank s C = C) (v1 : nameEnd s n = n) (hB0 : n ≤ B) (hB1 : B ≤ s.size) (v2 : upto isDig s n = B) (v4 : upto isDig s B = B) (hk : k < n) :
    Calls Try.prog 4 #[.string s, .int .i64 n, .int .i64 k] w fun e w' => e = .returned (.bool true) ∧ Below w.heap.size w w' := by
  have h1' : ¬ (600 : Int) < (s.size : Int) := by omega
  clear hs
  go_enter Try.func4, Try.ntmps4
  go_wp2_with (first
    | (go_at_call 14; (with_reducible refine (awake4_st w _ ?c2).mono ?_); (case c2 => repeat (first | assumption | exact Below.refl _ _ | apply below_alloc | apply below_drawn | apply below_drew)); rintro e w' ⟨rfl, hb⟩)
    | (go_at_call 17; (with_reducible refine (name_st w _ _ _ ?c1 ?c2).mono ?_); (case c1 => (first | omega | (simp only [ByteArray.size_append, lit_size, List.size_toArray, List.length_cons, List.length_nil, ByteArray.size_extract]; omega))); (case c2 => repeat (first | assumption | exact Below.refl _ _ | apply below_alloc | apply below_drawn | apply below_drew)); rintro e w' ⟨rfl, hb⟩)
    | (go_at_call 19; (with_reducible refine (dig_st w _ _ _ ?c1 ?c2).mono ?_); (case c1 => (first | omega | (simp only [ByteArray.size_append, lit_size, List.size_toArray, List.length_cons, List.length_nil, ByteArray.size_extract]; omega))); (case c2 => repeat (first | assumption | exact Below.refl _ _ | apply below_alloc | apply below_drawn | apply below_drew)); rintro e w' ⟨rfl, hb⟩)
    | (go_at_call 21; (with_reducible refine (blank_st w _ _ _ ?c1 ?c2).mono ?_); (case c1 => (first | omega | (simp only [ByteArray.size_append, lit_size, List.size_toArray, List.length_cons, List.length_nil, ByteArray.size_extract]; omega))); (case c2 => repeat (first | assumption | exact Below.refl _ _ | apply below_alloc | apply below_drawn | apply below_drew)); rintro e w' ⟨rfl, hb⟩)
    | (go_at_call 16; (with_reducible refine (begins_st w _ _ ?c1 ?c2).mono ?_); (case c1 => omega); (case c2 => repeat (first | assumption | exact Below.refl _ _ | apply below_alloc | apply below_drawn | apply below_drew)); rintro e w' ⟨rfl, hb⟩))
  all_goals go_ret
  all_goals exact ⟨rfl, by repeat (first | assumption | exact Below.refl _ _ | apply below_alloc | apply below_drawn | apply below_drew)⟩

set_option maxHeartbeats 1600000 in
set_option maxRecDepth 100000 in
theorem scanEnds_a2 (s : ByteArray) (n C B : Nat) (k : Int) (w : World) (hs : s.size ≤ 600) (hn : n ≤ s.size) (hC0 : n ≤ C) (hC1 : C ≤ s.size) (v3 : blank s n = C) (v5 : blank s C = C) (v1 : nameEnd s n = n) (hB0 : n ≤ B) (hB1 : B ≤ s.size) (v2 : upto isDig s n = B) (v4 : upto isDig s B = B) (hk : (n : Int) ≤ k) (hk2 : k < B) (hd : isDig (bt s k) = true) :
    Calls Try.prog 4 #[.string s, .int .i64 n, .int .i64 k] w fun e w' => e = .returned (.bool true) ∧ Below w.heap.size w w' := by
  have h1' : ¬ (600 : Int) < (s.size : Int) := by omega
  clear hs
  obtain ⟨q, rfl⟩ : ∃ q : Nat, k = q := ⟨k.toNat, by omega⟩
  have hatb : ∀ h : q < s.size, (((s[q]'h).toNat : Nat) : Int) = bt s (q : Int) := fun h => bt_at s (q : Int) h
  have hrb := bt_range s (q : Int)
  obtain ⟨b, hb⟩ : ∃ b, bt s (q : Int) = b := ⟨_, rfl⟩
  rw [hb] at hrb hd
  simp only [hb] at hatb
  clear hb
  simp only [isDig, decide_eq_true_eq] at hd
  obtain ⟨hd1, hd2⟩ := hd
  go_enter Try.func4, Try.ntmps4
  go_wp2_with (first
    | (go_at_call 14; (with_reducible refine (awake4_st w _ ?c2).mono ?_); (case c2 => repeat (first | assumption | exact Below.refl _ _ | apply below_alloc | apply below_drawn | apply below_drew)); rintro e w' ⟨rfl, hb⟩)
    | (go_at_call 17; (with_reducible refine (name_st w _ _ _ ?c1 ?c2).mono ?_); (case c1 => (first | omega | (simp only [ByteArray.size_append, lit_size, List.size_toArray, List.length_cons, List.length_nil, ByteArray.size_extract]; omega))); (case c2 => repeat (first | assumption | exact Below.refl _ _ | apply below_alloc | apply below_drawn | apply below_drew)); rintro e w' ⟨rfl, hb⟩)
    | (go_at_call 19; (with_reducible refine (dig_st w _ _ _ ?c1 ?c2).mono ?_); (case c1 => (first | omega | (simp only [ByteArray.size_append, lit_size, List.size_toArray, List.length_cons, List.length_nil, ByteArray.size_extract]; omega))); (case c2 => repeat (first | assumption | exact Below.refl _ _ | apply below_alloc | apply below_drawn | apply below_drew)); rintro e w' ⟨rfl, hb⟩)
    | (go_at_call 21; (with_reducible refine (blank_st w _ _ _ ?c1 ?c2).mono ?_); (case c1 => (first | omega | (simp only [ByteArray.size_append, lit_size, List.size_toArray, List.length_cons, List.length_nil, ByteArray.size_extract]; omega))); (case c2 => repeat (first | assumption | exact Below.refl _ _ | apply below_alloc | apply below_drawn | apply below_drew)); rintro e w' ⟨rfl, hb⟩)
    | (go_at_call 16; (with_reducible refine (begins_st w _ _ ?c1 ?c2).mono ?_); (case c1 => omega); (case c2 => repeat (first | assumption | exact Below.refl _ _ | apply below_alloc | apply below_drawn | apply below_drew)); rintro e w' ⟨rfl, hb⟩))
  all_goals go_ret
  all_goals exact ⟨rfl, by repeat (first | assumption | exact Below.refl _ _ | apply below_alloc | apply below_drawn | apply below_drew)⟩

set_option maxHeartbeats 1600000 in
set_option maxRecDepth 100000 in
theorem scanEnds_a3 (s : ByteArray) (n C B : Nat) (k : Int) (w : World) (hs : s.size ≤ 600) (hn : n ≤ s.size) (hC0 : n ≤ C) (hC1 : C ≤ s.size) (v3 : blank s n = C) (v5 : blank s C = C) (v1 : nameEnd s n = n) (hB0 : n ≤ B) (hB1 : B ≤ s.size) (v2 : upto isDig s n = B) (v4 : upto isDig s B = B) (hk : (B : Int) ≤ k) :
    Calls Try.prog 4 #[.string s, .int .i64 n, .int .i64 k] w fun e w' => e = .returned (.bool true) ∧ Below w.heap.size w w' := by
  have h1' : ¬ (600 : Int) < (s.size : Int) := by omega
  clear hs
  go_enter Try.func4, Try.ntmps4
  go_wp2_with (first
    | (go_at_call 14; (with_reducible refine (awake4_st w _ ?c2).mono ?_); (case c2 => repeat (first | assumption | exact Below.refl _ _ | apply below_alloc | apply below_drawn | apply below_drew)); rintro e w' ⟨rfl, hb⟩)
    | (go_at_call 17; (with_reducible refine (name_st w _ _ _ ?c1 ?c2).mono ?_); (case c1 => (first | omega | (simp only [ByteArray.size_append, lit_size, List.size_toArray, List.length_cons, List.length_nil, ByteArray.size_extract]; omega))); (case c2 => repeat (first | assumption | exact Below.refl _ _ | apply below_alloc | apply below_drawn | apply below_drew)); rintro e w' ⟨rfl, hb⟩)
    | (go_at_call 19; (with_reducible refine (dig_st w _ _ _ ?c1 ?c2).mono ?_); (case c1 => (first | omega | (simp only [ByteArray.size_append, lit_size, List.size_toArray, List.length_cons, List.length_nil, ByteArray.size_extract]; omega))); (case c2 => repeat (first | assumption | exact Below.refl _ _ | apply below_alloc | apply below_drawn | apply below_drew)); rintro e w' ⟨rfl, hb⟩)
    | (go_at_call 21; (with_reducible refine (blank_st w _ _ _ ?c1 ?c2).mono ?_); (case c1 => (first | omega | (simp only [ByteArray.size_append, lit_size, List.size_toArray, List.length_cons, List.length_nil, ByteArray.size_extract]; omega))); (case c2 => repeat (first | assumption | exact Below.refl _ _ | apply below_alloc | apply below_drawn | apply below_drew)); rintro e w' ⟨rfl, hb⟩)
    | (go_at_call 16; (with_reducible refine (begins_st w _ _ ?c1 ?c2).mono ?_); (case c1 => omega); (case c2 => repeat (first | assumption | exact Below.refl _ _ | apply below_alloc | apply below_drawn | apply below_drew)); rintro e w' ⟨rfl, hb⟩))
  all_goals go_ret
  all_goals exact ⟨rfl, by repeat (first | assumption | exact Below.refl _ _ | apply below_alloc | apply below_drawn | apply below_drew)⟩

set_option maxHeartbeats 1600000 in
set_option maxRecDepth 100000 in
theorem scanEnds_b1e (s : ByteArray) (n C A : Nat) (k : Int) (w : World) (hs : s.size ≤ 600) (hn : n ≤ s.size) (hC0 : n ≤ C) (hC1 : C ≤ s.size) (v3 : blank s n = C) (v5 : blank s C = C) (hA0 : n < A) (hA1 : A ≤ s.size) (v1 : nameEnd s n = A) (v2 : upto isDig s n = n) (hf : isLet (bt s n) = true) (hz : A = s.size) (hk : k < n) :
    Calls Try.prog 4 #[.string s, .int .i64 n, .int .i64 k] w fun e w' => e = .returned (.bool true) ∧ Below w.heap.size w w' := by
  have h1' : ¬ (600 : Int) < (s.size : Int) := by omega
  clear hs
  have he1 : ((A : Int) == (n : Int)) = false := beq_eq_false_iff_ne.2 (by omega)
  have he2 : (A == n) = false := beq_eq_false_iff_ne.2 (by omega)
  have hatbn : ∀ h : n < s.size, (((s[n]'h).toNat : Nat) : Int) = bt s (n : Int) := fun h => bt_at s (n : Int) h
  have hrbn := bt_range s (n : Int)
  obtain ⟨bn, hbn⟩ : ∃ b, bt s (n : Int) = b := ⟨_, rfl⟩
  rw [hbn] at hrbn hf
  simp only [hbn] at hatbn
  clear hbn
  have hz1 : ((A : Int) == (s.size : Int)) = true := by rw [beq_iff_eq]; omega
  have hz2 : (A == s.size) = true := by rw [beq_iff_eq]; omega
  clear hz
  go_enter Try.func4, Try.ntmps4
  go_wp2_with (first
    | (go_at_call 14; (with_reducible refine (awake4_st w _ ?c2).mono ?_); (case c2 => repeat (first | assumption | exact Below.refl _ _ | apply below_alloc | apply below_drawn | apply below_drew)); rintro e w' ⟨rfl, hb⟩)
    | (go_at_call 17; (with_reducible refine (name_st w _ _ _ ?c1 ?c2).mono ?_); (case c1 => (first | omega | (simp only [ByteArray.size_append, lit_size, List.size_toArray, List.length_cons, List.length_nil, ByteArray.size_extract]; omega))); (case c2 => repeat (first | assumption | exact Below.refl _ _ | apply below_alloc | apply below_drawn | apply below_drew)); rintro e w' ⟨rfl, hb⟩)
    | (go_at_call 19; (with_reducible refine (dig_st w _ _ _ ?c1 ?c2).mono ?_); (case c1 => (first | omega | (simp only [ByteArray.size_append, lit_size, List.size_toArray, List.length_cons, List.length_nil, ByteArray.size_extract]; omega))); (case c2 => repeat (first | assumption | exact Below.refl _ _ | apply below_alloc | apply below_drawn | apply below_drew)); rintro e w' ⟨rfl, hb⟩)
    | (go_at_call 21; (with_reducible refine (blank_st w _ _ _ ?c1 ?c2).mono ?_); (case c1 => (first | omega | (simp only [ByteArray.size_append, lit_size, List.size_toArray, List.length_cons, List.length_nil, ByteArray.size_extract]; omega))); (case c2 => repeat (first | assumption | exact Below.refl _ _ | apply below_alloc | apply below_drawn | apply below_drew)); rintro e w' ⟨rfl, hb⟩)
    | (go_at_call 16; (with_reducible refine (begins_st w _ _ ?c1 ?c2).mono ?_); (case c1 => omega); (case c2 => repeat (first | assumption | exact Below.refl _ _ | apply below_alloc | apply below_drawn | apply below_drew)); rintro e w' ⟨rfl, hb⟩))
  all_goals go_ret
  all_goals exact ⟨rfl, by repeat (first | assumption | exact Below.refl _ _ | apply below_alloc | apply below_drawn | apply below_drew)⟩

set_option maxHeartbeats 1600000 in
set_option maxRecDepth 100000 in
theorem scanEnds_b2e (s : ByteArray) (n C A : Nat) (k : Int) (w : World) (hs : s.size ≤ 600) (hn : n ≤ s.size) (hC0 : n ≤ C) (hC1 : C ≤ s.size) (v3 : blank s n = C) (v5 : blank s C = C) (hA0 : n < A) (hA1 : A ≤ s.size) (v1 : nameEnd s n = A) (v2 : upto isDig s n = n) (hf : isLet (bt s n) = true) (hz : A = s.size) (hk : (n : Int) ≤ k) (hk2 : k < A) (hl : isLet (bt s k) = true) :
    Calls Try.prog 4 #[.string s, .int .i64 n, .int .i64 k] w fun e w' => e = .returned (.bool true) ∧ Below w.heap.size w w' := by
  have h1' : ¬ (600 : Int) < (s.size : Int) := by omega
  clear hs
  have he1 : ((A : Int) == (n : Int)) = false := beq_eq_false_iff_ne.2 (by omega)
  have he2 : (A == n) = false := beq_eq_false_iff_ne.2 (by omega)
  have hatbn : ∀ h : n < s.size, (((s[n]'h).toNat : Nat) : Int) = bt s (n : Int) := fun h => bt_at s (n : Int) h
  have hrbn := bt_range s (n : Int)
  obtain ⟨bn, hbn⟩ : ∃ b, bt s (n : Int) = b := ⟨_, rfl⟩
  rw [hbn] at hrbn hf
  simp only [hbn] at hatbn
  clear hbn
  have hz1 : ((A : Int) == (s.size : Int)) = true := by rw [beq_iff_eq]; omega
  have hz2 : (A == s.size) = true := by rw [beq_iff_eq]; omega
  clear hz
  obtain ⟨q, rfl⟩ : ∃ q : Nat, k = q := ⟨k.toNat, by omega⟩
  have hatb : ∀ h : q < s.size, (((s[q]'h).toNat : Nat) : Int) = bt s (q : Int) := fun h => bt_at s (q : Int) h
  have hrb := bt_range s (q : Int)
  obtain ⟨b, hb⟩ : ∃ b, bt s (q : Int) = b := ⟨_, rfl⟩
  rw [hb] at hrb hl
  simp only [hb] at hatb
  clear hb
  go_enter Try.func4, Try.ntmps4
  go_wp2_with (first
    | (go_at_call 14; (with_reducible refine (awake4_st w _ ?c2).mono ?_); (case c2 => repeat (first | assumption | exact Below.refl _ _ | apply below_alloc | apply below_drawn | apply below_drew)); rintro e w' ⟨rfl, hb⟩)
    | (go_at_call 17; (with_reducible refine (name_st w _ _ _ ?c1 ?c2).mono ?_); (case c1 => (first | omega | (simp only [ByteArray.size_append, lit_size, List.size_toArray, List.length_cons, List.length_nil, ByteArray.size_extract]; omega))); (case c2 => repeat (first | assumption | exact Below.refl _ _ | apply below_alloc | apply below_drawn | apply below_drew)); rintro e w' ⟨rfl, hb⟩)
    | (go_at_call 19; (with_reducible refine (dig_st w _ _ _ ?c1 ?c2).mono ?_); (case c1 => (first | omega | (simp only [ByteArray.size_append, lit_size, List.size_toArray, List.length_cons, List.length_nil, ByteArray.size_extract]; omega))); (case c2 => repeat (first | assumption | exact Below.refl _ _ | apply below_alloc | apply below_drawn | apply below_drew)); rintro e w' ⟨rfl, hb⟩)
    | (go_at_call 21; (with_reducible refine (blank_st w _ _ _ ?c1 ?c2).mono ?_); (case c1 => (first | omega | (simp only [ByteArray.size_append, lit_size, List.size_toArray, List.length_cons, List.length_nil, ByteArray.size_extract]; omega))); (case c2 => repeat (first | assumption | exact Below.refl _ _ | apply below_alloc | apply below_drawn | apply below_drew)); rintro e w' ⟨rfl, hb⟩)
    | (go_at_call 16; (with_reducible refine (begins_st w _ _ ?c1 ?c2).mono ?_); (case c1 => omega); (case c2 => repeat (first | assumption | exact Below.refl _ _ | apply below_alloc | apply below_drawn | apply below_drew)); rintro e w' ⟨rfl, hb⟩))
  all_goals go_ret
  all_goals exact ⟨rfl, by repeat (first | assumption | exact Below.refl _ _ | apply below_alloc | apply below_drawn | apply below_drew)⟩

set_option maxHeartbeats 1600000 in
set_option maxRecDepth 100000 in
theorem scanEnds_b3e (s : ByteArray) (n C A : Nat) (k : Int) (w : World) (hs : s.size ≤ 600) (hn : n ≤ s.size) (hC0 : n ≤ C) (hC1 : C ≤ s.size) (v3 : blank s n = C) (v5 : blank s C = C) (hA0 : n < A) (hA1 : A ≤ s.size) (v1 : nameEnd s n = A) (v2 : upto isDig s n = n) (hf : isLet (bt s n) = true) (hz : A = s.size) (hk : (n : Int) ≤ k) (hk2 : k < A) (hl : isLet (bt s k) = false) (hd : isDig (bt s k) = true) :
    Calls Try.prog 4 #[.string s, .int .i64 n, .int .i64 k] w fun e w' => e = .returned (.bool true) ∧ Below w.heap.size w w' := by
  have h1' : ¬ (600 : Int) < (s.size : Int) := by omega
  clear hs
  have he1 : ((A : Int) == (n : Int)) = false := beq_eq_false_iff_ne.2 (by omega)
  have he2 : (A == n) = false := beq_eq_false_iff_ne.2 (by omega)
  have hatbn : ∀ h : n < s.size, (((s[n]'h).toNat : Nat) : Int) = bt s (n : Int) := fun h => bt_at s (n : Int) h
  have hrbn := bt_range s (n : Int)
  obtain ⟨bn, hbn⟩ : ∃ b, bt s (n : Int) = b := ⟨_, rfl⟩
  rw [hbn] at hrbn hf
  simp only [hbn] at hatbn
  clear hbn
  have hz1 : ((A : Int) == (s.size : Int)) = true := by rw [beq_iff_eq]; omega
  have hz2 : (A == s.size) = true := by rw [beq_iff_eq]; omega
  clear hz
  obtain ⟨q, rfl⟩ : ∃ q : Nat, k = q := ⟨k.toNat, by omega⟩
  have hatb : ∀ h : q < s.size, (((s[q]'h).toNat : Nat) : Int) = bt s (q : Int) := fun h => bt_at s (q : Int) h
  have hrb := bt_range s (q : Int)
  obtain ⟨b, hb⟩ : ∃ b, bt s (q : Int) = b := ⟨_, rfl⟩
  rw [hb] at hrb hl hd
  simp only [hb] at hatb
  clear hb
  simp only [isDig, decide_eq_true_eq] at hd
  obtain ⟨hd1, hd2⟩ := hd
  go_enter Try.func4, Try.ntmps4
  go_wp2_with (first
    | (go_at_call 14; (with_reducible refine (awake4_st w _ ?c2).mono ?_); (case c2 => repeat (first | assumption | exact Below.refl _ _ | apply below_alloc | apply below_drawn | apply below_drew)); rintro e w' ⟨rfl, hb⟩)
    | (go_at_call 17; (with_reducible refine (name_st w _ _ _ ?c1 ?c2).mono ?_); (case c1 => (first | omega | (simp only [ByteArray.size_append, lit_size, List.size_toArray, List.length_cons, List.length_nil, ByteArray.size_extract]; omega))); (case c2 => repeat (first | assumption | exact Below.refl _ _ | apply below_alloc | apply below_drawn | apply below_drew)); rintro e w' ⟨rfl, hb⟩)
    | (go_at_call 19; (with_reducible refine (dig_st w _ _ _ ?c1 ?c2).mono ?_); (case c1 => (first | omega | (simp only [ByteArray.size_append, lit_size, List.size_toArray, List.length_cons, List.length_nil, ByteArray.size_extract]; omega))); (case c2 => repeat (first | assumption | exact Below.refl _ _ | apply below_alloc | apply below_drawn | apply below_drew)); rintro e w' ⟨rfl, hb⟩)
    | (go_at_call 21; (with_reducible refine (blank_st w _ _ _ ?c1 ?c2).mono ?_); (case c1 => (first | omega | (simp only [ByteArray.size_append, lit_size, List.size_toArray, List.length_cons, List.length_nil, ByteArray.size_extract]; omega))); (case c2 => repeat (first | assumption | exact Below.refl _ _ | apply below_alloc | apply below_drawn | apply below_drew)); rintro e w' ⟨rfl, hb⟩)
    | (go_at_call 16; (with_reducible refine (begins_st w _ _ ?c1 ?c2).mono ?_); (case c1 => omega); (case c2 => repeat (first | assumption | exact Below.refl _ _ | apply below_alloc | apply below_drawn | apply below_drew)); rintro e w' ⟨rfl, hb⟩))
  all_goals go_ret
  all_goals exact ⟨rfl, by repeat (first | assumption | exact Below.refl _ _ | apply below_alloc | apply below_drawn | apply below_drew)⟩

set_option maxHeartbeats 1600000 in
set_option maxRecDepth 100000 in
theorem scanEnds_b4e (s : ByteArray) (n C A : Nat) (k : Int) (w : World) (hs : s.size ≤ 600) (hn : n ≤ s.size) (hC0 : n ≤ C) (hC1 : C ≤ s.size) (v3 : blank s n = C) (v5 : blank s C = C) (hA0 : n < A) (hA1 : A ≤ s.size) (v1 : nameEnd s n = A) (v2 : upto isDig s n = n) (hf : isLet (bt s n) = true) (hz : A = s.size) (hk : (A : Int) ≤ k) :
    Calls Try.prog 4 #[.string s, .int .i64 n, .int .i64 k] w fun e w' => e = .returned (.bool true) ∧ Below w.heap.size w w' := by
  have h1' : ¬ (600 : Int) < (s.size : Int) := by omega
  clear hs
  have he1 : ((A : Int) == (n : Int)) = false := beq_eq_false_iff_ne.2 (by omega)
  have he2 : (A == n) = false := beq_eq_false_iff_ne.2 (by omega)
  have hatbn : ∀ h : n < s.size, (((s[n]'h).toNat : Nat) : Int) = bt s (n : Int) := fun h => bt_at s (n : Int) h
  have hrbn := bt_range s (n : Int)
  obtain ⟨bn, hbn⟩ : ∃ b, bt s (n : Int) = b := ⟨_, rfl⟩
  rw [hbn] at hrbn hf
  simp only [hbn] at hatbn
  clear hbn
  have hz1 : ((A : Int) == (s.size : Int)) = true := by rw [beq_iff_eq]; omega
  have hz2 : (A == s.size) = true := by rw [beq_iff_eq]; omega
  clear hz
  go_enter Try.func4, Try.ntmps4
  go_wp2_with (first
    | (go_at_call 14; (with_reducible refine (awake4_st w _ ?c2).mono ?_); (case c2 => repeat (first | assumption | exact Below.refl _ _ | apply below_alloc | apply below_drawn | apply below_drew)); rintro e w' ⟨rfl, hb⟩)
    | (go_at_call 17; (with_reducible refine (name_st w _ _ _ ?c1 ?c2).mono ?_); (case c1 => (first | omega | (simp only [ByteArray.size_append, lit_size, List.size_toArray, List.length_cons, List.length_nil, ByteArray.size_extract]; omega))); (case c2 => repeat (first | assumption | exact Below.refl _ _ | apply below_alloc | apply below_drawn | apply below_drew)); rintro e w' ⟨rfl, hb⟩)
    | (go_at_call 19; (with_reducible refine (dig_st w _ _ _ ?c1 ?c2).mono ?_); (case c1 => (first | omega | (simp only [ByteArray.size_append, lit_size, List.size_toArray, List.length_cons, List.length_nil, ByteArray.size_extract]; omega))); (case c2 => repeat (first | assumption | exact Below.refl _ _ | apply below_alloc | apply below_drawn | apply below_drew)); rintro e w' ⟨rfl, hb⟩)
    | (go_at_call 21; (with_reducible refine (blank_st w _ _ _ ?c1 ?c2).mono ?_); (case c1 => (first | omega | (simp only [ByteArray.size_append, lit_size, List.size_toArray, List.length_cons, List.length_nil, ByteArray.size_extract]; omega))); (case c2 => repeat (first | assumption | exact Below.refl _ _ | apply below_alloc | apply below_drawn | apply below_drew)); rintro e w' ⟨rfl, hb⟩)
    | (go_at_call 16; (with_reducible refine (begins_st w _ _ ?c1 ?c2).mono ?_); (case c1 => omega); (case c2 => repeat (first | assumption | exact Below.refl _ _ | apply below_alloc | apply below_drawn | apply below_drew)); rintro e w' ⟨rfl, hb⟩))
  all_goals go_ret
  all_goals exact ⟨rfl, by repeat (first | assumption | exact Below.refl _ _ | apply below_alloc | apply below_drawn | apply below_drew)⟩
end Go.Proofs.Ytdhncfkbblfokaa.G
