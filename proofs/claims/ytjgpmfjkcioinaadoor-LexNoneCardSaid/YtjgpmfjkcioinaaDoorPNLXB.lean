/-
  The law LexNone: its walk. (Printed by gen_lxb.py.)
-/
import Derived.Test.YtjgpmfjkcioinaaDoorPNLX7
import Derived.Test.YtjgpmfjkcioinaaDoorPNZ1
namespace Go.Proofs.YtjgpmfjkcioinaaDoor.G
open Go.RowKit Go.Proofs.YtjgpmfjkcioinaaDoorW.PrintWords Go.Proofs.YtjgpmfjkcioinaaDoor.M
set_option linter.unusedVariables false
set_option linter.unusedSimpArgs false
theorem lex_rt (s : ByteArray) (w : World) (hs : s.size ≤ 1000000) (hT : TE w) :
    Calls Tryd.prog 11 #[.string s] w fun e W' => ∃ a c, e = .returned (.tuple #[.slice a (lexR (by_ s)).1.length c, .int .i64 (lexR (by_ s)).2.1, .int .i64 (lexR (by_ s)).2.2]) ∧ RowT W' a ((lexR (by_ s)).1.map tokS) ∧ Below w.heap.size w W' := by
  refine (lex_any s w hs hT).mono ?_
  rintro e W' ⟨v, h1, h2, h3⟩
  obtain ⟨a, m, c, rfl⟩ := own_slice h2
  obtain ⟨rfl, hrt⟩ := rowT_own h2
  exact ⟨a, c, h1, hrt, h3⟩
theorem lexR_none (l : List Int) : (decide ((lexR l).2.1 = 0) && decide ((lexR l).1.length = 0)) = (decide (bl false l = l.length) && mayp isc l) := by
  unfold lexR
  cases h : mayp isc l with
  | true => rw [if_pos rfl, Bool.and_true]; exact lexL_none l
  | false => rw [if_neg (by decide), Bool.and_false]; rfl
set_option maxHeartbeats 800000 in
theorem lnone_long (s : ByteArray) (w : World) (hT : TE w) (h : 600 < s.size) : Calls Tryd.prog 6 #[.string s] w fun e w' => e = .returned (.bool true) ∧ Below w.heap.size w w' := by
  have hA := awake9 w hT
  go_enter Tryd.func6, Tryd.ntmps6
  go_wp2_with (go_at_call 10; (with_reducible refine hA.mono ?_); rintro e w1 ⟨rfl, b1⟩)
  go_ret
  exact ⟨rfl, b1⟩
set_option maxHeartbeats 1600000 in
theorem lnone_a (s : ByteArray) (w : World) (hT : TE w) (h : s.size ≤ 600) (E A0 B0 : Int) (m : Nat) (mb : Bool)
    (HL : Hid (∀ W : World, Below w.heap.size w W → Calls Tryd.prog 11 #[.string s] W fun e w' => ∃ a c, e = .returned (.tuple #[.slice a m c, .int .i64 E, .int .i64 A0]) ∧ Below W.heap.size W w'))
    (HB : Hid (∀ W : World, Calls Tryd.prog 12 #[.string s, .int .i64 0] W fun e w' => e = .returned (.int .i64 B0) ∧ Below W.heap.size W w'))
    (HM : Hid (∀ W : World, Calls Tryd.prog 14 #[.string s] W fun e w' => e = .returned (.bool true) ∧ Below W.heap.size W w'))
    (u1 : (E == 0) = true) (u2 : (B0 == (s.size : Int)) = true) (u3 : ((m : Int) == 0) = true) (u4 : (m == 0) = true) : Calls Tryd.prog 6 #[.string s] w fun e w' => e = .returned (.bool true) ∧ Below w.heap.size w w' := by
  have hA := awake9 w hT
  go_enter Tryd.func6, Tryd.ntmps6
  go_wp2_with (first
    | (go_at_call 10; (with_reducible refine hA.mono ?_); rintro e w1 ⟨rfl, b1⟩)
    | (go_at_call 11; (with_reducible refine (HL.out _ ?c1).mono ?_); (case c1 => assumption); rintro e w2 ⟨a, c, rfl, b2⟩)
    | (go_at_call 12; (with_reducible refine (HB.out _).mono ?_); rintro e w3 ⟨rfl, b3⟩)
    | (go_at_call 14; (with_reducible refine (HM.out _).mono ?_); rintro e w4 ⟨rfl, b4⟩))
  go_ret
  have q2 := b1.trans (b2.mono b1.size)
  have q3 := q2.trans (b3.mono q2.size)
  exact ⟨rfl, q3.trans (b4.mono q3.size)⟩
set_option maxHeartbeats 1600000 in
theorem lnone_b (s : ByteArray) (w : World) (hT : TE w) (h : s.size ≤ 600) (E A0 B0 : Int) (m : Nat) (mb : Bool)
    (HL : Hid (∀ W : World, Below w.heap.size w W → Calls Tryd.prog 11 #[.string s] W fun e w' => ∃ a c, e = .returned (.tuple #[.slice a m c, .int .i64 E, .int .i64 A0]) ∧ Below W.heap.size W w'))
    (HB : Hid (∀ W : World, Calls Tryd.prog 12 #[.string s, .int .i64 0] W fun e w' => e = .returned (.int .i64 B0) ∧ Below W.heap.size W w'))
    (HM : Hid (∀ W : World, Calls Tryd.prog 14 #[.string s] W fun e w' => e = .returned (.bool false) ∧ Below W.heap.size W w'))
    (u1 : (E == 0) = true) (u2 : (B0 == (s.size : Int)) = true) (u3 : ((m : Int) == 0) = false) (u4 : (m == 0) = false) : Calls Tryd.prog 6 #[.string s] w fun e w' => e = .returned (.bool true) ∧ Below w.heap.size w w' := by
  have hA := awake9 w hT
  go_enter Tryd.func6, Tryd.ntmps6
  go_wp2_with (first
    | (go_at_call 10; (with_reducible refine hA.mono ?_); rintro e w1 ⟨rfl, b1⟩)
    | (go_at_call 11; (with_reducible refine (HL.out _ ?c1).mono ?_); (case c1 => assumption); rintro e w2 ⟨a, c, rfl, b2⟩)
    | (go_at_call 12; (with_reducible refine (HB.out _).mono ?_); rintro e w3 ⟨rfl, b3⟩)
    | (go_at_call 14; (with_reducible refine (HM.out _).mono ?_); rintro e w4 ⟨rfl, b4⟩))
  go_ret
  have q2 := b1.trans (b2.mono b1.size)
  have q3 := q2.trans (b3.mono q2.size)
  exact ⟨rfl, q3.trans (b4.mono q3.size)⟩
set_option maxHeartbeats 1600000 in
theorem lnone_c (s : ByteArray) (w : World) (hT : TE w) (h : s.size ≤ 600) (E A0 B0 : Int) (m : Nat) (mb : Bool)
    (HL : Hid (∀ W : World, Below w.heap.size w W → Calls Tryd.prog 11 #[.string s] W fun e w' => ∃ a c, e = .returned (.tuple #[.slice a m c, .int .i64 E, .int .i64 A0]) ∧ Below W.heap.size W w'))
    (HB : Hid (∀ W : World, Calls Tryd.prog 12 #[.string s, .int .i64 0] W fun e w' => e = .returned (.int .i64 B0) ∧ Below W.heap.size W w'))
    (HM : Hid (∀ W : World, Calls Tryd.prog 14 #[.string s] W fun e w' => e = .returned (.bool mb) ∧ Below W.heap.size W w'))
    (u1 : (E == 0) = true) (u2 : (B0 == (s.size : Int)) = false) (u3 : ((m : Int) == 0) = false) (u4 : (m == 0) = false) : Calls Tryd.prog 6 #[.string s] w fun e w' => e = .returned (.bool true) ∧ Below w.heap.size w w' := by
  have hA := awake9 w hT
  go_enter Tryd.func6, Tryd.ntmps6
  go_wp2_with (first
    | (go_at_call 10; (with_reducible refine hA.mono ?_); rintro e w1 ⟨rfl, b1⟩)
    | (go_at_call 11; (with_reducible refine (HL.out _ ?c1).mono ?_); (case c1 => assumption); rintro e w2 ⟨a, c, rfl, b2⟩)
    | (go_at_call 12; (with_reducible refine (HB.out _).mono ?_); rintro e w3 ⟨rfl, b3⟩))
  go_ret
  have q2 := b1.trans (b2.mono b1.size)
  have q3 := q2.trans (b3.mono q2.size)
  exact ⟨rfl, q3⟩
set_option maxHeartbeats 1600000 in
theorem lnone_d (s : ByteArray) (w : World) (hT : TE w) (h : s.size ≤ 600) (E A0 B0 : Int) (m : Nat) (mb : Bool)
    (HL : Hid (∀ W : World, Below w.heap.size w W → Calls Tryd.prog 11 #[.string s] W fun e w' => ∃ a c, e = .returned (.tuple #[.slice a m c, .int .i64 E, .int .i64 A0]) ∧ Below W.heap.size W w'))
    (HB : Hid (∀ W : World, Calls Tryd.prog 12 #[.string s, .int .i64 0] W fun e w' => e = .returned (.int .i64 B0) ∧ Below W.heap.size W w'))
    (HM : Hid (∀ W : World, Calls Tryd.prog 14 #[.string s] W fun e w' => e = .returned (.bool false) ∧ Below W.heap.size W w'))
    (u1 : (E == 0) = false) (u2 : (B0 == (s.size : Int)) = true) : Calls Tryd.prog 6 #[.string s] w fun e w' => e = .returned (.bool true) ∧ Below w.heap.size w w' := by
  have hA := awake9 w hT
  go_enter Tryd.func6, Tryd.ntmps6
  go_wp2_with (first
    | (go_at_call 10; (with_reducible refine hA.mono ?_); rintro e w1 ⟨rfl, b1⟩)
    | (go_at_call 11; (with_reducible refine (HL.out _ ?c1).mono ?_); (case c1 => assumption); rintro e w2 ⟨a, c, rfl, b2⟩)
    | (go_at_call 12; (with_reducible refine (HB.out _).mono ?_); rintro e w3 ⟨rfl, b3⟩)
    | (go_at_call 14; (with_reducible refine (HM.out _).mono ?_); rintro e w4 ⟨rfl, b4⟩))
  go_ret
  have q2 := b1.trans (b2.mono b1.size)
  have q3 := q2.trans (b3.mono q2.size)
  exact ⟨rfl, q3.trans (b4.mono q3.size)⟩
set_option maxHeartbeats 1600000 in
theorem lnone_e (s : ByteArray) (w : World) (hT : TE w) (h : s.size ≤ 600) (E A0 B0 : Int) (m : Nat) (mb : Bool)
    (HL : Hid (∀ W : World, Below w.heap.size w W → Calls Tryd.prog 11 #[.string s] W fun e w' => ∃ a c, e = .returned (.tuple #[.slice a m c, .int .i64 E, .int .i64 A0]) ∧ Below W.heap.size W w'))
    (HB : Hid (∀ W : World, Calls Tryd.prog 12 #[.string s, .int .i64 0] W fun e w' => e = .returned (.int .i64 B0) ∧ Below W.heap.size W w'))
    (HM : Hid (∀ W : World, Calls Tryd.prog 14 #[.string s] W fun e w' => e = .returned (.bool mb) ∧ Below W.heap.size W w'))
    (u1 : (E == 0) = false) (u2 : (B0 == (s.size : Int)) = false) : Calls Tryd.prog 6 #[.string s] w fun e w' => e = .returned (.bool true) ∧ Below w.heap.size w w' := by
  have hA := awake9 w hT
  go_enter Tryd.func6, Tryd.ntmps6
  go_wp2_with (first
    | (go_at_call 10; (with_reducible refine hA.mono ?_); rintro e w1 ⟨rfl, b1⟩)
    | (go_at_call 11; (with_reducible refine (HL.out _ ?c1).mono ?_); (case c1 => assumption); rintro e w2 ⟨a, c, rfl, b2⟩)
    | (go_at_call 12; (with_reducible refine (HB.out _).mono ?_); rintro e w3 ⟨rfl, b3⟩))
  go_ret
  have q2 := b1.trans (b2.mono b1.size)
  have q3 := q2.trans (b3.mono q2.size)
  exact ⟨rfl, q3⟩
theorem lnone_all (s : ByteArray) (w : World) (hT : TE w) : Calls Tryd.prog 6 #[.string s] w fun e w' => e = .returned (.bool true) ∧ Below w.heap.size w w' := by
  by_cases hl : 600 < s.size
  · exact lnone_long s w hT hl
  have h6 : s.size ≤ 600 := by omega
  have hq := lexR_none (by_ s)
  have hL : Hid (∀ W : World, Below w.heap.size w W → Calls Tryd.prog 11 #[.string s] W fun e w' => ∃ a c, e = .returned (.tuple #[.slice a (lexR (by_ s)).1.length c, .int .i64 (lexR (by_ s)).2.1, .int .i64 (lexR (by_ s)).2.2]) ∧ Below W.heap.size W w') := Lib.hid (fun (W : World) (hb : Below w.heap.size w W) => (lex_rt s W (by omega) (hT.low hb)).mono (fun e w' ⟨a, c, h1, _, h3⟩ => ⟨a, c, h1, h3⟩))
  have hB := Lib.hid (fun (W : World) => blank_any s 0 W (by omega))
  have hM := Lib.hid (fun (W : World) => may_any s W (by omega))
  rw [by_length] at hq
  rw [blank_nil] at hB
  obtain ⟨E, hE⟩ : ∃ E, (lexR (by_ s)).2.1 = E := ⟨_, rfl⟩
  obtain ⟨A0, hA0⟩ : ∃ E, (lexR (by_ s)).2.2 = E := ⟨_, rfl⟩
  obtain ⟨m, hm⟩ : ∃ E, (lexR (by_ s)).1.length = E := ⟨_, rfl⟩
  obtain ⟨b, hb⟩ : ∃ E, bl false (by_ s) = E := ⟨_, rfl⟩
  obtain ⟨mb, hmb⟩ : ∃ E, mayp isc (by_ s) = E := ⟨_, rfl⟩
  rw [hE, hm, hb, hmb] at hq
  rw [hE, hm, hA0] at hL
  rw [hb] at hB
  rw [hmb] at hM
  by_cases h1 : E = 0
  · have u1 : (E == 0) = true := beq_iff_eq.2 h1
    rw [decide_eq_true h1, Bool.true_and] at hq
    by_cases h2 : b = s.size
    · have u2 : ((b : Int) == (s.size : Int)) = true := beq_iff_eq.2 (by omega)
      rw [decide_eq_true h2, Bool.true_and] at hq
      by_cases h3 : m = 0
      · rw [decide_eq_true h3] at hq; subst hq
        exact lnone_a s w hT h6 E A0 b m true hL hB hM u1 u2 (beq_iff_eq.2 (by omega)) (beq_iff_eq.2 h3)
      · rw [decide_eq_false h3] at hq; subst hq
        exact lnone_b s w hT h6 E A0 b m true hL hB hM u1 u2 (beq_eq_false_iff_ne.2 (by omega)) (beq_eq_false_iff_ne.2 h3)
    · have u2 : ((b : Int) == (s.size : Int)) = false := beq_eq_false_iff_ne.2 (by omega)
      rw [decide_eq_false h2, Bool.false_and] at hq
      have h3 : m ≠ 0 := of_decide_eq_false hq
      exact lnone_c s w hT h6 E A0 b m mb hL hB hM u1 u2 (beq_eq_false_iff_ne.2 (by omega)) (beq_eq_false_iff_ne.2 h3)
  · have u1 : (E == 0) = false := beq_eq_false_iff_ne.2 h1
    rw [decide_eq_false h1, Bool.false_and] at hq
    by_cases h2 : b = s.size
    · have u2 : ((b : Int) == (s.size : Int)) = true := beq_iff_eq.2 (by omega)
      rw [decide_eq_true h2, Bool.true_and] at hq; subst hq
      exact lnone_d s w hT h6 E A0 b m true hL hB hM u1 u2
    · have u2 : ((b : Int) == (s.size : Int)) = false := beq_eq_false_iff_ne.2 (by omega)
      exact lnone_e s w hT h6 E A0 b m mb hL hB hM u1 u2
end Go.Proofs.YtjgpmfjkcioinaaDoor.G
