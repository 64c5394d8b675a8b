/-
  The law LexNumber: its walk. (Printed by gen_lx8.py.)
-/
import Derived.Test.YtjgpmfjkcioinaaDoorLX7
namespace Go.Proofs.YtjgpmfjkcioinaaDoor.G
open Go.RowKit Go.Proofs.YtjgpmfjkcioinaaDoorW.PrintWords Go.Proofs.YtjgpmfjkcioinaaDoor.M
set_option linter.unusedVariables false
set_option linter.unusedSimpArgs false

set_option maxHeartbeats 800000 in
theorem lnum_nil (s : ByteArray) (w : World) (hT : TE w) (h : s.size = 0) : Calls Tryd.prog 8 #[.string s] w fun e w' => e = .returned (.bool true) ∧ Below w.heap.size w w' := by
  have hA := awake9 w hT
  have z1 : ((s.size : Int) == 0) = true := beq_iff_eq.2 (by omega)
  have z2 : (s.size == 0) = true := beq_iff_eq.2 h
  go_enter Tryd.func8, Tryd.ntmps8
  go_wp2_with (go_at_call 10; (with_reducible refine hA.mono ?_); rintro e w1 ⟨rfl, b1⟩)
  go_ret
  exact ⟨rfl, b1⟩
set_option maxHeartbeats 800000 in
theorem lnum_long (s : ByteArray) (w : World) (hT : TE w) (h0 : 0 < s.size) (h : 600 < s.size) : Calls Tryd.prog 8 #[.string s] w fun e w' => e = .returned (.bool true) ∧ Below w.heap.size w w' := by
  have hA := awake9 w hT
  have z1 : ((s.size : Int) == 0) = false := beq_eq_false_iff_ne.2 (by omega)
  have z2 : (s.size == 0) = false := beq_eq_false_iff_ne.2 (by omega)
  have z3 : (s = ByteArray.empty) = False := eq_false (fun e => by rw [e] at h0; simp at h0)
  go_enter Tryd.func8, Tryd.ntmps8
  go_wp2_with (go_at_call 10; (with_reducible refine hA.mono ?_); rintro e w1 ⟨rfl, b1⟩)
  go_ret
  exact ⟨rfl, b1⟩
set_option maxHeartbeats 800000 in
theorem lnum_low (s : ByteArray) (w : World) (hT : TE w) (h : s.size ≤ 600) (h0 : 0 < s.size) (c : Int) (hat : ∀ h : 0 < s.size, (((s[0]'h).toNat : Nat) : Int) = c) (u1 : (c == 45) = false) (u2 : (c != 45) = true) (g1 : decide (c < 48) = true) : Calls Tryd.prog 8 #[.string s] w fun e w' => e = .returned (.bool true) ∧ Below w.heap.size w w' := by
  have hA := awake9 w hT
  have z1 : ((s.size : Int) == 0) = false := beq_eq_false_iff_ne.2 (by omega)
  have z2 : (s.size == 0) = false := beq_eq_false_iff_ne.2 (by omega)
  have z3 : (s = ByteArray.empty) = False := eq_false (fun e => by rw [e] at h0; simp at h0)
  go_enter Tryd.func8, Tryd.ntmps8
  go_wp2_with (go_at_call 10; (with_reducible refine hA.mono ?_); rintro e w1 ⟨rfl, b1⟩)
  go_ret
  exact ⟨rfl, b1⟩
set_option maxHeartbeats 800000 in
theorem lnum_high (s : ByteArray) (w : World) (hT : TE w) (h : s.size ≤ 600) (h0 : 0 < s.size) (c : Int) (hat : ∀ h : 0 < s.size, (((s[0]'h).toNat : Nat) : Int) = c) (u1 : (c == 45) = false) (u2 : (c != 45) = true) (g1 : decide (c < 48) = false) (g2 : decide (57 < c) = true) : Calls Tryd.prog 8 #[.string s] w fun e w' => e = .returned (.bool true) ∧ Below w.heap.size w w' := by
  have hA := awake9 w hT
  have z1 : ((s.size : Int) == 0) = false := beq_eq_false_iff_ne.2 (by omega)
  have z2 : (s.size == 0) = false := beq_eq_false_iff_ne.2 (by omega)
  have z3 : (s = ByteArray.empty) = False := eq_false (fun e => by rw [e] at h0; simp at h0)
  go_enter Tryd.func8, Tryd.ntmps8
  go_wp2_with (go_at_call 10; (with_reducible refine hA.mono ?_); rintro e w1 ⟨rfl, b1⟩)
  go_ret
  exact ⟨rfl, b1⟩
set_option maxHeartbeats 1600000 in
theorem lnum_m_yes (s : ByteArray) (w : World) (hT : TE w) (h : s.size ≤ 600) (h0 : 0 < s.size) (hat : ∀ h : 0 < s.size, (((s[0]'h).toNat : Nat) : Int) = 45) (k : Int) (n : Nat) (hn : n ≤ s.size)
    (HO : Hid (∀ W : World, Below w.heap.size w W → Calls Tryd.prog 13 #[.string s, .int .i64 0] W fun e w' => e = .returned (.tuple #[.agg #[.int .i64 k, .string (s.extract 0 n), .int .i64 0, .int .i64 (n : Int)], .int .i64 0, .int .i64 (n : Int)]) ∧ Below W.heap.size W w'))
    (HN : Hid (∀ W : World, Calls Tryd.prog 17 #[.string s, .int .i64 0] W fun e w' => e = .returned (.tuple #[.int .i64 k, .int .i64 (n : Int), .bool true]) ∧ Below W.heap.size W w')) : Calls Tryd.prog 8 #[.string s] w fun e w' => e = .returned (.bool true) ∧ Below w.heap.size w w' := by
  have hA := awake9 w hT
  have z1 : ((s.size : Int) == 0) = false := beq_eq_false_iff_ne.2 (by omega)
  have z2 : (s.size == 0) = false := beq_eq_false_iff_ne.2 (by omega)
  have z3 : (s = ByteArray.empty) = False := eq_false (fun e => by rw [e] at h0; simp at h0)
  go_enter Tryd.func8, Tryd.ntmps8
  go_wp2_with (first
    | (go_at_call 10; (with_reducible refine hA.mono ?_); rintro e w1 ⟨rfl, b1⟩)
    | (go_at_call 13; (with_reducible refine (HO.out _ ?c1).mono ?_); (case c1 => assumption); rintro e w2 ⟨rfl, b2⟩; have b3 := (b1.trans (b2.mono b1.size)).alloc (b1.trans (b2.mono b1.size)).size (.cells #[.int .i64 k, .string (s.extract 0 n), .int .i64 0, .int .i64 (n : Int)] 28); obtain ⟨y0, y1, y2, y3, v0, v1, v2, v3⟩ := cell_of_four (World.alloc_heap_new w2 (.cells #[.int .i64 k, .string (s.extract 0 n), .int .i64 0, .int .i64 (n : Int)] 28)))
    | (go_at_call 17; (with_reducible refine (HN.out _).mono ?_); rintro e w4 ⟨rfl, b4⟩; have g0' := (b4.cell (p := ⟨w2.heap.size, 0, none⟩) (World.block_lt_of_cell? _ _ y0)).trans y0; have g1' := (b4.cell (p := ⟨w2.heap.size, 1, none⟩) (World.block_lt_of_cell? _ _ y1)).trans y1))
  go_region
  all_goals go_wp2
  all_goals go_ret
  all_goals exact ⟨rfl, (b3.trans (b4.mono b3.size)).drew⟩
set_option maxHeartbeats 1600000 in
theorem lnum_m_no (s : ByteArray) (w : World) (hT : TE w) (h : s.size ≤ 600) (h0 : 0 < s.size) (hat : ∀ h : 0 < s.size, (((s[0]'h).toNat : Nat) : Int) = 45) (k : Int) (n : Nat) (hn : n ≤ s.size)
    (HO : Hid (∀ W : World, Below w.heap.size w W → Calls Tryd.prog 13 #[.string s, .int .i64 0] W fun e w' => e = .returned (.tuple #[.agg #[.int .i64 0, .string ⟨#[]⟩, .int .i64 0, .int .i64 0], .int .i64 3, .int .i64 (n : Int)]) ∧ Below W.heap.size W w'))
    (HN : Hid (∀ W : World, Calls Tryd.prog 17 #[.string s, .int .i64 0] W fun e w' => e = .returned (.tuple #[.int .i64 k, .int .i64 (n : Int), .bool false]) ∧ Below W.heap.size W w')) : Calls Tryd.prog 8 #[.string s] w fun e w' => e = .returned (.bool true) ∧ Below w.heap.size w w' := by
  have hA := awake9 w hT
  have z1 : ((s.size : Int) == 0) = false := beq_eq_false_iff_ne.2 (by omega)
  have z2 : (s.size == 0) = false := beq_eq_false_iff_ne.2 (by omega)
  have z3 : (s = ByteArray.empty) = False := eq_false (fun e => by rw [e] at h0; simp at h0)
  go_enter Tryd.func8, Tryd.ntmps8
  go_wp2_with (first
    | (go_at_call 10; (with_reducible refine hA.mono ?_); rintro e w1 ⟨rfl, b1⟩)
    | (go_at_call 13; (with_reducible refine (HO.out _ ?c1).mono ?_); (case c1 => assumption); rintro e w2 ⟨rfl, b2⟩; have b3 := (b1.trans (b2.mono b1.size)).alloc (b1.trans (b2.mono b1.size)).size (.cells #[.int .i64 0, .string ⟨#[]⟩, .int .i64 0, .int .i64 0] 28); obtain ⟨y0, y1, y2, y3, v0, v1, v2, v3⟩ := cell_of_four (World.alloc_heap_new w2 (.cells #[.int .i64 0, .string ⟨#[]⟩, .int .i64 0, .int .i64 0] 28)))
    | (go_at_call 17; (with_reducible refine (HN.out _).mono ?_); rintro e w4 ⟨rfl, b4⟩; have g0' := (b4.cell (p := ⟨w2.heap.size, 0, none⟩) (World.block_lt_of_cell? _ _ y0)).trans y0; have g1' := (b4.cell (p := ⟨w2.heap.size, 1, none⟩) (World.block_lt_of_cell? _ _ y1)).trans y1))
  go_region
  all_goals go_wp2
  all_goals go_ret
  all_goals exact ⟨rfl, (b3.trans (b4.mono b3.size)).drew⟩
set_option maxHeartbeats 1600000 in
theorem lnum_d_yes (s : ByteArray) (w : World) (hT : TE w) (h : s.size ≤ 600) (h0 : 0 < s.size) (c : Int) (u1 : (c == 45) = false) (u2 : (c != 45) = true) (g1 : decide (c < 48) = false) (g2 : decide (57 < c) = false) (hat : ∀ h : 0 < s.size, (((s[0]'h).toNat : Nat) : Int) = c) (k : Int) (n : Nat) (hn : n ≤ s.size)
    (HO : Hid (∀ W : World, Below w.heap.size w W → Calls Tryd.prog 13 #[.string s, .int .i64 0] W fun e w' => e = .returned (.tuple #[.agg #[.int .i64 k, .string (s.extract 0 n), .int .i64 0, .int .i64 (n : Int)], .int .i64 0, .int .i64 (n : Int)]) ∧ Below W.heap.size W w'))
    (HN : Hid (∀ W : World, Calls Tryd.prog 17 #[.string s, .int .i64 0] W fun e w' => e = .returned (.tuple #[.int .i64 k, .int .i64 (n : Int), .bool true]) ∧ Below W.heap.size W w')) : Calls Tryd.prog 8 #[.string s] w fun e w' => e = .returned (.bool true) ∧ Below w.heap.size w w' := by
  have hA := awake9 w hT
  have z1 : ((s.size : Int) == 0) = false := beq_eq_false_iff_ne.2 (by omega)
  have z2 : (s.size == 0) = false := beq_eq_false_iff_ne.2 (by omega)
  have z3 : (s = ByteArray.empty) = False := eq_false (fun e => by rw [e] at h0; simp at h0)
  go_enter Tryd.func8, Tryd.ntmps8
  go_wp2_with (first
    | (go_at_call 10; (with_reducible refine hA.mono ?_); rintro e w1 ⟨rfl, b1⟩)
    | (go_at_call 13; (with_reducible refine (HO.out _ ?c1).mono ?_); (case c1 => assumption); rintro e w2 ⟨rfl, b2⟩; have b3 := (b1.trans (b2.mono b1.size)).alloc (b1.trans (b2.mono b1.size)).size (.cells #[.int .i64 k, .string (s.extract 0 n), .int .i64 0, .int .i64 (n : Int)] 28); obtain ⟨y0, y1, y2, y3, v0, v1, v2, v3⟩ := cell_of_four (World.alloc_heap_new w2 (.cells #[.int .i64 k, .string (s.extract 0 n), .int .i64 0, .int .i64 (n : Int)] 28)))
    | (go_at_call 17; (with_reducible refine (HN.out _).mono ?_); rintro e w4 ⟨rfl, b4⟩; have g0' := (b4.cell (p := ⟨w2.heap.size, 0, none⟩) (World.block_lt_of_cell? _ _ y0)).trans y0; have g1' := (b4.cell (p := ⟨w2.heap.size, 1, none⟩) (World.block_lt_of_cell? _ _ y1)).trans y1))
  go_region
  all_goals go_wp2
  all_goals go_ret
  all_goals exact ⟨rfl, (b3.trans (b4.mono b3.size)).drew⟩
set_option maxHeartbeats 1600000 in
theorem lnum_d_no (s : ByteArray) (w : World) (hT : TE w) (h : s.size ≤ 600) (h0 : 0 < s.size) (c : Int) (u1 : (c == 45) = false) (u2 : (c != 45) = true) (g1 : decide (c < 48) = false) (g2 : decide (57 < c) = false) (hat : ∀ h : 0 < s.size, (((s[0]'h).toNat : Nat) : Int) = c) (k : Int) (n : Nat) (hn : n ≤ s.size)
    (HO : Hid (∀ W : World, Below w.heap.size w W → Calls Tryd.prog 13 #[.string s, .int .i64 0] W fun e w' => e = .returned (.tuple #[.agg #[.int .i64 0, .string ⟨#[]⟩, .int .i64 0, .int .i64 0], .int .i64 3, .int .i64 (n : Int)]) ∧ Below W.heap.size W w'))
    (HN : Hid (∀ W : World, Calls Tryd.prog 17 #[.string s, .int .i64 0] W fun e w' => e = .returned (.tuple #[.int .i64 k, .int .i64 (n : Int), .bool false]) ∧ Below W.heap.size W w')) : Calls Tryd.prog 8 #[.string s] w fun e w' => e = .returned (.bool true) ∧ Below w.heap.size w w' := by
  have hA := awake9 w hT
  have z1 : ((s.size : Int) == 0) = false := beq_eq_false_iff_ne.2 (by omega)
  have z2 : (s.size == 0) = false := beq_eq_false_iff_ne.2 (by omega)
  have z3 : (s = ByteArray.empty) = False := eq_false (fun e => by rw [e] at h0; simp at h0)
  go_enter Tryd.func8, Tryd.ntmps8
  go_wp2_with (first
    | (go_at_call 10; (with_reducible refine hA.mono ?_); rintro e w1 ⟨rfl, b1⟩)
    | (go_at_call 13; (with_reducible refine (HO.out _ ?c1).mono ?_); (case c1 => assumption); rintro e w2 ⟨rfl, b2⟩; have b3 := (b1.trans (b2.mono b1.size)).alloc (b1.trans (b2.mono b1.size)).size (.cells #[.int .i64 0, .string ⟨#[]⟩, .int .i64 0, .int .i64 0] 28); obtain ⟨y0, y1, y2, y3, v0, v1, v2, v3⟩ := cell_of_four (World.alloc_heap_new w2 (.cells #[.int .i64 0, .string ⟨#[]⟩, .int .i64 0, .int .i64 0] 28)))
    | (go_at_call 17; (with_reducible refine (HN.out _).mono ?_); rintro e w4 ⟨rfl, b4⟩; have g0' := (b4.cell (p := ⟨w2.heap.size, 0, none⟩) (World.block_lt_of_cell? _ _ y0)).trans y0; have g1' := (b4.cell (p := ⟨w2.heap.size, 1, none⟩) (World.block_lt_of_cell? _ _ y1)).trans y1))
  go_region
  all_goals go_wp2
  all_goals go_ret
  all_goals exact ⟨rfl, (b3.trans (b4.mono b3.size)).drew⟩
theorem lexone_num {c : Int} {r : List Int} (h : c = 45 ∨ isDig c = true) : lexone (c :: r) = if (lNum (c :: r)).2.2 = true then ⟨(lNum (c :: r)).1, (c :: r).take (lNum (c :: r)).2.1, 0, (lNum (c :: r)).2.1⟩ else lbad 3 (lNum (c :: r)).2.1 := by
  have hc : c = 45 ∨ (48 ≤ c ∧ c ≤ 57) := h.imp_right of_decide_eq_true
  rw [lexone_cons]
  unfold lexc
  have hp : isPun c = false := by unfold isPun; simp; omega
  have hL : isLet c = false := by unfold isLet; simp; omega
  rw [if_neg (by omega), if_neg (by rw [hp]; decide), if_neg (by rw [hL]; decide), if_pos h]
theorem lnum_all (s : ByteArray) (w : World) (hT : TE w) : Calls Tryd.prog 8 #[.string s] w fun e w' => e = .returned (.bool true) ∧ Below w.heap.size w w' := by
  by_cases hn : s.size = 0
  · exact lnum_nil s w hT hn
  have h0 : 0 < s.size := by omega
  by_cases hl : 600 < s.size
  · exact lnum_long s w hT h0 hl
  have h6 : s.size ≤ 600 := by omega
  have hat : ∀ h : 0 < s.size, (((s[0]'h).toNat : Nat) : Int) = bt s 0 := fun h => bt_at s 0 h
  have hc0 : at_ s 0 = bt s 0 :: at_ s 1 := at_cons s 0 (by omega) (by omega)
  have hlen := at_length s 0 (by omega) (by omega)
  obtain ⟨c, hc⟩ : ∃ c, bt s 0 = c := ⟨_, rfl⟩
  rw [hc] at hc0
  simp only [hc] at hat
  by_cases hg : c = 45 ∨ isDig c = true
  · have e1 := lexone_num (r := at_ s 1) hg
    rw [← hc0] at e1
    have hsh := short_num (at_ s 0)
    have hO := Lib.hid (fun (W : World) (hb : Below w.heap.size w W) => one_any s 0 W (by omega) (hT.low hb))
    have eV : oneV s 0 = loneV (lexone (at_ s 0)) 0 := if_neg (by omega)
    have hN := Lib.hid (fun (W : World) => number_st W W s 0 (by omega) (Below.refl _ _))
    have eN := number_list s 0 (by omega) (by omega)
    obtain ⟨k, n, b, hq⟩ : ∃ k n b, lNum (at_ s 0) = (k, n, b) := ⟨_, _, _, rfl⟩
    rw [hq] at e1 hsh eN
    have hns : n ≤ s.size := by have : n ≤ (at_ s 0).length := hsh; omega
    have eN2 : number s 0 = (k, (n : Int), b) := by rw [eN]; show (k, (0 : Int) + (n : Nat), b) = _; rw [Int.zero_add]
    rw [eN2] at hN
    rw [eV] at hO
    cases b with
    | true =>
      rw [if_pos rfl] at e1
      have ev2 : loneV (lexone (at_ s 0)) 0 = .tuple #[.agg #[.int .i64 k, .string (s.extract 0 n), .int .i64 0, .int .i64 (n : Int)], .int .i64 0, .int .i64 (n : Int)] := by
        rw [loneV_ok e1]
        have e3 := ext_ba s 0 n
        rw [Nat.zero_add] at e3
        have e4 : ba ((at_ s 0).take n) = s.extract 0 n := e3.symm
        show Value.tuple #[tkV k (ba ((at_ s 0).take n)) 0 (0 + (n : Nat)), _, .int .i64 (0 + (n : Nat))] = _
        rw [e4, Int.zero_add]; rfl
      rw [ev2] at hO
      by_cases h45 : c = 45
      · subst h45; exact lnum_m_yes s w hT h6 h0 hat k n hns hO hN
      · have hd : 48 ≤ c ∧ c ≤ 57 := of_decide_eq_true (hg.resolve_left h45)
        exact lnum_d_yes s w hT h6 h0 c (beq_eq_false_iff_ne.2 h45) (bne_iff_ne.2 h45) (decide_eq_false (by omega)) (decide_eq_false (by omega)) hat k n hns hO hN
    | false =>
      rw [if_neg (show ¬ (false = true) by decide)] at e1
      have ev2 : loneV (lexone (at_ s 0)) 0 = .tuple #[.agg #[.int .i64 0, .string ⟨#[]⟩, .int .i64 0, .int .i64 0], .int .i64 3, .int .i64 (n : Int)] := by
        rw [loneV_bad e1 (by decide)]
        show Value.tuple #[_, _, .int .i64 (0 + (n : Nat))] = _
        rw [Int.zero_add]; rfl
      rw [ev2] at hO
      by_cases h45 : c = 45
      · subst h45; exact lnum_m_no s w hT h6 h0 hat k n hns hO hN
      · have hd : 48 ≤ c ∧ c ≤ 57 := of_decide_eq_true (hg.resolve_left h45)
        exact lnum_d_no s w hT h6 h0 c (beq_eq_false_iff_ne.2 h45) (bne_iff_ne.2 h45) (decide_eq_false (by omega)) (decide_eq_false (by omega)) hat k n hns hO hN
  · have h45 : c ≠ 45 := fun q => hg (.inl q)
    by_cases g1 : c < 48
    · exact lnum_low s w hT h6 h0 c hat (beq_eq_false_iff_ne.2 h45) (bne_iff_ne.2 h45) (decide_eq_true g1)
    · have g2 : 57 < c := by
        by_cases q : c ≤ 57
        · exact absurd (.inr (decide_eq_true ⟨by omega, q⟩)) hg
        · omega
      exact lnum_high s w hT h6 h0 c hat (beq_eq_false_iff_ne.2 h45) (bne_iff_ne.2 h45) (decide_eq_false g1) (decide_eq_true g2)
end Go.Proofs.YtjgpmfjkcioinaaDoor.G
