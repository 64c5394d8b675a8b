/-
  The law ScanEnds, walked: the cases joined.
-/
import Derived.Test.YtdhncfkbblfokaaHScanEnds2
namespace Go.Proofs.Ytdhncfkbblfokaa.G
open Go.RowKit Go.Proofs.YtdhncfkbblfokaaW.PrintWords Go.Proofs.Ytdhncfkbblfokaa.M
set_option linter.unusedVariables false
set_option linter.unusedSimpArgs false

set_option maxHeartbeats 1600000 in
set_option maxRecDepth 100000 in
theorem copperplatelaw04_ScanEnds.walk (a0 : ByteArray) (a1 : Int) (a2 : Int) (w : World) (w0 : a0.size ≤ 140737488351232) (w1 : (Lit.int .i64 a1).wf = true) (w2 : (Lit.int .i64 a2).wf = true) :
    Calls Try.prog 4 #[.string a0, .int .i64 a1, .int .i64 a2] w fun e w' => e = .returned (.bool true) ∧ Below w.heap.size w w' := by
  by_cases h1 : a0.size ≤ 600
  · by_cases h2 : 0 ≤ a1
    · by_cases h3 : a1 ≤ a0.size
      · obtain ⟨n, rfl⟩ : ∃ n : Nat, a1 = n := ⟨a1.toNat, by omega⟩
        have hn : n ≤ a0.size := by omega
        have hlen := at_length a0 n (by omega) (by omega)
        have hin : (0 : Int) ≤ (n : Int) ∧ (n : Int) ≤ (a0.size : Int) := ⟨by omega, by omega⟩
        have l1 := R.name_le (at_ a0 n)
        have l2 := cnt_le isDig (at_ a0 n)
        have l3 := bl_le false (at_ a0 n)
        have v1 : nameEnd a0 n = ((n + name (at_ a0 n) : Nat) : Int) := by unfold nameEnd; rw [if_pos hin]; omega
        have v2 : upto isDig a0 n = ((n + cnt isDig (at_ a0 n) : Nat) : Int) := by unfold upto; rw [if_pos hin]; omega
        have v3 : blank a0 n = ((n + bl false (at_ a0 n) : Nat) : Int) := by unfold blank; rw [if_pos hin]; omega
        have v4 : upto isDig a0 ((n + cnt isDig (at_ a0 n) : Nat) : Int) = ((n + cnt isDig (at_ a0 n) : Nat) : Int) := by
          unfold upto
          rw [if_pos ⟨by omega, by omega⟩, Int.natCast_add, at_add _ _ _ (by omega), cnt_drop]; omega
        have v5 : blank a0 ((n + bl false (at_ a0 n) : Nat) : Int) = ((n + bl false (at_ a0 n) : Nat) : Int) := by
          unfold blank
          rw [if_pos ⟨by omega, by omega⟩, Int.natCast_add, at_add _ _ _ (by omega), bl_stays]; omega
        have hdig : ∀ k : Int, (n : Int) ≤ k → k < ((n + cnt isDig (at_ a0 n) : Nat) : Int) → isDig (bt a0 k) = true := by
          intro k hk hk2
          obtain ⟨c, hc, hd⟩ := cnt_get (p := isDig) (l := at_ a0 n) (k := k.toNat - n) (by omega)
          have := (bt_get a0 n _ c hc).1
          rw [show ((n + (k.toNat - n) : Nat) : Int) = k by omega] at this
          rw [this]; exact hd
        by_cases hz : name (at_ a0 n) = 0
        · rw [hz, Nat.add_zero] at v1
          by_cases k1 : a2 < n
          · exact scanEnds_a1 a0 n _ _ a2 w h1 hn (by omega) (by omega) v3 v5 v1 (by omega) (by omega) v2 v4 k1
          · by_cases k2 : a2 < ((n + cnt isDig (at_ a0 n) : Nat) : Int)
            · exact scanEnds_a2 a0 n _ _ a2 w h1 hn (by omega) (by omega) v3 v5 v1 (by omega) (by omega) v2 v4 (by omega) k2 (hdig a2 (by omega) k2)
            · exact scanEnds_a3 a0 n _ _ a2 w h1 hn (by omega) (by omega) v3 v5 v1 (by omega) (by omega) v2 v4 (by omega)
        · obtain ⟨c, m, hcm, hlc⟩ := name_first (l := at_ a0 n) (by omega)
          have hf : isLet (bt a0 n) = true := by rw [(bt_head a0 n c m hcm).1]; exact hlc
          have hnd : cnt isDig (at_ a0 n) = 0 := by
            rw [hcm, cnt_no _ (by simp [isLet] at hlc; simp [isDig]; omega)]
          rw [hnd, Nat.add_zero] at v2
          have hword : ∀ k : Int, (n : Int) ≤ k → k < ((n + name (at_ a0 n) : Nat) : Int) → isWord (bt a0 k) = true := by
            intro k hk hk2
            obtain ⟨c, hc, hd⟩ := name_word (l := at_ a0 n) (k := k.toNat - n) (by omega)
            have := (bt_get a0 n _ c hc).1
            rw [show ((n + (k.toNat - n) : Nat) : Int) = k by omega] at this
            rw [this]; exact hd
          have hstop := name_stop (l := at_ a0 n) (by omega)
          rw [← at_add _ _ _ (by omega), ← Int.natCast_add] at hstop
          rcases hstop with he | ⟨x, y, he, hx1, hx2⟩
          · have hA : n + name (at_ a0 n) = a0.size := by
              have := at_length a0 ((n + name (at_ a0 n) : Nat) : Int) (by omega) (by omega)
              rw [he, List.length_nil] at this; omega
            by_cases k1 : a2 < n
            · exact scanEnds_b1e a0 n _ _ a2 w h1 hn (by omega) (by omega) v3 v5 (by omega) (by omega) v1 v2 hf hA k1
            · by_cases k2 : a2 < ((n + name (at_ a0 n) : Nat) : Int)
              · have hw := hword a2 (by omega) k2
                cases hl : isLet (bt a0 a2) with
                | true => exact scanEnds_b2e a0 n _ _ a2 w h1 hn (by omega) (by omega) v3 v5 (by omega) (by omega) v1 v2 hf hA (by omega) k2 hl
                | false => exact scanEnds_b3e a0 n _ _ a2 w h1 hn (by omega) (by omega) v3 v5 (by omega) (by omega) v1 v2 hf hA (by omega) k2 hl (by simpa [isWord, hl] using hw)
              · exact scanEnds_b4e a0 n _ _ a2 w h1 hn (by omega) (by omega) v3 v5 (by omega) (by omega) v1 v2 hf hA (by omega)
          · have hh := bt_head a0 (n + name (at_ a0 n)) x y he
            have hg : isLet (bt a0 ((n + name (at_ a0 n) : Nat) : Int)) = false := by rw [hh.1]; exact hx1
            have v6 : upto isDig a0 ((n + name (at_ a0 n) : Nat) : Int) = ((n + name (at_ a0 n) : Nat) : Int) := by
              unfold upto
              rw [if_pos ⟨by omega, by omega⟩, he, cnt_no _ hx2]; omega
            by_cases k1 : a2 < n
            · exact scanEnds_b1m a0 n _ _ a2 w h1 hn (by omega) (by omega) v3 v5 (by omega) (by omega) v1 v2 hf hh.2 hg v6 k1
            · by_cases k2 : a2 < ((n + name (at_ a0 n) : Nat) : Int)
              · have hw := hword a2 (by omega) k2
                cases hl : isLet (bt a0 a2) with
                | true => exact scanEnds_b2m a0 n _ _ a2 w h1 hn (by omega) (by omega) v3 v5 (by omega) (by omega) v1 v2 hf hh.2 hg v6 (by omega) k2 hl
                | false => exact scanEnds_b3m a0 n _ _ a2 w h1 hn (by omega) (by omega) v3 v5 (by omega) (by omega) v1 v2 hf hh.2 hg v6 (by omega) k2 hl (by simpa [isWord, hl] using hw)
              · exact scanEnds_b4m a0 n _ _ a2 w h1 hn (by omega) (by omega) v3 v5 (by omega) (by omega) v1 v2 hf hh.2 hg v6 (by omega)
      · have h1' : ¬ (600 : Int) < (a0.size : Int) := by omega
        have h3' : (a0.size : Int) < a1 := by omega
        have v1 : nameEnd a0 a1 = a1 := by unfold nameEnd; rw [if_neg (by omega)]
        have v2 : upto isDig a0 a1 = a1 := by unfold upto; rw [if_neg (by omega)]
        have v3 : blank a0 a1 = a1 := by unfold blank; rw [if_neg (by omega)]
        clear h3
        go_enter Try.func4, Try.ntmps4
        go_wp2_with (first
          | (go_at_call 14; (with_reducible refine (awake4_st w _ ?c2).mono ?_); (case c2 => repeat (first | assumption | exact Below.refl _ _ | apply below_alloc | apply below_drawn | apply below_drew)); rintro e w' ⟨rfl, hb⟩)
          | (go_at_call 17; (with_reducible refine (name_st w _ _ _ ?c1 ?c2).mono ?_); (case c1 => (first | omega | (simp only [ByteArray.size_append, lit_size, List.size_toArray, List.length_cons, List.length_nil, ByteArray.size_extract]; omega))); (case c2 => repeat (first | assumption | exact Below.refl _ _ | apply below_alloc | apply below_drawn | apply below_drew)); rintro e w' ⟨rfl, hb⟩)
          | (go_at_call 19; (with_reducible refine (dig_st w _ _ _ ?c1 ?c2).mono ?_); (case c1 => (first | omega | (simp only [ByteArray.size_append, lit_size, List.size_toArray, List.length_cons, List.length_nil, ByteArray.size_extract]; omega))); (case c2 => repeat (first | assumption | exact Below.refl _ _ | apply below_alloc | apply below_drawn | apply below_drew)); rintro e w' ⟨rfl, hb⟩)
          | (go_at_call 21; (with_reducible refine (blank_st w _ _ _ ?c1 ?c2).mono ?_); (case c1 => (first | omega | (simp only [ByteArray.size_append, lit_size, List.size_toArray, List.length_cons, List.length_nil, ByteArray.size_extract]; omega))); (case c2 => repeat (first | assumption | exact Below.refl _ _ | apply below_alloc | apply below_drawn | apply below_drew)); rintro e w' ⟨rfl, hb⟩)
          | (go_at_call 16; (with_reducible refine (begins_st w _ _ ?c1 ?c2).mono ?_); (case c1 => omega); (case c2 => repeat (first | assumption | exact Below.refl _ _ | apply below_alloc | apply below_drawn | apply below_drew)); rintro e w' ⟨rfl, hb⟩))
        all_goals go_ret
        all_goals exact ⟨rfl, by repeat (first | assumption | exact Below.refl _ _ | apply below_alloc | apply below_drawn | apply below_drew)⟩
    · have h1' : ¬ (600 : Int) < (a0.size : Int) := by omega
      have h2' : a1 < 0 := by omega
      have v1 : nameEnd a0 a1 = a1 := by unfold nameEnd; rw [if_neg (by omega)]
      have v2 : upto isDig a0 a1 = a1 := by unfold upto; rw [if_neg (by omega)]
      have v3 : blank a0 a1 = a1 := by unfold blank; rw [if_neg (by omega)]
      clear h2
      go_enter Try.func4, Try.ntmps4
      go_wp2_with (first
        | (go_at_call 14; (with_reducible refine (awake4_st w _ ?c2).mono ?_); (case c2 => repeat (first | assumption | exact Below.refl _ _ | apply below_alloc | apply below_drawn | apply below_drew)); rintro e w' ⟨rfl, hb⟩)
        | (go_at_call 17; (with_reducible refine (name_st w _ _ _ ?c1 ?c2).mono ?_); (case c1 => (first | omega | (simp only [ByteArray.size_append, lit_size, List.size_toArray, List.length_cons, List.length_nil, ByteArray.size_extract]; omega))); (case c2 => repeat (first | assumption | exact Below.refl _ _ | apply below_alloc | apply below_drawn | apply below_drew)); rintro e w' ⟨rfl, hb⟩)
        | (go_at_call 19; (with_reducible refine (dig_st w _ _ _ ?c1 ?c2).mono ?_); (case c1 => (first | omega | (simp only [ByteArray.size_append, lit_size, List.size_toArray, List.length_cons, List.length_nil, ByteArray.size_extract]; omega))); (case c2 => repeat (first | assumption | exact Below.refl _ _ | apply below_alloc | apply below_drawn | apply below_drew)); rintro e w' ⟨rfl, hb⟩)
        | (go_at_call 21; (with_reducible refine (blank_st w _ _ _ ?c1 ?c2).mono ?_); (case c1 => (first | omega | (simp only [ByteArray.size_append, lit_size, List.size_toArray, List.length_cons, List.length_nil, ByteArray.size_extract]; omega))); (case c2 => repeat (first | assumption | exact Below.refl _ _ | apply below_alloc | apply below_drawn | apply below_drew)); rintro e w' ⟨rfl, hb⟩)
        | (go_at_call 16; (with_reducible refine (begins_st w _ _ ?c1 ?c2).mono ?_); (case c1 => omega); (case c2 => repeat (first | assumption | exact Below.refl _ _ | apply below_alloc | apply below_drawn | apply below_drew)); rintro e w' ⟨rfl, hb⟩))
      all_goals go_ret
      all_goals exact ⟨rfl, by repeat (first | assumption | exact Below.refl _ _ | apply below_alloc | apply below_drawn | apply below_drew)⟩
  · have h1' : (600 : Int) < (a0.size : Int) := by omega
    go_enter Try.func4, Try.ntmps4
    go_wp2_with (go_at_call 14; (with_reducible refine (awake4_st w _ ?c2).mono ?_); (case c2 => repeat (first | assumption | exact Below.refl _ _ | apply below_alloc | apply below_drawn | apply below_drew)); rintro e w' ⟨rfl, hb⟩)
    all_goals go_ret
    all_goals exact ⟨rfl, by repeat (first | assumption | exact Below.refl _ _ | apply below_alloc | apply below_drawn | apply below_drew)⟩
end Go.Proofs.Ytdhncfkbblfokaa.G
