/-
  'text.escape': all its ways in one.
-/
import Derived.Test.YtjgpmfjkcioinaaDoorPTE2
import Derived.Test.YtjgpmfjkcioinaaDoorPTBA
namespace Go.Proofs.YtjgpmfjkcioinaaDoor.G
open Go.RowKit Go.Proofs.YtjgpmfjkcioinaaDoorW.PrintWords Go.Proofs.YtjgpmfjkcioinaaDoor.M
set_option linter.unusedVariables false
set_option linter.unusedSimpArgs false
def escAt (s : ByteArray) (i : Int) : List Int × Nat := if i < 0 then ([], 0) else esc (at_ s i)
def escE (s : ByteArray) (i : Int) : Ending := if (escAt s i).2 = 0 then Wrong i else .returned (.tuple #[.string (ba (escAt s i).1), .int .i64 (i + (escAt s i).2)])
theorem escAt_nat (s : ByteArray) (n : Nat) : escAt s n = esc (at_ s n) := if_neg (by omega)
theorem escE_no {s : ByteArray} {n : Nat} (h : esc (at_ s n) = ([], 0)) : escE s n = Wrong n := by
  unfold escE; rw [escAt_nat, h]; rfl
theorem escE_yes {s : ByteArray} {n : Nat} {t : List Int} {k : Nat} {K : Int} {E : ByteArray} (h : esc (at_ s n) = (t, k)) (hk : k ≠ 0) (hK : (n : Int) + k = K) (hE : by_ E = t) :
    escE s n = .returned (.tuple #[.string E, .int .i64 K]) := by
  unfold escE; rw [escAt_nat, h, if_neg hk, ← hE, ba_by, hK]
theorem gd (s : ByteArray) (n k : Nat) : (at_ s n).getD k 0 = if n + k < s.size then bt s ((n : Int) + k) else 0 := by
  have e : at_ s n = (by_ s).drop n := by unfold at_; rw [Int.toNat_natCast]
  rw [e, List.getD_eq_getElem?_getD, List.getElem?_drop]
  by_cases h : n + k < s.size
  · rw [if_pos h]
    have := bt_by s ((n : Int) + k) (by omega)
    rw [show ((n : Int) + k).toNat = n + k by omega] at this
    rw [this]; rfl
  · rw [if_neg h, List.getElem?_eq_none (by rw [by_length]; omega)]; rfl
theorem hasB_gd (s : ByteArray) (n k : Nat) (c : Int) (hc : 0 < c) : hasB s ((n : Int) + k) c = decide ((at_ s n).getD k 0 = c) := by
  unfold hasB
  rw [gd]
  by_cases h : n + k < s.size
  · rw [if_pos h]
    exact decide_eq_decide.2 ⟨fun q => q.2.2, fun q => ⟨by omega, by omega, q⟩⟩
  · rw [if_neg h, decide_eq_false (by omega), decide_eq_false (by omega)]
theorem hex_gd (s : ByteArray) (n k : Nat) : hexAt s ((n : Int) + k) = hex4 ((at_ s n).drop k) := by
  unfold hexAt
  rw [if_neg (by omega), at_add _ _ _ (by omega)]
theorem bt_range' (s : ByteArray) (n : Nat) (h : n < s.size) : 0 ≤ bt s n ∧ bt s n ≤ 255 := by
  have : (((s[n]'h).toNat : Nat) : Int) = bt s n := bt_at s n h
  have := (s[n]'h).toNat_lt
  omega
theorem esc_nat (s : ByteArray) (n : Nat) (w : World) (hs : s.size ≤ 1000000) (hT : TE w) :
    Calls Tryd.prog 69 #[.string s, .int .i64 n] w fun e w' => e = escE s n ∧ Below w.heap.size w w' := by
  have hlen : n ≤ s.size → ((at_ s n).length : Int) = s.size - n := fun h => at_length s n (by omega) (by omega)
  have hlen2 : s.size < n → (at_ s n).length = 0 := fun h => by rw [at_nil s n (by omega)]; rfl
  have g0 := hasB_gd s n 0 92 (by omega)
  rw [show (n : Int) + ((0 : Nat) : Int) = n by omega] at g0
  by_cases c0 : (at_ s n).getD 0 0 = 92
  · have g0' := g0.trans (decide_eq_true c0)
    have hn : n < s.size := by
      rw [gd] at c0
      by_cases q : n < s.size
      · exact q
      · rw [if_neg (by omega)] at c0; omega
    by_cases c1 : n + 1 < s.size
    · have hl1 : 1 < (at_ s n).length := by have := hlen (by omega); omega
      obtain ⟨b, hb⟩ : ∃ b, bt s ((n + 1 : Nat) : Int) = b := ⟨_, rfl⟩
      have hat : ∀ h : n + 1 < s.size, (((s[n + 1]'h).toNat : Nat) : Int) = b := fun h => by rw [← hb]; exact bt_at s ((n + 1 : Nat) : Int) h
      have hbr := bt_range' s (n + 1) c1
      rw [hb] at hbr
      have hg1 : (at_ s n).getD 1 0 = b := by rw [gd, if_pos c1, ← hb]; rfl
      have g1 : hasB s ((n : Int) + 1) 117 = decide (b = 117) := by rw [← hg1]; exact hasB_gd s n 1 117 (by omega)
      have g6 : hasB s ((n : Int) + 6) 92 = decide ((at_ s n).getD 6 0 = 92) := hasB_gd s n 6 92 (by omega)
      have g7 : hasB s ((n : Int) + 7) 117 = decide ((at_ s n).getD 7 0 = 117) := hasB_gd s n 7 117 (by omega)
      have x2 : hexAt s ((n : Int) + 2) = hex4 ((at_ s n).drop 2) := hex_gd s n 2
      have x8 : hexAt s ((n : Int) + 8) = hex4 ((at_ s n).drop 8) := hex_gd s n 8
      have hX2 := hex4_le ((at_ s n).drop 2)
      have hX8 := hex4_le ((at_ s n).drop 8)
      obtain ⟨N, eN⟩ : ∃ N, hex4 ((at_ s n).drop 2) = N := ⟨_, rfl⟩
      obtain ⟨L, eL⟩ : ∃ L, hex4 ((at_ s n).drop 8) = L := ⟨_, rfl⟩
      rw [eN] at x2 hX2
      rw [eL] at x8 hX8
      have n2 : hexN s ((n : Int) + 2) = if 0 ≤ N then N else 0 := by unfold hexN; rw [x2]
      have o2 : hexOk s ((n : Int) + 2) = decide (0 ≤ N) := by unfold hexOk; rw [x2]
      have n8 : hexN s ((n : Int) + 8) = if 0 ≤ L then L else 0 := by unfold hexN; rw [x8]
      have o8 : hexOk s ((n : Int) + 8) = decide (0 ≤ L) := by unfold hexOk; rw [x8]
      have E0 : esc (at_ s n) = if 0 ≤ short b then ([short b], 2) else if b = 117 ∧ 0 ≤ N then (if N < 55296 ∨ 57343 < N then (enc N, 6) else if N < 56320 ∧ (at_ s n).getD 6 0 = 92 ∧ (at_ s n).getD 7 0 = 117 ∧ 56320 ≤ L ∧ L ≤ 57343 then (enc (pairOf N L), 12) else ([], 0)) else ([], 0) := by
        unfold esc; rw [if_pos ⟨c0, hl1⟩, hg1, eN, eL]
      rcases sh_short b hbr.1 hbr.2 with ⟨k1, k2⟩ | ⟨k, k3, k4, k5, k6⟩
      · rw [if_neg (by omega)] at E0
        by_cases u : b = 117
        · have g1' := g1.trans (decide_eq_true u)
          by_cases v : 0 ≤ N
          · rw [if_pos ⟨u, v⟩] at E0
            rw [if_pos v] at n2
            have o2' := o2.trans (decide_eq_true v)
            by_cases l1 : N < 55296
            · rw [if_pos (.inl l1)] at E0
              have hv : isv N = true := by rw [isv_iff]; omega
              rw [escE_yes (E := Utf8.encode N) E0 (by omega) rfl (encode_by hv)]
              exact esc_s2a s n b N _ w hs hT g0' c1 hat k1 n2 o2' g1' v hX2.2 l1 rfl
            · by_cases l2 : 57343 < N
              · rw [if_pos (.inr l2)] at E0
                have hv : isv N = true := by rw [isv_iff]; omega
                rw [escE_yes (E := Utf8.encode N) E0 (by omega) rfl (encode_by hv)]
                exact esc_s2b s n b N _ w hs hT g0' c1 hat k1 n2 o2' g1' v hX2.2 l2 rfl
              · rw [if_neg (by omega)] at E0
                by_cases l3 : N < 56320
                · by_cases l4 : (at_ s n).getD 6 0 = 92
                  · have g6' := g6.trans (decide_eq_true l4)
                    by_cases l5 : (at_ s n).getD 7 0 = 117
                    · have g7' := g7.trans (decide_eq_true l5)
                      by_cases v2 : 0 ≤ L
                      · have o8' := o8.trans (decide_eq_true v2)
                        rw [if_pos v2] at n8
                        by_cases l6 : L < 56320
                        · rw [if_neg (by omega)] at E0
                          rw [escE_no E0]
                          exact esc_f3e s n b N L w hs hT g0' c1 hat k1 n2 o2' g1' v hX2.2 (by omega) (by omega) n8 o8' l3 g6' g7' l6
                        · by_cases l7 : 57343 < L
                          · rw [if_neg (by omega)] at E0
                            rw [escE_no E0]
                            exact esc_f3f s n b N L w hs hT g0' c1 hat k1 n2 o2' g1' v hX2.2 (by omega) (by omega) n8 o8' l3 g6' g7' l7
                          · rw [if_pos ⟨l3, l4, l5, by omega, by omega⟩] at E0
                            have hv : isv (pairOf N L) = true := by rw [isv_iff]; unfold pairOf; omega
                            rw [escE_yes (E := Utf8.encode (65536 + (N - 55296) * 1024 + L - 56320)) E0 (by omega) rfl (encode_by hv)]
                            exact esc_s3 s n b N L _ w hs hT g0' c1 hat k1 n2 o2' g1' v hX2.2 (by omega) (by omega) n8 o8' l3 g6' g7' (by omega) (by omega) rfl
                      · rw [if_neg (by omega)] at E0
                        rw [escE_no E0]
                        exact esc_f3d s n b N _ w hs hT g0' c1 hat k1 n2 o2' g1' v hX2.2 (by omega) (by omega) n8 (o8.trans (decide_eq_false v2)) l3 g6' g7'
                    · rw [if_neg (fun q => l5 q.2.2.1)] at E0
                      rw [escE_no E0]
                      exact esc_f3c s n b N _ _ w hs hT g0' c1 hat k1 n2 o2' g1' v hX2.2 (by omega) (by omega) rfl rfl l3 g6' (g7.trans (decide_eq_false l5))
                  · rw [if_neg (fun q => l4 q.2.1)] at E0
                    rw [escE_no E0]
                    exact esc_f3b s n b N _ _ w hs hT g0' c1 hat k1 n2 o2' g1' v hX2.2 (by omega) (by omega) rfl rfl l3 (g6.trans (decide_eq_false l4))
                · rw [if_neg (by omega)] at E0
                  rw [escE_no E0]
                  exact esc_f3a s n b N _ _ w hs hT g0' c1 hat k1 n2 o2' g1' v hX2.2 (by omega) (by omega) rfl rfl (by omega)
          · rw [if_neg (fun q => v q.2)] at E0
            rw [escE_no E0]
            exact esc_f2b s n b _ w hs hT g0' c1 hat k1 rfl (o2.trans (decide_eq_false v)) g1'
        · rw [if_neg (fun q => u q.1)] at E0
          rw [escE_no E0]
          exact esc_f2a s n b _ _ w hs hT g0' c1 hat k1 rfl rfl (g1.trans (decide_eq_false u))
      · rw [if_pos k5] at E0
        rw [escE_yes E0 (by omega) rfl k6]
        exact esc_s1 s n k b w hs hT g0' c1 hat k4 k3
    · have E0 : esc (at_ s n) = ([], 0) := by
        unfold esc; rw [if_neg (fun q => by have := hlen (by omega); omega)]
      rw [escE_no E0]
      exact esc_f1b s n w hs hT g0' hn c1
  · have E0 : esc (at_ s n) = ([], 0) := by
      unfold esc; rw [if_neg (fun q => c0 q.1)]
    rw [escE_no E0]
    exact esc_f1a s n w hs hT (g0.trans (decide_eq_false c0))
theorem esc_any (s : ByteArray) (i : Int) (w : World) (hs : s.size ≤ 1000000) (hT : TE w) :
    Calls Tryd.prog 69 #[.string s, .int .i64 i] w fun e w' => e = escE s i ∧ Below w.heap.size w w' := by
  by_cases h : 0 ≤ i
  · obtain ⟨n, rfl⟩ : ∃ n : Nat, i = n := ⟨i.toNat, by omega⟩
    exact esc_nat s n w hs hT
  · have e : escE s i = Wrong i := by
      have q : escAt s i = ([], 0) := if_pos (by omega)
      unfold escE; rw [q]; rfl
    rw [e]
    exact esc_f1a s i w hs hT (by unfold hasB; exact decide_eq_false (by omega))
end Go.Proofs.YtjgpmfjkcioinaaDoor.G
