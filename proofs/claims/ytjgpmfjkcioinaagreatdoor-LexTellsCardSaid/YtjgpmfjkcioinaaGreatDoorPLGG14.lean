/-
  'text.escape': all its ways in one.
-/
import Derived.Test.YtjgpmfjkcioinaaGreatDoorPLE2
import Derived.Test.YtjgpmfjkcioinaaGreatDoorPLGG10
import Derived.Defers
import Derived.Recover
import Derived.Tactics2
import Derived.RegionTactic
import Derived.ChangeAlike
namespace Go.Proofs.YtjgpmfjkcioinaaGreatDoor.G
open Go.RowKit Go.Proofs.YtjgpmfjkcioinaaGreatDoorW.PrintWords Go.Proofs.YtjgpmfjkcioinaaGreatDoor.M
set_option linter.unusedVariables false
set_option linter.unusedSimpArgs false
def escAt (s : ByteArray) (i : Int) : List Int × Nat := if i < 0 then ([], 0) else esc (at_ s i)
def escE (s : ByteArray) (i : Int) : Ending := if (escAt s i).2 = 0 then Wrong i else .returned (.tuple #[.string (ba (escAt s i).1), .int .i64 (i + (escAt s i).2)])
theorem escAt_nat (s : ByteArray) (n : Nat) : escAt s n = esc (at_ s n) := if_neg (by omega)
theorem escE_no {s : ByteArray} {n : Nat} (h : esc (at_ s n) = ([], 0)) : escE s n = Wrong n := by
  unfold escE; rw [escAt_nat, h]; rfl
theorem escE_yes {s : ByteArray} {n : Nat} {t : List Int} {k : Nat} {K : Int} {E : ByteArray} (h : esc (at_ s n) = (t, k)) (hk : k ≠ 0) (hK : (n : Int) + k = K) (hE : by_ E = t) :
    escE s n = .returned (.tuple #[.string E, .int .i64 K]) := by
  unfold escE; rw [escAt_nat, h, if_neg hk, ← hE, ba_by, hK]
theorem gd (s : ByteArray) (n k : Nat) : (at_ s n).getD k 0 = if n + k < s.size then bt s ((n : Int) + k) else 0 := by
  have e : at_ s n = (by_ s).drop n := by unfold at_; rw [Int.toNat_natCast]
  rw [e, List.getD_eq_getElem?_getD, List.getElem?_drop]
  by_cases h : n + k < s.size
  · rw [if_pos h]
    have := bt_by s ((n : Int) + k) (by omega)
    rw [show ((n : Int) + k).toNat = n + k by omega] at this
    rw [this]; rfl
  · rw [if_neg h, List.getElem?_eq_none (by rw [by_length]; omega)]; rfl
theorem hasB_gd (s : ByteArray) (n k : Nat) (c : Int) (hc : 0 < c) : hasB s ((n : Int) + k) c = decide ((at_ s n).getD k 0 = c) := by
  unfold hasB
  rw [gd]
  by_cases h : n + k < s.size
  · rw [if_pos h]
    exact decide_eq_decide.2 ⟨fun q => q.2.2, fun q => ⟨by omega, by omega, q⟩⟩
  · rw [if_neg h, decide_eq_false (by omega), decide_eq_false (by omega)]
theorem hex_gd (s : ByteArray) (n k : Nat) : hexAt s ((n : Int) + k) = hex4 ((at_ s n).drop k) := by
  unfold hexAt
  rw [if_neg (by omega), at_add _ _ _ (by omega)]
theorem bt_range' (s : ByteArray) (n : Nat) (h : n < s.size) : 0 ≤ bt s n ∧ bt s n ≤ 255 := by
  have : (((s[n]'h).toNat : Nat) : Int) = bt s n := bt_at s n h
  have := (s[n]'h).toNat_lt
  omega
theorem esc_nat (s : ByteArray) (n : Nat) (w : World) (hs : s.size ≤ 1000000) (hT : TE w) :
    Calls Tryz.prog 56 #[.string s, .int .i64 n] w fun e w' => e = escE s n ∧ Below w.heap.size w w' := by
  have hlen : n ≤ s.size → ((at_ s n).length : Int) = s.size - n := fun h => at_length s n (by omega) (by omega)
  have hlen2 : s.size < n → (at_ s n).length = 0 := fun h => by rw [at_nil s n (by omega)]; rfl
  have g0 := hasB_gd s n 0 92 (by omega)
  rw [show (n : Int) + ((0 : Nat) : Int) = n by omega] at g0
  by_cases c0 : (at_ s n).getD 0 0 = 92
  · have g0' := g0.trans (decide_eq_true c0)
    have hn : n < s.size := by
      rw [gd] at c0
      by_cases q : n < s.size
      · exact q
      · rw [if_neg (by omega)] at c0; omega
    by_cases c1 : n + 1 < s.size
    · have hl1 : 1 < (at_ s n).length := by have := hlen (by omega); omega
      obtain ⟨b, hb⟩ : ∃ b, bt s ((n + 1 : Nat) : Int) = b := ⟨_, rfl⟩
      have hat : ∀ h : n + 1 < s.size, (((s[n + 1]'h).toNat : Nat) : Int) = b := fun h => by rw [← hb]; exact bt_at s ((n + 1 : Nat) : Int) h
      have hbr := bt_range' s (n + 1) c1
      rw [hb] at hbr
      have hg1 : (at_ s n).getD 1 0 = b := by rw [gd, if_pos c1, ← hb]; rfl
      have g1 : hasB s ((n : Int) + 1) 117 = decide (b = 117) := by rw [← hg1]; exact hasB_gd s n 1 117 (by omega)
      have g6 : hasB s ((n : Int) + 6) 92 = decide ((at_ s n).getD 6 0 = 92) := hasB_gd s n 6 92 (by omega)
      have g7 : hasB s ((n : Int) + 7) 117 = decide ((at_ s n).getD 7 0 = 117) := hasB_gd s n 7 117 (by omega)
      have x2 : hexAt s ((n : Int) + 2) = hex4 ((at_ s n).drop 2) := hex_gd s n 2
      have x8 : hexAt s ((n : Int) + 8) = hex4 ((at_ s n).drop 8) := hex_gd s n 8
      have hX2 := hex4_le ((at_ s n).drop 2)
      have hX8 := hex4_le ((at_ s n).drop 8)
      obtain ⟨N, eN⟩ : ∃ N, hex4 ((at_ s n).drop 2) = N := ⟨_, rfl⟩
      obtain ⟨L, eL⟩ : ∃ L, hex4 ((at_ s n).drop 8) = L := ⟨_, rfl⟩
      rw [eN] at x2 hX2
      rw [eL] at x8 hX8
      have n2 : hexN s ((n : Int) + 2) = if 0 ≤ N then N else 0 := by unfold hexN; rw [x2]
      have o2 : hexOk s ((n : Int) + 2) = decide (0 ≤ N) := by unfold hexOk; rw [x2]
      have n8 : hexN s ((n : Int) + 8) = if 0 ≤ L then L else 0 := by unfold hexN; rw [x8]
      have o8 : hexOk s ((n : Int) + 8) = decide (0 ≤ L) := by unfold hexOk; rw [x8]
      have E0 : esc (at_ s n) = if 0 ≤ short b then ([short b], 2) else if b = 117 ∧ 0 ≤ N then (if N < 55296 ∨ 57343 < N then (enc N, 6) else if N < 56320 ∧ (at_ s n).getD 6 0 = 92 ∧ (at_ s n).getD 7 0 = 117 ∧ 56320 ≤ L ∧ L ≤ 57343 then (enc (pairOf N L), 12) else ([], 0)) else ([], 0) := by
        unfold esc; rw [if_pos ⟨c0, hl1⟩, hg1, eN, eL]
      rcases sh_short b hbr.1 hbr.2 with ⟨k1, k2⟩ | ⟨k, k3, k4, k5, k6⟩
      · rw [if_neg (by omega)] at E0
        by_cases u : b = 117
        · have g1' := g1.trans (decide_eq_true u)
          by_cases v : 0 ≤ N
          · rw [if_pos ⟨u, v⟩] at E0
            rw [if_pos v] at n2
            have o2' := o2.trans (decide_eq_true v)
            by_cases l1 : N < 55296
            · rw [if_pos (.inl l1)] at E0
              have hv : isv N = true := by rw [isv_iff]; omega
              rw [escE_yes (E := Utf8.encode N) E0 (by omega) rfl (encode_by hv)]
              exact esc_s2a s n b N _ w hs hT g0' c1 hat k1 n2 o2' g1' v hX2.2 l1 rfl
            · by_cases l2 : 57343 < N
              · rw [if_pos (.inr l2)] at E0
                have hv : isv N = true := by rw [isv_iff]; omega
                rw [escE_yes (E := Utf8.encode N) E0 (by omega) rfl (encode_by hv)]
                exact esc_s2b s n b N _ w hs hT g0' c1 hat k1 n2 o2' g1' v hX2.2 l2 rfl
              · rw [if_neg (by omega)] at E0
                by_cases l3 : N < 56320
                · by_cases l4 : (at_ s n).getD 6 0 = 92
                  · have g6' := g6.trans (decide_eq_true l4)
                    by_cases l5 : (at_ s n).getD 7 0 = 117
                    · have g7' := g7.trans (decide_eq_true l5)
                      by_cases v2 : 0 ≤ L
                      · have o8' := o8.trans (decide_eq_true v2)
                        rw [if_pos v2] at n8
                        by_cases l6 : L < 56320
                        · rw [if_neg (by omega)] at E0
                          rw [escE_no E0]
                          exact esc_f3e s n b N L w hs hT g0' c1 hat k1 n2 o2' g1' v hX2.2 (by omega) (by omega) n8 o8' l3 g6' g7' l6
                        · by_cases l7 : 57343 < L
                          · rw [if_neg (by omega)] at E0
                            rw [escE_no E0]
                            exact esc_f3f s n b N L w hs hT g0' c1 hat k1 n2 o2' g1' v hX2.2 (by omega) (by omega) n8 o8' l3 g6' g7' l7
                          · rw [if_pos ⟨l3, l4, l5, by omega, by omega⟩] at E0
                            have hv : isv (pairOf N L) = true := by rw [isv_iff]; unfold pairOf; omega
                            rw [escE_yes (E := Utf8.encode (65536 + (N - 55296) * 1024 + L - 56320)) E0 (by omega) rfl (encode_by hv)]
                            exact esc_s3 s n b N L _ w hs hT g0' c1 hat k1 n2 o2' g1' v hX2.2 (by omega) (by omega) n8 o8' l3 g6' g7' (by omega) (by omega) rfl
                      · rw [if_neg (by omega)] at E0
                        rw [escE_no E0]
                        exact esc_f3d s n b N _ w hs hT g0' c1 hat k1 n2 o2' g1' v hX2.2 (by omega) (by omega) n8 (o8.trans (decide_eq_false v2)) l3 g6' g7'
                    · rw [if_neg (fun q => l5 q.2.2.1)] at E0
                      rw [escE_no E0]
                      exact esc_f3c s n b N _ _ w hs hT g0' c1 hat k1 n2 o2' g1' v hX2.2 (by omega) (by omega) rfl rfl l3 g6' (g7.trans (decide_eq_false l5))
                  · rw [if_neg (fun q => l4 q.2.1)] at E0
                    rw [escE_no E0]
                    exact esc_f3b s n b N _ _ w hs hT g0' c1 hat k1 n2 o2' g1' v hX2.2 (by omega) (by omega) rfl rfl l3 (g6.trans (decide_eq_false l4))
                · rw [if_neg (by omega)] at E0
                  rw [escE_no E0]
                  exact esc_f3a s n b N _ _ w hs hT g0' c1 hat k1 n2 o2' g1' v hX2.2 (by omega) (by omega) rfl rfl (by omega)
          · rw [if_neg (fun q => v q.2)] at E0
            rw [escE_no E0]
            exact esc_f2b s n b _ w hs hT g0' c1 hat k1 rfl (o2.trans (decide_eq_false v)) g1'
        · rw [if_neg (fun q => u q.1)] at E0
          rw [escE_no E0]
          exact esc_f2a s n b _ _ w hs hT g0' c1 hat k1 rfl rfl (g1.trans (decide_eq_false u))
      · rw [if_pos k5] at E0
        rw [escE_yes E0 (by omega) rfl k6]
        exact esc_s1 s n k b w hs hT g0' c1 hat k4 k3
    · have E0 : esc (at_ s n) = ([], 0) := by
        unfold esc; rw [if_neg (fun q => by have := hlen (by omega); omega)]
      rw [escE_no E0]
      exact esc_f1b s n w hs hT g0' hn c1
  · have E0 : esc (at_ s n) = ([], 0) := by
      unfold esc; rw [if_neg (fun q => c0 q.1)]
    rw [escE_no E0]
    exact esc_f1a s n w hs hT (g0.trans (decide_eq_false c0))
theorem esc_any (s : ByteArray) (i : Int) (w : World) (hs : s.size ≤ 1000000) (hT : TE w) :
    Calls Tryz.prog 56 #[.string s, .int .i64 i] w fun e w' => e = escE s i ∧ Below w.heap.size w w' := by
  by_cases h : 0 ≤ i
  · obtain ⟨n, rfl⟩ : ∃ n : Nat, i = n := ⟨i.toNat, by omega⟩
    exact esc_nat s n w hs hT
  · have e : escE s i = Wrong i := by
      have q : escAt s i = ([], 0) := if_pos (by omega)
      unfold escE; rw [q]; rfl
    rw [e]
    exact esc_f1a s i w hs hT (by unfold hasB; exact decide_eq_false (by omega))
end Go.Proofs.YtjgpmfjkcioinaaGreatDoor.G
namespace Go.Proofs.YtjgpmfjkcioinaaGreatDoor.G
open Go.RowKit Go.Proofs.YtjgpmfjkcioinaaGreatDoorW.PrintWords Go.Proofs.YtjgpmfjkcioinaaGreatDoor.M
set_option linter.unusedVariables false
set_option linter.unusedSimpArgs false
attribute [local irreducible] Utf8.encode Utf8.decode
theorem wrong_assert (i : Int) (w : World) : Sem.run Tryz.prog (Instr.typeAssert (.iface 74 (.int .i64 i)) 20 74 false) w = .ok (.int .i64 i) w := by
  first | kernel_rfl | rfl
set_option maxHeartbeats 1000000 in
theorem catch_yes (B : Nat) (t : ByteArray) (a i : Int) (b : Bool) (older : List PanicEntry) (w : World)
    (h0 : w.cell? ⟨B, 0, none⟩ = some (.string t)) (h1 : w.cell? ⟨B + 1, 0, none⟩ = some (.int .i64 a)) (h2 : w.cell? ⟨B + 2, 0, none⟩ = some (.bool b))
    (z0 : w.frozen? ⟨B, 0, none⟩ = false) (z1 : w.frozen? ⟨B + 1, 0, none⟩ = false) (z2 : w.frozen? ⟨B + 2, 0, none⟩ = false) :
    CallsD Tryz.prog 76 #[.pointer (some ⟨B, 0, none⟩), .pointer (some ⟨B + 1, 0, none⟩), .pointer (some ⟨B + 2, 0, none⟩)] (.panicking ({ v := .iface 74 (.int .i64 i), recovered := false } :: older)) w fun e u' w' =>
      e = .returned (.tuple #[]) ∧ u' = .panicking ({ v := .iface 74 (.int .i64 i), recovered := true } :: older) ∧
      w'.cell? ⟨B, 0, none⟩ = some (.string ⟨#[]⟩) ∧ w'.cell? ⟨B + 1, 0, none⟩ = some (.int .i64 i) ∧ w'.cell? ⟨B + 2, 0, none⟩ = some (.bool false) ∧ Below B w w' := by
  have hta := wrong_assert i
  have q0 : (w.setCell ⟨B, 0, none⟩ (.string ⟨#[]⟩)).cell? ⟨B, 0, none⟩ = some (.string ⟨#[]⟩) := World.cell?_setCell_same _ _ _ h0
  have q1 : ((w.setCell ⟨B, 0, none⟩ (.string ⟨#[]⟩)).setCell ⟨B + 1, 0, none⟩ (.int .i64 i)).cell? ⟨B + 1, 0, none⟩ = some (.int .i64 i) := World.cell?_setCell_same _ _ _ (by rw [World.cell?_setCell_other _ _ _ _ (by simp)]; exact h1)
  have q2 : (((w.setCell ⟨B, 0, none⟩ (.string ⟨#[]⟩)).setCell ⟨B + 1, 0, none⟩ (.int .i64 i)).setCell ⟨B + 2, 0, none⟩ (.bool false)).cell? ⟨B + 2, 0, none⟩ = some (.bool false) := World.cell?_setCell_same _ _ _ (by rw [World.cell?_setCell_other _ _ _ _ (by simp), World.cell?_setCell_other _ _ _ _ (by simp)]; exact h2)
  have q3 : Below B w (((w.setCell ⟨B, 0, none⟩ (.string ⟨#[]⟩)).setCell ⟨B + 1, 0, none⟩ (.int .i64 i)).setCell ⟨B + 2, 0, none⟩ (.bool false)).drew :=
    ((((Below.refl _ w).setCell (p := ⟨B, 0, none⟩) (Nat.le_refl _) _).setCell (p := ⟨B + 1, 0, none⟩) (by show B ≤ B + 1; omega) _).setCell (p := ⟨B + 2, 0, none⟩) (by show B ≤ B + 2; omega) _).drew
  refine callsD_of_wpS Tryz.func76 rfl fun c₀ cs hu => ?_
  apply wpS_seq
  apply wpS_region
  simp [wpOpsS, go_sem, recoverD, hu, Tryz.ntmps76, Exit.thenS]
  apply wpS_seq
  apply wpS_region
  simp [wpOpsS, go_sem, Exit.thenS]
  refine wpS_cond (t := true) (by simp [Act.eval, Array.replicate]) ?_
  simp only [if_true]
  refine wpS_of_wp ?_
  go_region
  all_goals simp [bodyPostS, results, Tryz.results76, go_sem]
  all_goals exact ⟨q0, q1, q2, q3⟩
set_option maxHeartbeats 400000 in
theorem catch_no (args : Array Value) (w : World) (p q r : Value) :
    CallsD Tryz.prog 76 #[p, q, r] .returning w fun e u' w' => e = .returned (.tuple #[]) ∧ u' = .returning ∧ w' = w := by
  refine callsD_of_wpS Tryz.func76 rfl fun c₀ cs hu => ?_
  apply wpS_seq
  apply wpS_region
  simp [wpOpsS, go_sem, recoverD, hu, Tryz.ntmps76, Exit.thenS]
  apply wpS_seq
  apply wpS_region
  simp [wpOpsS, go_sem, Exit.thenS]
  refine wpS_cond (t := false) (by simp [Act.eval, Array.replicate]) ?_
  simp only [Bool.false_eq_true, if_false]
  refine wpS_of_wp (wp_skip ?_)
  cases c₀
  simp_all [bodyPostS, results, Tryz.results76]
def W3 (w : World) : World := ((w.alloc (.cells #[.string ⟨#[]⟩] 9)).alloc (.cells #[.int .i64 0] 3)).alloc (.cells #[.bool false] 4)
structure Three (B : Nat) (W : World) : Prop where
  c0 : W.cell? ⟨B, 0, none⟩ = some (.string ⟨#[]⟩)
  c1 : W.cell? ⟨B + 1, 0, none⟩ = some (.int .i64 0)
  c2 : W.cell? ⟨B + 1 + 1, 0, none⟩ = some (.bool false)
  z0 : W.frozen? ⟨B, 0, none⟩ = false
  z1 : W.frozen? ⟨B + 1, 0, none⟩ = false
  z2 : W.frozen? ⟨B + 1 + 1, 0, none⟩ = false
theorem W3_is (w : World) : Three w.heap.size (W3 w) ∧ Below w.heap.size w (W3 w) ∧ (W3 w).heap.size = w.heap.size + 3 := by
  refine ⟨⟨?_, ?_, ?_, ?_, ?_, ?_⟩, ?_, ?_⟩
  · unfold W3; go_simp
  · unfold W3; go_simp
  · unfold W3; go_simp
  · unfold W3; go_simp
  · unfold W3; go_simp
  · unfold W3; go_simp
  · exact (((Below.refl _ w).alloc (Nat.le_refl _) _).alloc (by simp) _).alloc (by simp; omega) _
  · simp [W3]
theorem Three.low {B : Nat} {W W' : World} (h : Three B W) (hb : Below (B + 3) W W') : Three B W' :=
  ⟨(hb.cell (p := ⟨B, 0, none⟩) (by show B < B + 3; omega)).trans h.c0, (hb.cell (p := ⟨B + 1, 0, none⟩) (by show B + 1 < B + 3; omega)).trans h.c1, (hb.cell (p := ⟨B + 1 + 1, 0, none⟩) (by show B + 1 + 1 < B + 3; omega)).trans h.c2,
   (hb.frozen (p := ⟨B, 0, none⟩) (by show B < B + 3; omega)).trans h.z0, (hb.frozen (p := ⟨B + 1, 0, none⟩) (by show B + 1 < B + 3; omega)).trans h.z1, (hb.frozen (p := ⟨B + 1 + 1, 0, none⟩) (by show B + 1 + 1 < B + 3; omega)).trans h.z2⟩
def W5 (W1 : World) (B : Nat) (T : ByteArray) (I : Int) : World := (((((W1.setCell ⟨B, 0, none⟩ (.string T)).setCell ⟨B + 1, 0, none⟩ (.int .i64 I)).setCell ⟨B, 0, none⟩ (.string T)).setCell ⟨B + 1, 0, none⟩ (.int .i64 I)).setCell ⟨B + 1 + 1, 0, none⟩ (.bool true)).drew
theorem W5_is {W1 : World} {B : Nat} (T : ByteArray) (I : Int) {v0 v1 v2 : Value} (c0 : W1.cell? ⟨B, 0, none⟩ = some v0) (c1 : W1.cell? ⟨B + 1, 0, none⟩ = some v1) (c2 : W1.cell? ⟨B + 1 + 1, 0, none⟩ = some v2) :
    (W5 W1 B T I).cell? ⟨B, 0, none⟩ = some (.string T) ∧ (W5 W1 B T I).cell? ⟨B + 1, 0, none⟩ = some (.int .i64 I) ∧ (W5 W1 B T I).cell? ⟨B + 1 + 1, 0, none⟩ = some (.bool true) ∧ Below B W1 (W5 W1 B T I) := by
  have s : ∀ (W : World) (a : Addr) (v u : Value), W.cell? a = some u → (W.setCell a v).cell? a = some v := fun W a v u h => World.cell?_setCell_same W a v h
  have o : ∀ (W : World) (a b : Addr) (v : Value), a ≠ b → (W.setCell a v).cell? b = W.cell? b := fun W a b v h => World.cell?_setCell_other W a b v h
  have d : ∀ (W : World) (a : Addr), W.drew.cell? a = W.cell? a := fun _ _ => rfl
  have n01 : (⟨B, 0, none⟩ : Addr) ≠ ⟨B + 1, 0, none⟩ := by simp
  have n10 : (⟨B + 1, 0, none⟩ : Addr) ≠ ⟨B, 0, none⟩ := by simp
  have n02 : (⟨B, 0, none⟩ : Addr) ≠ ⟨B + 1 + 1, 0, none⟩ := by simp
  have n20 : (⟨B + 1 + 1, 0, none⟩ : Addr) ≠ ⟨B, 0, none⟩ := by simp
  have n12 : (⟨B + 1, 0, none⟩ : Addr) ≠ ⟨B + 1 + 1, 0, none⟩ := by simp
  have n21 : (⟨B + 1 + 1, 0, none⟩ : Addr) ≠ ⟨B + 1, 0, none⟩ := by simp
  refine ⟨?_, ?_, ?_, ?_⟩
  · unfold W5
    rw [d, o _ _ _ _ n20, o _ _ _ _ n10]
    exact s _ _ _ (.string T) (by rw [o _ _ _ _ n10]; exact s _ _ _ _ c0)
  · unfold W5
    rw [d, o _ _ _ _ n21]
    exact s _ _ _ (.int .i64 I) (by rw [o _ _ _ _ n01]; exact s _ _ _ _ (by rw [o _ _ _ _ n01]; exact c1))
  · unfold W5
    rw [d]
    exact s _ _ _ v2 (by rw [o _ _ _ _ n12, o _ _ _ _ n02, o _ _ _ _ n12, o _ _ _ _ n02]; exact c2)
  · exact ((((((Below.refl B W1).setCell (p := ⟨B, 0, none⟩) (Nat.le_refl _) _).setCell (p := ⟨B + 1, 0, none⟩) (by show B ≤ B + 1; omega) _).setCell (p := ⟨B, 0, none⟩) (Nat.le_refl _) _).setCell (p := ⟨B + 1, 0, none⟩) (by show B ≤ B + 1; omega) _).setCell (p := ⟨B + 1 + 1, 0, none⟩) (by show B ≤ B + 1 + 1; omega) _).drew
set_option maxHeartbeats 1000000 in
theorem tried_yes_s (p q : Value) (T : ByteArray) (I : Int) (w : World)
    (hway : ∀ W, Below w.heap.size w W → Calls Tryz.prog 54 #[p, q] W fun e w' => e = .returned (.tuple #[.string T, .int .i64 I]) ∧ Below W.heap.size W w') :
    Calls Tryz.prog 53 #[.func (.func 54) #[] #[p, q]] w fun e w' => e = .returned (.tuple #[.string T, .int .i64 I, .bool true]) ∧ Below w.heap.size w w' := by
  have hmf : ∀ (fn : Fn) (first cap : Array Value) (w : World), (Instr.makeFunc fn first cap).run Tryz.prog w = .ok (.func fn first cap) w := fun _ _ _ _ => rfl
  obtain ⟨h3, hb0, hz0⟩ := W3_is w
  go_enter_defers Tryz.func53, Tryz.ntmps53
  go_wp2_with (go_at_call 54; refine (hway (W3 w) hb0).mono ?_; rintro e W1 ⟨rfl, hb1⟩; have h4 := h3.low (by rw [← hz0]; exact hb1); have hb2 := hb0.trans (hb1.mono (by omega)); obtain ⟨c0, c1, c2, z0, z1, z2⟩ := h4; clear hb1 hb0)
  go_region
  all_goals go_wp2
  all_goals obtain ⟨k0, k1, k2, k3⟩ := W5_is T I c0 c1 c2
  all_goals refine leaves_cons (f := 76) (args := #[.pointer (some ⟨w.heap.size, 0, none⟩), .pointer (some ⟨w.heap.size + 1, 0, none⟩), .pointer (some ⟨w.heap.size + 1 + 1, 0, none⟩)]) (by simp) (by simp [go_sem]) ?_
  all_goals refine (catch_no #[] _ _ _ _).mono ?_
  all_goals rintro e u' w'' ⟨rfl, rfl, h5⟩
  all_goals change w'' = W5 W1 w.heap.size T I at h5
  all_goals subst h5
  all_goals simp [Leaves, settle, results, Tryz.results53, go_sem, k0, k1, k2]
  all_goals exact hb2.trans k3
set_option maxHeartbeats 1000000 in
theorem tried_no_s (p q : Value) (I : Int) (w : World)
    (hway : ∀ W, Below w.heap.size w W → Calls Tryz.prog 54 #[p, q] W fun e w' => e = Wrong I ∧ Below W.heap.size W w') :
    Calls Tryz.prog 53 #[.func (.func 54) #[] #[p, q]] w fun e w' => e = .returned (.tuple #[.string ⟨#[]⟩, .int .i64 I, .bool false]) ∧ Below w.heap.size w w' := by
  have hmf : ∀ (fn : Fn) (first cap : Array Value) (w : World), (Instr.makeFunc fn first cap).run Tryz.prog w = .ok (.func fn first cap) w := fun _ _ _ _ => rfl
  obtain ⟨h3, hb0, hz0⟩ := W3_is w
  go_enter_defers Tryz.func53, Tryz.ntmps53
  go_wp2_with (go_at_call 54; refine (hway (W3 w) hb0).mono ?_; rintro e W1 ⟨rfl, hb1⟩; have h4 := h3.low (by rw [← hz0]; exact hb1); have hb2 := hb0.trans (hb1.mono (by omega)); obtain ⟨c0, c1, c2, z0, z1, z2⟩ := h4; clear hb1 hb0; unfold Wrong)
  refine leaves_cons (f := 76) (args := #[.pointer (some ⟨w.heap.size, 0, none⟩), .pointer (some ⟨w.heap.size + 1, 0, none⟩), .pointer (some ⟨w.heap.size + 1 + 1, 0, none⟩)]) (by simp) (by simp [go_sem]) ?_
  refine (catch_yes w.heap.size _ _ I _ [] W1 c0 c1 c2 z0 z1 z2).mono ?_
  rintro e u' w'' ⟨rfl, rfl, k0, k1, k2, k3⟩
  simp [Leaves, settle, results, Tryz.results53, go_sem, k0, k1, k2]
  exact hb2.trans k3
end Go.Proofs.YtjgpmfjkcioinaaGreatDoor.G
