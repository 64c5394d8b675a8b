/-
  The document's escapes: what its text computes is what the mathematics says.
-/
import Derived.Test.YtcebkppagamjiaaDoorPD6
import Derived.Test.YtcebkppagamjiaaDoorQ8
namespace Go.Proofs.YtcebkppagamjiaaDoor.G
open Go.RowKit Go.Proofs.YtcebkppagamjiaaDoor.Q Go.Proofs.YtcebkppagamjiaaDoorW.PrintWords Go.Proofs.YtcebkppagamjiaaDoor.M
set_option linter.unusedVariables false
set_option linter.unusedSimpArgs false

theorem es_none {s : ByteArray} {i : Int} (h : escAt s i = ([], 0)) : some (EsT s i, EsI s i, EsB s i) = some ((⟨#[]⟩ : ByteArray), i, false) := by
  unfold EsT EsI EsB
  rw [h]
  show some (ba [], i + 0, false) = _
  rw [Int.add_zero]; rfl
theorem es_some {s : ByteArray} {i : Int} {t : List Int} {K : Nat} {I : Int} (h : escAt s i = (t, K)) (hK : K ≠ 0) (hI : i + K = I) : some (EsT s i, EsI s i, EsB s i) = some (ba t, I, true) := by
  unfold EsT EsI EsB
  rw [h, ← hI, decide_eq_true hK]
theorem ref_Escape (k : Nat) (s : ByteArray) (i : Int) (hs : s.size ≤ 1000000) : copperplateref06_Escape.f (k + 20) s i = some (EsT s i, EsI s i, EsB s i) := by
  have none_ : escAt s i = ([], 0) → copperplateref06_Escape.j0 (k + 20) s i true = some (EsT s i, EsI s i, EsB s i) := by
    intro h; rw [es_none h, copperplateref06_Escape.j0, if_pos rfl]
  unfold copperplateref06_Escape.f
  by_cases q1 : i < 0
  · rw [if_pos q1]; exact none_ (if_pos q1)
  obtain ⟨n, rfl⟩ : ∃ n : Nat, i = n := ⟨i.toNat, by omega⟩
  rw [escAt_nat] at none_
  have hlen : n ≤ s.size → ((at_ s n).length : Int) = s.size - n := fun h => at_length s n (by omega) (by omega)
  rw [if_neg q1, w64 (n := (s.size : Int) - 1) (by omega) (by omega)]
  by_cases q2 : (n : Int) ≥ (s.size : Int) - 1
  · rw [if_pos q2]
    refine none_ ?_
    unfold esc
    rw [if_neg (fun q => ?_)]
    by_cases q3 : n ≤ s.size
    · have := hlen q3; omega
    · rw [at_nil s n (by omega)] at q; exact absurd q.2 (by decide)
  have c1 : n + 1 < s.size := by omega
  rw [if_neg q2, if_pos (by omega), if_pos (by omega)]
  have hl1 : 1 < (at_ s n).length := by have := hlen (by omega); omega
  have g0 : (at_ s n).getD 0 0 = bt s n := by rw [gd, if_pos (by omega), show (n : Int) + ((0 : Nat) : Int) = n by omega]
  by_cases c0 : bt s n = 92
  · rw [bne_eq_false_iff_eq.2 c0, copperplateref06_Escape.j0, if_neg (by decide), w64 (n := (n : Int) + 1) (by omega) (by omega), w64 (n := (n : Int) + 2) (by omega) (by omega), if_pos (by omega), if_pos (by omega)]
    obtain ⟨b, hb⟩ : ∃ b, bt s ((n : Int) + 1) = b := ⟨_, rfl⟩
    have hbr := bt_range' s (n + 1) c1
    rw [show ((n + 1 : Nat) : Int) = (n : Int) + 1 by omega, hb] at hbr
    have hg1 : (at_ s n).getD 1 0 = b := by rw [gd, if_pos c1, ← hb]; rfl
    have x2 : hexAt s ((n : Int) + 2) = hex4 ((at_ s n).drop 2) := hex_gd s n 2
    have x8 : hexAt s ((n : Int) + 8) = hex4 ((at_ s n).drop 8) := hex_gd s n 8
    have hX2 := hex4_le ((at_ s n).drop 2)
    have hX8 := hex4_le ((at_ s n).drop 8)
    have hD8 : 0 ≤ hex4 ((at_ s n).drop 8) → n + 12 ≤ s.size := fun h => by have := (hex4_drop h []).2; have := hlen (by omega); omega
    obtain ⟨N, eN⟩ : ∃ N, hex4 ((at_ s n).drop 2) = N := ⟨_, rfl⟩
    obtain ⟨L, eL⟩ : ∃ L, hex4 ((at_ s n).drop 8) = L := ⟨_, rfl⟩
    rw [eN] at x2 hX2
    rw [eL] at x8 hX8 hD8
    have E0 : escAt s n = if 0 ≤ short b then ([short b], 2) else if b = 117 ∧ 0 ≤ N then (if N < 55296 ∨ 57343 < N then (enc N, 6) else if N < 56320 ∧ (at_ s n).getD 6 0 = 92 ∧ (at_ s n).getD 7 0 = 117 ∧ 56320 ≤ L ∧ L ≤ 57343 then (enc (pairOf N L), 12) else ([], 0)) else ([], 0) := by
      rw [escAt_nat]; unfold esc; rw [if_pos ⟨g0.trans c0, hl1⟩, hg1, eN, eL]
    rw [hb, show k + 19 = (k + 18) + 1 from rfl, ref_short (k + 18) b hbr.1 hbr.2]
    simp only [Option.bind_some]
    have hsl := short_le b
    by_cases s0 : short b ≥ 0
    · rw [if_pos s0]
      rw [if_pos s0] at E0
      rw [es_some E0 (by decide) rfl, show short b % 256 = short b by omega]; rfl
    rw [if_neg s0]
    rw [if_neg s0] at E0
    rw [show k + 18 + 1 = (k + 7) + 12 from rfl, ref_Hex (k + 7) s _ hs]
    simp only [Option.bind_some]
    have j1t : ∀ N', escAt s n = ([], 0) → copperplateref06_Escape.j1 (k + 7 + 12) s n N' true = some (EsT s n, EsI s n, EsB s n) := by
      intro N' h; rw [es_none h, show k + 7 + 12 = (k + 18) + 1 from rfl, copperplateref06_Escape.j1, if_pos rfl]
    by_cases u : b = 117
    · rw [if_pos u]
      by_cases v : 0 ≤ N
      · rw [if_pos ⟨u, v⟩] at E0
        have n2 : hexN s ((n : Int) + 2) = N := by unfold hexN; rw [x2, if_pos v]
        have o2 : hexOk s ((n : Int) + 2) = true := by unfold hexOk; rw [x2]; exact decide_eq_true v
        rw [n2, o2, show k + 7 + 12 = (k + 18) + 1 from rfl, copperplateref06_Escape.j1, if_neg (by decide)]
        have j2t : (N < 55296 ∨ 57343 < N) → copperplateref06_Escape.j2 (k + 18) s n N true = some (EsT s n, EsI s n, EsB s n) := by
          intro h
          rw [if_pos h] at E0
          rw [show k + 18 = (k + 17) + 1 from rfl, copperplateref06_Escape.j2, if_pos rfl, ref_put N (by rw [isv_iff]; omega)]
          simp only [Option.bind_some]
          rw [w64 (n := (n : Int) + 6) (by omega) (by omega), es_some E0 (by decide) rfl]; rfl
        by_cases l1 : N < 55296
        · rw [if_pos l1]; exact j2t (.inl l1)
        rw [if_neg l1]
        by_cases l2 : N > 57343
        · rw [decide_eq_true l2]; exact j2t (.inr l2)
        rw [decide_eq_false l2]
        rw [if_neg (by omega)] at E0
        rw [show k + 18 = (k + 17) + 1 from rfl, copperplateref06_Escape.j2, if_neg (by decide), w64 (n := (n : Int) + 8) (by omega) (by omega), show k + 17 = (k + 5) + 12 from rfl, ref_Hex (k + 5) s _ hs]
        simp only [Option.bind_some]
        by_cases l3 : N > 56319
        · rw [if_neg (fun q => by omega)] at E0
          rw [if_pos l3, es_none E0]
        rw [if_neg l3]
        by_cases v2 : 0 ≤ L
        · have n8 : hexN s ((n : Int) + 8) = L := by unfold hexN; rw [x8, if_pos v2]
          have o8 : hexOk s ((n : Int) + 8) = true := by unfold hexOk; rw [x8]; exact decide_eq_true v2
          have hD := hD8 v2
          have g6 : (at_ s n).getD 6 0 = bt s ((n : Int) + 6) := by rw [gd, if_pos (by omega)]; rfl
          have g7 : (at_ s n).getD 7 0 = bt s ((n : Int) + 7) := by rw [gd, if_pos (by omega)]; rfl
          rw [g6, g7] at E0
          rw [n8, o8, if_pos rfl, w64 (n := (n : Int) + 6) (by omega) (by omega), w64 (n := (n : Int) + 7) (by omega) (by omega), if_pos (by omega), if_pos (by omega)]
          by_cases l4 : bt s ((n : Int) + 6) = 92
          · rw [if_pos l4, if_pos (by omega), if_pos (by omega)]
            by_cases l5 : bt s ((n : Int) + 7) = 117
            · rw [if_pos l5]
              by_cases l6 : L < 56320
              · rw [if_neg (fun q => by omega)] at E0
                rw [if_pos l6, es_none E0]
              rw [if_neg l6]
              by_cases l7 : L > 57343
              · rw [if_neg (fun q => by omega)] at E0
                rw [if_pos l7, es_none E0]
              rw [if_neg l7]
              rw [if_pos ⟨by omega, l4, l5, by omega, by omega⟩] at E0
              have hw : wrap64 (wrap64 (wrap64 (65536 + wrap64 (1024 * wrap64 (N - 55296))) + L) - 56320) = pairOf N L := by
                unfold pairOf
                rw [w64 (n := N - 55296) (by omega) (by omega), w64 (n := 1024 * (N - 55296)) (by omega) (by omega), w64 (n := 65536 + 1024 * (N - 55296)) (by omega) (by omega), w64 (n := 65536 + 1024 * (N - 55296) + L) (by omega) (by omega), w64 (by omega) (by omega)]
                omega
              rw [hw, ref_put _ (by rw [isv_iff]; unfold pairOf; omega)]
              simp only [Option.bind_some]
              rw [w64 (n := (n : Int) + 12) (by omega) (by omega), es_some E0 (by decide) rfl]; rfl
            · rw [if_neg (fun q => l5 q.2.2.1)] at E0
              rw [if_neg l5, es_none E0]
          · rw [if_neg (fun q => l4 q.2.1)] at E0
            rw [if_neg l4, es_none E0]
        · rw [if_neg (fun q => by omega)] at E0
          have o8 : hexOk s ((n : Int) + 8) = false := by unfold hexOk; rw [x8]; exact decide_eq_false v2
          rw [o8, if_neg (by decide), es_none E0]
      · rw [if_neg (fun q => v q.2)] at E0
        have o2 : hexOk s ((n : Int) + 2) = false := by unfold hexOk; rw [x2]; exact decide_eq_false v
        rw [o2]
        exact j1t _ E0
    · rw [if_neg (fun q => u q.1)] at E0
      rw [if_neg u]
      exact j1t _ E0
  · rw [show (bt s n != 92) = true from bne_iff_ne.2 c0]
    refine none_ ?_
    unfold esc
    rw [if_neg (fun q => c0 (g0.symm.trans q.1))]
end Go.Proofs.YtcebkppagamjiaaDoor.G
