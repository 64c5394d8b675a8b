/-
  The document's layer 6, over what its text computes.
-/
import Derived.Test.YtjgpmfjkcioinaaGreatDoorPLZ3
import Derived.Test.YtjgpmfjkcioinaaGreatDoorPLE8
import Derived.Test.YtjgpmfjkcioinaaGreatDoorPLQ8
import Derived.Test.YtjgpmfjkcioinaaGreatDoorPLQ9
import Derived.Test.YtjgpmfjkcioinaaGreatDoorPLQ10
namespace Go.Proofs.YtjgpmfjkcioinaaGreatDoor.G
open Go.RowKit Go.Proofs.YtjgpmfjkcioinaaGreatDoor.Q Go.Proofs.YtjgpmfjkcioinaaGreatDoorW.PrintWords Go.Proofs.YtjgpmfjkcioinaaGreatDoor.M
set_option linter.unusedVariables false
set_option linter.unusedSimpArgs false
def sL (l : List Int) : Bool × List Int × Nat := if l.getD 0 0 = 34 then ((strB (l.drop 1)).1, (strB (l.drop 1)).2.1, 1 + (strB (l.drop 1)).2.2) else (false, [], 0)
theorem sL_quote (m : List Int) : sL (34 :: m) = ((strB m).1, (strB m).2.1, 1 + (strB m).2.2) := by
  unfold sL; rw [if_pos (show (34 :: m : List Int).getD 0 0 = 34 from rfl)]; rfl
theorem strAt_nat (s : ByteArray) (n : Nat) : strAt s n = ((sL (at_ s n)).1, (sL (at_ s n)).2.1, (n : Int) + (sL (at_ s n)).2.2) := by
  unfold strAt sL
  rw [hasB_head (by omega)]
  have e : (at_ s n).drop 1 = at_ s ((n : Int) + 1) := by rw [at_drop]; rfl
  by_cases q : (at_ s n).getD 0 0 = 34
  · rw [if_pos (decide_eq_true q), if_pos q, e]
    show (_, _, _) = (_, _, _)
    simp only [Prod.mk.injEq, true_and]
    omega
  · rw [if_neg (by simpa using q), if_neg q]
    show (_, _, _) = (_, _, _)
    simp
theorem ref_digit (k : Nat) (c : Int) (h0 : 0 ≤ c) (h1 : c ≤ 255) : copperplateref06_digit.f (k + 2) c = some (hexv c) := by
  have w1 : wrap64 (wrap64 c - 48) = c - 48 := by rw [w64 (n := c) (by omega) (by omega), w64 (by omega) (by omega)]
  have w2 : wrap64 (wrap64 (wrap64 c - 97) + 10) = c - 87 := by rw [w64 (n := c) (by omega) (by omega), w64 (n := c - 97) (by omega) (by omega), w64 (by omega) (by omega)]; omega
  have w3 : wrap64 (wrap64 (wrap64 c - 65) + 10) = c - 55 := by rw [w64 (n := c) (by omega) (by omega), w64 (n := c - 65) (by omega) (by omega), w64 (by omega) (by omega)]; omega
  have kj1 : ∀ x, copperplateref06_digit.j1 (k + 1) c x = if x = true then some (c - 87) else if 65 ≤ c ∧ c ≤ 70 then some (c - 55) else some (-1) := by
    intro x
    rw [copperplateref06_digit.j1, w2, w3]
    by_cases hx : x = true
    · rw [if_pos hx, if_pos hx]
    rw [if_neg hx, if_neg hx]
    by_cases q1 : c ≥ 65
    · by_cases q2 : c ≤ 70
      · rw [if_pos q1, if_pos q2, if_pos (show 65 ≤ c ∧ c ≤ 70 from ⟨q1, q2⟩)]
      · rw [if_pos q1, if_neg q2, if_neg (fun q => q2 q.2)]
    · rw [if_neg q1, if_neg (fun q => q1 q.1)]
  have kj0 : ∀ x, copperplateref06_digit.j0 (k + 2) c x = if x = true then some (c - 48) else if 97 ≤ c ∧ c ≤ 102 then some (c - 87) else if 65 ≤ c ∧ c ≤ 70 then some (c - 55) else some (-1) := by
    intro x
    rw [copperplateref06_digit.j0, w1, kj1, kj1]
    by_cases hx : x = true
    · rw [if_pos hx, if_pos hx]
    rw [if_neg hx, if_neg hx]
    repeat' split
    all_goals first
      | rfl
      | (exfalso; simp only [decide_eq_true_eq, Bool.false_eq_true] at *; try omega)
  unfold copperplateref06_digit.f hexv
  rw [kj0, kj0]
  repeat' split
  all_goals first
    | rfl
    | (exfalso; simp only [decide_eq_true_eq, Bool.false_eq_true] at *; try omega)
theorem hex_step (k : Nat) (s : ByteArray) (n j : Nat) (x : Int) (hs : s.size ≤ 1000000) (hj : j < 4) (hn : n + j < s.size) (hx0 : 0 ≤ x) (hx1 : x ≤ 1000000) :
    copperplateref06_Hex.l0 (k + 3) s n x ((n + j : Nat) : Int) = if hexv (bt s ((n + j : Nat) : Int)) < 0 then some (0, false) else copperplateref06_Hex.l0 (k + 2) s n (16 * x + hexv (bt s ((n + j : Nat) : Int))) ((n + (j + 1) : Nat) : Int) := by
  have hb := bt_in s (n + j) hn
  have hv := hexv_le (bt s ((n + j : Nat) : Int))
  rw [copperplateref06_Hex.l0, w64 (n := (n : Int) + 4) (by omega) (by omega), if_pos (by omega), if_pos (by omega), if_pos (by omega), ref_digit k _ hb.1 hb.2]
  simp only [Option.bind_some]
  rw [w64 (n := 16 * x) (by omega) (by omega), w64 (n := 16 * x + _) (by omega) (by omega), w64 (n := ((n + j : Nat) : Int) + 1) (by omega) (by omega)]
  rw [show ((n + j : Nat) : Int) + 1 = ((n + (j + 1) : Nat) : Int) by omega]
theorem ref_Hex (k : Nat) (s : ByteArray) (i : Int) (hs : s.size ≤ 1000000) : copperplateref06_Hex.f (k + 12) s i = some (hexN s i, hexOk s i) := by
  have out : (i < 0 ∨ (s.size : Int) - 4 < i) → copperplateref06_Hex.j0 (k + 12) s i true = some (hexN s i, hexOk s i) := by
    intro h
    have := hexAt_out s i h
    unfold hexN hexOk
    rw [copperplateref06_Hex.j0, if_pos rfl, this]
    rfl
  unfold copperplateref06_Hex.f
  by_cases q1 : i < 0
  · rw [if_pos q1]; exact out (.inl q1)
  by_cases q2 : i ≥ (s.size : Int)
  · rw [if_neg q1, if_pos q2]; exact out (.inr (by omega))
  rw [if_neg q1, if_neg q2, w64 (n := (s.size : Int) - i) (by omega) (by omega)]
  by_cases q3 : (s.size : Int) - i < 4
  · rw [decide_eq_true q3]; exact out (.inr (by omega))
  obtain ⟨n, rfl⟩ : ∃ n : Nat, i = n := ⟨i.toNat, by omega⟩
  rw [decide_eq_false q3, copperplateref06_Hex.j0, if_neg (by decide)]
  have e0 := at_cons s n (by omega) (by omega)
  have e1 := at_cons s ((n : Int) + 1) (by omega) (by omega)
  have e2 := at_cons s ((n : Int) + 1 + 1) (by omega) (by omega)
  have e3 := at_cons s ((n : Int) + 1 + 1 + 1) (by omega) (by omega)
  rw [e1, e2, e3] at e0
  have hA : hexAt s n = hex4 (bt s ((n + 0 : Nat) : Int) :: bt s ((n + 1 : Nat) : Int) :: bt s ((n + 2 : Nat) : Int) :: bt s ((n + 3 : Nat) : Int) :: at_ s ((n : Int) + 1 + 1 + 1 + 1)) := by
    unfold hexAt
    rw [if_neg q1, e0]
    rw [show ((n + 0 : Nat) : Int) = n by omega, show ((n + 1 : Nat) : Int) = (n : Int) + 1 by omega, show ((n + 2 : Nat) : Int) = (n : Int) + 1 + 1 by omega, show ((n + 3 : Nat) : Int) = (n : Int) + 1 + 1 + 1 by omega]
  have v0 := hexv_le (bt s ((n + 0 : Nat) : Int))
  have v1 := hexv_le (bt s ((n + 1 : Nat) : Int))
  have v2 := hexv_le (bt s ((n + 2 : Nat) : Int))
  have v3 := hexv_le (bt s ((n + 3 : Nat) : Int))
  obtain ⟨a, ha⟩ : ∃ a, hexv (bt s ((n + 0 : Nat) : Int)) = a := ⟨_, rfl⟩
  obtain ⟨b, hb⟩ : ∃ a, hexv (bt s ((n + 1 : Nat) : Int)) = a := ⟨_, rfl⟩
  obtain ⟨c, hc⟩ : ∃ a, hexv (bt s ((n + 2 : Nat) : Int)) = a := ⟨_, rfl⟩
  obtain ⟨d, hd⟩ : ∃ a, hexv (bt s ((n + 3 : Nat) : Int)) = a := ⟨_, rfl⟩
  have hA' : hexAt s n = if 0 ≤ a ∧ 0 ≤ b ∧ 0 ≤ c ∧ 0 ≤ d then a * 4096 + b * 256 + c * 16 + d else -1 := by
    rw [hA]
    unfold hex4
    simp only []
    rw [ha, hb, hc, hd]
  rw [ha] at v0; rw [hb] at v1; rw [hc] at v2; rw [hd] at v3
  show copperplateref06_Hex.l0 (k + 8 + 3) s n 0 ((n + 0 : Nat) : Int) = some (hres (hexAt s n), hok (hexAt s n))
  rw [hA', hex_step (k + 8) s n 0 0 hs (by omega) (by omega) (by omega) (by omega), ha]
  by_cases p0 : a < 0
  · rw [if_pos p0, if_neg (fun q => by omega)]; rfl
  rw [if_neg p0]
  show copperplateref06_Hex.l0 (k + 7 + 3) s n (16 * 0 + a) ((n + 1 : Nat) : Int) = _
  rw [hex_step (k + 7) s n 1 _ hs (by omega) (by omega) (by omega) (by omega), hb]
  by_cases p1 : b < 0
  · rw [if_pos p1, if_neg (fun q => by omega)]; rfl
  rw [if_neg p1]
  show copperplateref06_Hex.l0 (k + 6 + 3) s n (16 * (16 * 0 + a) + b) ((n + 2 : Nat) : Int) = _
  rw [hex_step (k + 6) s n 2 _ hs (by omega) (by omega) (by omega) (by omega), hc]
  by_cases p2 : c < 0
  · rw [if_pos p2, if_neg (fun q => by omega)]; rfl
  rw [if_neg p2]
  show copperplateref06_Hex.l0 (k + 5 + 3) s n (16 * (16 * (16 * 0 + a) + b) + c) ((n + 3 : Nat) : Int) = _
  rw [hex_step (k + 5) s n 3 _ hs (by omega) (by omega) (by omega) (by omega), hd]
  by_cases p3 : d < 0
  · rw [if_pos p3, if_neg (fun q => by omega)]; rfl
  rw [if_neg p3, if_pos (show 0 ≤ a ∧ 0 ≤ b ∧ 0 ≤ c ∧ 0 ≤ d by omega)]
  rw [copperplateref06_Hex.l0, w64 (n := (n : Int) + 4) (by omega) (by omega), if_neg (by omega), (hres_yes (H := a * 4096 + b * 256 + c * 16 + d) (by omega)).1, (hres_yes (H := a * 4096 + b * 256 + c * 16 + d) (by omega)).2]
  rw [show 16 * (16 * (16 * (16 * 0 + a) + b) + c) + d = a * 4096 + b * 256 + c * 16 + d by omega]
theorem ref_short (k : Nat) (c : Int) (h0 : 0 ≤ c) (h1 : c ≤ 255) : copperplateref06_short.f (k + 1) c = some (short c) := by
  have w1 : wrap64 c = c := w64 (by omega) (by omega)
  have kj : ∀ x, copperplateref06_short.j0 (k + 1) c c x = if x = true then some c else if c = 98 then some 8 else if c = 102 then some 12 else if c = 110 then some 10 else if c = 114 then some 13 else if c = 116 then some 9 else some (-1) := by
    intro x; rw [copperplateref06_short.j0, w1]
  unfold copperplateref06_short.f short
  rw [kj, kj, kj]
  by_cases c1 : c = 34
  · rw [if_pos c1, if_pos (beq_iff_eq.2 c1), if_pos (.inl c1)]
  by_cases c2 : c = 92
  · rw [if_neg c1, if_pos c2, if_pos (beq_iff_eq.2 c2), if_pos (.inr (.inl c2))]
  by_cases c3 : c = 47
  · rw [if_neg c1, if_neg c2, if_pos (beq_iff_eq.2 c3), if_pos (.inr (.inr c3))]
  rw [if_neg c1, if_neg c2, if_neg (by rw [beq_iff_eq]; exact c3), if_neg (show ¬ (c = 34 ∨ c = 92 ∨ c = 47) by omega)]
  repeat' split
  all_goals first | rfl | (exfalso; omega)
theorem ref_put (r : Int) (h : isv r = true) : copperplateref06_put.f r = some (ba (enc r)) := by
  have hv := isv_iff.1 h
  unfold copperplateref06_put.f
  by_cases c : r < 32
  · rw [if_pos c, enc_low (by omega), show r % 256 = r by omega]; rfl
  · rw [if_neg c, ref_Put, if_pos (by rw [isc_iff]; omega)]; rfl
theorem es_none {s : ByteArray} {i : Int} (h : escAt s i = ([], 0)) : some (EsT s i, EsI s i, EsB s i) = some ((⟨#[]⟩ : ByteArray), i, false) := by
  unfold EsT EsI EsB
  rw [h]
  show some (ba [], i + 0, false) = _
  rw [Int.add_zero]; rfl
theorem es_some {s : ByteArray} {i : Int} {t : List Int} {K : Nat} {I : Int} (h : escAt s i = (t, K)) (hK : K ≠ 0) (hI : i + K = I) : some (EsT s i, EsI s i, EsB s i) = some (ba t, I, true) := by
  unfold EsT EsI EsB
  rw [h, ← hI, decide_eq_true hK]
theorem ref_Escape (k : Nat) (s : ByteArray) (i : Int) (hs : s.size ≤ 1000000) : copperplateref06_Escape.f (k + 20) s i = some (EsT s i, EsI s i, EsB s i) := by
  have none_ : escAt s i = ([], 0) → copperplateref06_Escape.j0 (k + 20) s i true = some (EsT s i, EsI s i, EsB s i) := by
    intro h; rw [es_none h, copperplateref06_Escape.j0, if_pos rfl]
  unfold copperplateref06_Escape.f
  by_cases q1 : i < 0
  · rw [if_pos q1]; exact none_ (if_pos q1)
  obtain ⟨n, rfl⟩ : ∃ n : Nat, i = n := ⟨i.toNat, by omega⟩
  rw [escAt_nat] at none_
  have hlen : n ≤ s.size → ((at_ s n).length : Int) = s.size - n := fun h => at_length s n (by omega) (by omega)
  rw [if_neg q1, w64 (n := (s.size : Int) - 1) (by omega) (by omega)]
  by_cases q2 : (n : Int) ≥ (s.size : Int) - 1
  · rw [if_pos q2]
    refine none_ ?_
    unfold esc
    rw [if_neg (fun q => ?_)]
    by_cases q3 : n ≤ s.size
    · have := hlen q3; omega
    · rw [at_nil s n (by omega)] at q; exact absurd q.2 (by decide)
  have c1 : n + 1 < s.size := by omega
  rw [if_neg q2, if_pos (by omega), if_pos (by omega)]
  have hl1 : 1 < (at_ s n).length := by have := hlen (by omega); omega
  have g0 : (at_ s n).getD 0 0 = bt s n := by rw [gd, if_pos (by omega), show (n : Int) + ((0 : Nat) : Int) = n by omega]
  by_cases c0 : bt s n = 92
  · rw [bne_eq_false_iff_eq.2 c0, copperplateref06_Escape.j0, if_neg (by decide), w64 (n := (n : Int) + 1) (by omega) (by omega), w64 (n := (n : Int) + 2) (by omega) (by omega), if_pos (by omega), if_pos (by omega)]
    obtain ⟨b, hb⟩ : ∃ b, bt s ((n : Int) + 1) = b := ⟨_, rfl⟩
    have hbr := bt_range' s (n + 1) c1
    rw [show ((n + 1 : Nat) : Int) = (n : Int) + 1 by omega, hb] at hbr
    have hg1 : (at_ s n).getD 1 0 = b := by rw [gd, if_pos c1, ← hb]; rfl
    have x2 : hexAt s ((n : Int) + 2) = hex4 ((at_ s n).drop 2) := hex_gd s n 2
    have x8 : hexAt s ((n : Int) + 8) = hex4 ((at_ s n).drop 8) := hex_gd s n 8
    have hX2 := hex4_le ((at_ s n).drop 2)
    have hX8 := hex4_le ((at_ s n).drop 8)
    have hD8 : 0 ≤ hex4 ((at_ s n).drop 8) → n + 12 ≤ s.size := fun h => by have := (hex4_drop h []).2; have := hlen (by omega); omega
    obtain ⟨N, eN⟩ : ∃ N, hex4 ((at_ s n).drop 2) = N := ⟨_, rfl⟩
    obtain ⟨L, eL⟩ : ∃ L, hex4 ((at_ s n).drop 8) = L := ⟨_, rfl⟩
    rw [eN] at x2 hX2
    rw [eL] at x8 hX8 hD8
    have E0 : escAt s n = if 0 ≤ short b then ([short b], 2) else if b = 117 ∧ 0 ≤ N then (if N < 55296 ∨ 57343 < N then (enc N, 6) else if N < 56320 ∧ (at_ s n).getD 6 0 = 92 ∧ (at_ s n).getD 7 0 = 117 ∧ 56320 ≤ L ∧ L ≤ 57343 then (enc (pairOf N L), 12) else ([], 0)) else ([], 0) := by
      rw [escAt_nat]; unfold esc; rw [if_pos ⟨g0.trans c0, hl1⟩, hg1, eN, eL]
    rw [hb, show k + 19 = (k + 18) + 1 from rfl, ref_short (k + 18) b hbr.1 hbr.2]
    simp only [Option.bind_some]
    have hsl := short_le b
    by_cases s0 : short b ≥ 0
    · rw [if_pos s0]
      rw [if_pos s0] at E0
      rw [es_some E0 (by decide) rfl, show short b % 256 = short b by omega]; rfl
    rw [if_neg s0]
    rw [if_neg s0] at E0
    rw [show k + 18 + 1 = (k + 7) + 12 from rfl, ref_Hex (k + 7) s _ hs]
    simp only [Option.bind_some]
    have j1t : ∀ N', escAt s n = ([], 0) → copperplateref06_Escape.j1 (k + 7 + 12) s n N' true = some (EsT s n, EsI s n, EsB s n) := by
      intro N' h; rw [es_none h, show k + 7 + 12 = (k + 18) + 1 from rfl, copperplateref06_Escape.j1, if_pos rfl]
    by_cases u : b = 117
    · rw [if_pos u]
      by_cases v : 0 ≤ N
      · rw [if_pos ⟨u, v⟩] at E0
        have n2 : hexN s ((n : Int) + 2) = N := by unfold hexN; rw [x2, if_pos v]
        have o2 : hexOk s ((n : Int) + 2) = true := by unfold hexOk; rw [x2]; exact decide_eq_true v
        rw [n2, o2, show k + 7 + 12 = (k + 18) + 1 from rfl, copperplateref06_Escape.j1, if_neg (by decide)]
        have j2t : (N < 55296 ∨ 57343 < N) → copperplateref06_Escape.j2 (k + 18) s n N true = some (EsT s n, EsI s n, EsB s n) := by
          intro h
          rw [if_pos h] at E0
          rw [show k + 18 = (k + 17) + 1 from rfl, copperplateref06_Escape.j2, if_pos rfl, ref_put N (by rw [isv_iff]; omega)]
          simp only [Option.bind_some]
          rw [w64 (n := (n : Int) + 6) (by omega) (by omega), es_some E0 (by decide) rfl]; rfl
        by_cases l1 : N < 55296
        · rw [if_pos l1]; exact j2t (.inl l1)
        rw [if_neg l1]
        by_cases l2 : N > 57343
        · rw [decide_eq_true l2]; exact j2t (.inr l2)
        rw [decide_eq_false l2]
        rw [if_neg (by omega)] at E0
        rw [show k + 18 = (k + 17) + 1 from rfl, copperplateref06_Escape.j2, if_neg (by decide), w64 (n := (n : Int) + 8) (by omega) (by omega), show k + 17 = (k + 5) + 12 from rfl, ref_Hex (k + 5) s _ hs]
        simp only [Option.bind_some]
        by_cases l3 : N > 56319
        · rw [if_neg (fun q => by omega)] at E0
          rw [if_pos l3, es_none E0]
        rw [if_neg l3]
        by_cases v2 : 0 ≤ L
        · have n8 : hexN s ((n : Int) + 8) = L := by unfold hexN; rw [x8, if_pos v2]
          have o8 : hexOk s ((n : Int) + 8) = true := by unfold hexOk; rw [x8]; exact decide_eq_true v2
          have hD := hD8 v2
          have g6 : (at_ s n).getD 6 0 = bt s ((n : Int) + 6) := by rw [gd, if_pos (by omega)]; rfl
          have g7 : (at_ s n).getD 7 0 = bt s ((n : Int) + 7) := by rw [gd, if_pos (by omega)]; rfl
          rw [g6, g7] at E0
          rw [n8, o8, if_pos rfl, w64 (n := (n : Int) + 6) (by omega) (by omega), w64 (n := (n : Int) + 7) (by omega) (by omega), if_pos (by omega), if_pos (by omega)]
          by_cases l4 : bt s ((n : Int) + 6) = 92
          · rw [if_pos l4, if_pos (by omega), if_pos (by omega)]
            by_cases l5 : bt s ((n : Int) + 7) = 117
            · rw [if_pos l5]
              by_cases l6 : L < 56320
              · rw [if_neg (fun q => by omega)] at E0
                rw [if_pos l6, es_none E0]
              rw [if_neg l6]
              by_cases l7 : L > 57343
              · rw [if_neg (fun q => by omega)] at E0
                rw [if_pos l7, es_none E0]
              rw [if_neg l7]
              rw [if_pos ⟨by omega, l4, l5, by omega, by omega⟩] at E0
              have hw : wrap64 (wrap64 (wrap64 (65536 + wrap64 (1024 * wrap64 (N - 55296))) + L) - 56320) = pairOf N L := by
                unfold pairOf
                rw [w64 (n := N - 55296) (by omega) (by omega), w64 (n := 1024 * (N - 55296)) (by omega) (by omega), w64 (n := 65536 + 1024 * (N - 55296)) (by omega) (by omega), w64 (n := 65536 + 1024 * (N - 55296) + L) (by omega) (by omega), w64 (by omega) (by omega)]
                omega
              rw [hw, ref_put _ (by rw [isv_iff]; unfold pairOf; omega)]
              simp only [Option.bind_some]
              rw [w64 (n := (n : Int) + 12) (by omega) (by omega), es_some E0 (by decide) rfl]; rfl
            · rw [if_neg (fun q => l5 q.2.2.1)] at E0
              rw [if_neg l5, es_none E0]
          · rw [if_neg (fun q => l4 q.2.1)] at E0
            rw [if_neg l4, es_none E0]
        · rw [if_neg (fun q => by omega)] at E0
          have o8 : hexOk s ((n : Int) + 8) = false := by unfold hexOk; rw [x8]; exact decide_eq_false v2
          rw [o8, if_neg (by decide), es_none E0]
      · rw [if_neg (fun q => v q.2)] at E0
        have o2 : hexOk s ((n : Int) + 2) = false := by unfold hexOk; rw [x2]; exact decide_eq_false v
        rw [o2]
        exact j1t _ E0
    · rw [if_neg (fun q => u q.1)] at E0
      rw [if_neg u]
      exact j1t _ E0
  · rw [show (bt s n != 92) = true from bne_iff_ne.2 c0]
    refine none_ ?_
    unfold esc
    rw [if_neg (fun q => c0 (g0.symm.trans q.1))]
def sres (x : ByteArray) (m : Nat) (q : Bool × List Int × Nat) : ByteArray × Int × Bool := if q.1 = true then (x ++ ba q.2.1, (m : Int) + q.2.2, true) else (⟨#[]⟩, (m : Int) + q.2.2, false)
theorem sres_no (x : ByteArray) (m : Nat) : sres x m (false, [], 0) = (⟨#[]⟩, (m : Int), false) := by
  show ((⟨#[]⟩ : ByteArray), (m : Int) + ((0 : Nat) : Int), false) = _
  rw [show (m : Int) + ((0 : Nat) : Int) = m by omega]
theorem sres_sadd (x : ByteArray) (m K : Nat) (T : ByteArray) (q : Bool × List Int × Nat) : sres x m (sadd K (by_ T) q) = sres (x ++ T) (m + K) q := by
  unfold sres sadd
  by_cases h : q.1 = true
  · rw [if_pos h, if_pos rfl, if_pos h]
    show (x ++ ba (by_ T ++ q.2.1), (m : Int) + ((K + q.2.2 : Nat) : Int), true) = _
    rw [ba_append, ba_by, ByteArray.append_assoc, show (m : Int) + ((K + q.2.2 : Nat) : Int) = ((m + K : Nat) : Int) + q.2.2 by omega]
  · rw [if_neg h, if_neg (show ¬ (false = true) by decide), if_neg h]
    show ((⟨#[]⟩ : ByteArray), (m : Int) + ((K + q.2.2 : Nat) : Int), false) = _
    rw [show (m : Int) + ((K + q.2.2 : Nat) : Int) = ((m + K : Nat) : Int) + q.2.2 by omega]
theorem ref_Escape' (K : Nat) (hK : 20 ≤ K) (s : ByteArray) (i : Int) (hs : s.size ≤ 1000000) : copperplateref06_Escape.f K s i = some (EsT s i, EsI s i, EsB s i) := by
  obtain ⟨k, rfl⟩ : ∃ k, K = k + 20 := ⟨K - 20, by omega⟩
  exact ref_Escape k s i hs
theorem hasB_bt {s : ByteArray} {m : Nat} (h : m < s.size) (c : Int) : hasB s m c = decide (bt s m = c) := by
  unfold hasB
  exact decide_eq_decide.2 ⟨fun q => q.2.2, fun q => ⟨by omega, by omega, q⟩⟩
theorem strB_at34 {s : ByteArray} {m : Nat} (hm : m < s.size) (h : bt s m = 34) : strB (at_ s m) = (true, [], 1) := by
  rw [at_cons s m (by omega) (by omega), h]; exact strB_quote _
theorem string_loop (s : ByteArray) (hs : s.size ≤ 1000000) : ∀ (r m K : Nat) (x : ByteArray), m + r = s.size → 2 * r + 30 ≤ K → x.size + 4 * r ≤ 10000000 → copperplateref06_String.l0 K s x (m : Int) = some (sres x m (strB (at_ s m))) := by
  intro r
  induction r using Nat.strongRecOn with
  | _ r ih =>
    intro m K x h hK hx
    obtain ⟨k, rfl⟩ : ∃ k, K = k + 2 := ⟨K - 2, by omega⟩
    rw [copperplateref06_String.l0]
    by_cases h0 : m = s.size
    · rw [if_neg (by omega), copperplateref06_String.j2, if_neg (by decide), if_pos (by omega), at_nil s m (by omega), strB_nil, sres_no]
    have hm : m < s.size := by omega
    rw [if_pos (by omega), if_pos (by omega)]
    by_cases c1 : bt s m = 34
    · rw [bne_eq_false_iff_eq.2 c1, copperplateref06_String.j2, if_neg (by decide), if_neg (by omega), w64 (n := (m : Int) + 1) (by omega) (by omega), strB_at34 hm c1]
      show some (x, (m : Int) + 1, true) = some (x ++ ba [], (m : Int) + ((1 : Nat) : Int), true)
      rw [ba_nil, show x ++ (⟨#[]⟩ : ByteArray) = x from ByteArray.append_empty]; rfl
    have h1 : hasB s m 34 = false := by rw [hasB_bt hm]; exact decide_eq_false c1
    rw [show (bt s m != 34) = true from bne_iff_ne.2 c1, copperplateref06_String.j2, if_pos rfl, if_pos (by omega), if_pos (by omega)]
    by_cases c2 : bt s m = 92
    · have h2 : hasB s m 92 = true := by rw [hasB_bt hm]; exact decide_eq_true c2
      rw [if_pos c2, ref_Escape' k (by omega) s m hs, Option.bind_some]
      by_cases e : (escAt s m).2 = 0
      · have hz : escAt s m = ([], 0) := escAt_zero e
        have q1 : EsB s m = false := by unfold EsB; rw [hz]; rfl
        have q2 : EsI s m = m := by unfold EsI; rw [hz]; exact Int.add_zero _
        rw [if_neg (show ¬ EsB s m = true by rw [q1]; decide), step_escno h2 e, sres_no]
        show some ((⟨#[]⟩ : ByteArray), EsI s m, false) = _
        rw [q2]
      · obtain ⟨q1, q2, q3, q4⟩ := step_esc h2 e
        have q5 : EsB s m = true := decide_eq_true e
        have q6 : EsI s m = ((m + (escAt s m).2 : Nat) : Int) := rfl
        rw [if_pos (show EsB s m = true from q5), if_pos (show x.size + (EsT s m).size ≤ 9223372036854775807 by omega), q1, sres_sadd]
        show copperplateref06_String.l0 k s (x ++ EsT s m) (EsI s m) = _
        rw [q6]
        exact ih (r - (escAt s m).2) (by omega) (m + (escAt s m).2) k (x ++ EsT s m) (by omega) (by omega) (by rw [ByteArray.size_append]; omega)
    · have h2 : hasB s m 92 = false := by rw [hasB_bt hm]; exact decide_eq_false c2
      rw [if_neg c2, ref_Next k (by omega) s m hs, Option.bind_some]
      by_cases n0 : nxn s m = 0
      · rw [if_pos (show nxn s m = 0 from n0), step_no h1 h2 (.inl n0), sres_no]
      rw [if_neg (show ¬ nxn s m = 0 from n0)]
      by_cases n1 : nxr s m = 10
      · rw [if_pos (show nxr s m = 10 from n1), step_no h1 h2 (.inr (.inl n1)), sres_no]
      rw [if_neg (show ¬ nxr s m = 10 from n1)]
      by_cases n2 : nxr s m = 13
      · rw [if_pos (show nxr s m = 13 from n2), step_no h1 h2 (.inr (.inr n2)), sres_no]
      rw [if_neg (show ¬ nxr s m = 13 from n2)]
      have hr := nxn_range s m
      obtain ⟨K, hKn⟩ : ∃ K : Nat, nxn s m = (K : Int) := ⟨(nxn s m).toNat, by omega⟩
      obtain ⟨q1, q2, q3, q4⟩ := step_plain h1 h2 n0 n1 n2 hKn
      have hw : wrap64 ((m : Int) + (nxn s m)) = ((m + K : Nat) : Int) := by rw [hKn, w64 (by omega) (by omega)]; rfl
      show (if (m : Int) ≤ wrap64 ((m : Int) + (nxn s m)) then (if wrap64 ((m : Int) + (nxn s m)) ≤ (s.size : Int) then (if x.size + (s.extract (m : Int).toNat (wrap64 ((m : Int) + (nxn s m))).toNat).size ≤ 9223372036854775807 then copperplateref06_String.l0 k s (x ++ s.extract (m : Int).toNat (wrap64 ((m : Int) + (nxn s m))).toNat) (wrap64 ((m : Int) + (nxn s m))) else none) else none) else none) = _
      rw [hw, Int.toNat_natCast, Int.toNat_natCast, if_pos (by omega), if_pos (by omega), if_pos (by omega), q1, sres_sadd]
      exact ih (r - K) (by omega) (m + K) k _ (by omega) (by omega) (by rw [ByteArray.size_append]; omega)
theorem ref_String (K : Nat) (s : ByteArray) (i : Int) (hs : s.size ≤ 1000000) (hK : 2 * s.size + 40 ≤ K) : copperplateref06_String.f K s i = some (StT s i, StI s i, StB s i) := by
  obtain ⟨k, rfl⟩ : ∃ k, K = k + 1 := ⟨K - 1, by omega⟩
  have none_ : hasB s i 34 = false → copperplateref06_String.j0 (k + 1) s i true = some (StT s i, StI s i, StB s i) := by
    intro h
    have e : strAt s i = (false, [], i) := by unfold strAt; rw [h]; rfl
    unfold StT StI StB
    rw [copperplateref06_String.j0, if_pos rfl, e]; rfl
  unfold copperplateref06_String.f
  by_cases q1 : i < 0
  · rw [if_pos q1]; exact none_ (by unfold hasB; exact decide_eq_false (by omega))
  by_cases q2 : i ≥ (s.size : Int)
  · rw [if_neg q1, if_pos q2]; exact none_ (by unfold hasB; exact decide_eq_false (by omega))
  obtain ⟨n, rfl⟩ : ∃ n : Nat, i = n := ⟨i.toNat, by omega⟩
  have hn : n < s.size := by omega
  rw [if_neg q1, if_neg q2, if_pos (by omega), if_pos (by omega)]
  by_cases c : bt s n = 34
  · have hb : hasB s n 34 = true := by rw [hasB_bt hn]; exact decide_eq_true c
    rw [bne_eq_false_iff_eq.2 c, copperplateref06_String.j0, if_neg (by decide), w64 (n := (n : Int) + 1) (by omega) (by omega)]
    have hl := string_loop s hs (s.size - (n + 1)) (n + 1) k ⟨#[]⟩ (by omega) (by omega) (by show 0 + _ ≤ _; omega)
    rw [show (n : Int) + 1 = ((n + 1 : Nat) : Int) from rfl, hl]
    have e : strAt s n = ((strB (at_ s ((n + 1 : Nat) : Int))).1, (strB (at_ s ((n + 1 : Nat) : Int))).2.1, (n : Int) + 1 + (strB (at_ s ((n + 1 : Nat) : Int))).2.2) := by
      unfold strAt; rw [if_pos hb]; rfl
    unfold StT StI StB
    rw [e]
    unfold sres
    cases hq : (strB (at_ s ((n + 1 : Nat) : Int))).1 with
    | true =>
      rw [if_pos rfl, show (⟨#[]⟩ : ByteArray) ++ ba (strB (at_ s ((n + 1 : Nat) : Int))).2.1 = ba (strB (at_ s ((n + 1 : Nat) : Int))).2.1 from ByteArray.empty_append]; rfl
    | false =>
      rw [if_neg (by decide), strB_no _ hq]; rfl
  · rw [show (bt s n != 34) = true from bne_iff_ne.2 c]
    exact none_ (by rw [hasB_bt hn]; exact decide_eq_false c)
end Go.Proofs.YtjgpmfjkcioinaaGreatDoor.G
