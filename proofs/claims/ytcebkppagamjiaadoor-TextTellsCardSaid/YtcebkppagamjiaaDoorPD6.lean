/-
  The document's codes and characters, as bytes: what its text computes is what the mathematics says.
-/
import Derived.Test.YtcebkppagamjiaaDoorPD1
import Derived.Test.YtcebkppagamjiaaDoorQ6
import Derived.Test.YtcebkppagamjiaaDoorQ7
namespace Go.Proofs.YtcebkppagamjiaaDoor.G
open Go.RowKit Go.Proofs.YtcebkppagamjiaaDoor.Q Go.Proofs.YtcebkppagamjiaaDoorW.PrintWords Go.Proofs.YtcebkppagamjiaaDoor.M
set_option linter.unusedVariables false
set_option linter.unusedSimpArgs false

theorem w64 {n : Int} (h0 : -9223372036854775808 ≤ n) (h1 : n ≤ 9223372036854775807) : wrap64 n = n := IntWalk.wrap64_in n ⟨h0, h1⟩
theorem ref_digit (k : Nat) (c : Int) (h0 : 0 ≤ c) (h1 : c ≤ 255) : copperplateref06_digit.f (k + 2) c = some (hexv c) := by
  have w1 : wrap64 (wrap64 c - 48) = c - 48 := by rw [w64 (n := c) (by omega) (by omega), w64 (by omega) (by omega)]
  have w2 : wrap64 (wrap64 (wrap64 c - 97) + 10) = c - 87 := by rw [w64 (n := c) (by omega) (by omega), w64 (n := c - 97) (by omega) (by omega), w64 (by omega) (by omega)]; omega
  have w3 : wrap64 (wrap64 (wrap64 c - 65) + 10) = c - 55 := by rw [w64 (n := c) (by omega) (by omega), w64 (n := c - 65) (by omega) (by omega), w64 (by omega) (by omega)]; omega
  have kj1 : ∀ x, copperplateref06_digit.j1 (k + 1) c x = if x = true then some (c - 87) else if 65 ≤ c ∧ c ≤ 70 then some (c - 55) else some (-1) := by
    intro x
    rw [copperplateref06_digit.j1, w2, w3]
    by_cases hx : x = true
    · rw [if_pos hx, if_pos hx]
    rw [if_neg hx, if_neg hx]
    by_cases q1 : c ≥ 65
    · by_cases q2 : c ≤ 70
      · rw [if_pos q1, if_pos q2, if_pos (show 65 ≤ c ∧ c ≤ 70 from ⟨q1, q2⟩)]
      · rw [if_pos q1, if_neg q2, if_neg (fun q => q2 q.2)]
    · rw [if_neg q1, if_neg (fun q => q1 q.1)]
  have kj0 : ∀ x, copperplateref06_digit.j0 (k + 2) c x = if x = true then some (c - 48) else if 97 ≤ c ∧ c ≤ 102 then some (c - 87) else if 65 ≤ c ∧ c ≤ 70 then some (c - 55) else some (-1) := by
    intro x
    rw [copperplateref06_digit.j0, w1, kj1, kj1]
    by_cases hx : x = true
    · rw [if_pos hx, if_pos hx]
    rw [if_neg hx, if_neg hx]
    repeat' split
    all_goals first
      | rfl
      | (exfalso; simp only [decide_eq_true_eq, Bool.false_eq_true] at *; try omega)
  unfold copperplateref06_digit.f hexv
  rw [kj0, kj0]
  repeat' split
  all_goals first
    | rfl
    | (exfalso; simp only [decide_eq_true_eq, Bool.false_eq_true] at *; try omega)
theorem bt_in (s : ByteArray) (n : Nat) (h : n < s.size) : 0 ≤ bt s n ∧ bt s n ≤ 255 := bt_range' s n h
theorem hex_step (k : Nat) (s : ByteArray) (n j : Nat) (x : Int) (hs : s.size ≤ 1000000) (hj : j < 4) (hn : n + j < s.size) (hx0 : 0 ≤ x) (hx1 : x ≤ 1000000) :
    copperplateref06_Hex.l0 (k + 3) s n x ((n + j : Nat) : Int) = if hexv (bt s ((n + j : Nat) : Int)) < 0 then some (0, false) else copperplateref06_Hex.l0 (k + 2) s n (16 * x + hexv (bt s ((n + j : Nat) : Int))) ((n + (j + 1) : Nat) : Int) := by
  have hb := bt_in s (n + j) hn
  have hv := hexv_le (bt s ((n + j : Nat) : Int))
  rw [copperplateref06_Hex.l0, w64 (n := (n : Int) + 4) (by omega) (by omega), if_pos (by omega), if_pos (by omega), if_pos (by omega), ref_digit k _ hb.1 hb.2]
  simp only [Option.bind_some]
  rw [w64 (n := 16 * x) (by omega) (by omega), w64 (n := 16 * x + _) (by omega) (by omega), w64 (n := ((n + j : Nat) : Int) + 1) (by omega) (by omega)]
  rw [show ((n + j : Nat) : Int) + 1 = ((n + (j + 1) : Nat) : Int) by omega]
theorem ref_Hex (k : Nat) (s : ByteArray) (i : Int) (hs : s.size ≤ 1000000) : copperplateref06_Hex.f (k + 12) s i = some (hexN s i, hexOk s i) := by
  have out : (i < 0 ∨ (s.size : Int) - 4 < i) → copperplateref06_Hex.j0 (k + 12) s i true = some (hexN s i, hexOk s i) := by
    intro h
    have := hexAt_out s i h
    unfold hexN hexOk
    rw [copperplateref06_Hex.j0, if_pos rfl, this]
    rfl
  unfold copperplateref06_Hex.f
  by_cases q1 : i < 0
  · rw [if_pos q1]; exact out (.inl q1)
  by_cases q2 : i ≥ (s.size : Int)
  · rw [if_neg q1, if_pos q2]; exact out (.inr (by omega))
  rw [if_neg q1, if_neg q2, w64 (n := (s.size : Int) - i) (by omega) (by omega)]
  by_cases q3 : (s.size : Int) - i < 4
  · rw [decide_eq_true q3]; exact out (.inr (by omega))
  obtain ⟨n, rfl⟩ : ∃ n : Nat, i = n := ⟨i.toNat, by omega⟩
  rw [decide_eq_false q3, copperplateref06_Hex.j0, if_neg (by decide)]
  have e0 := at_cons s n (by omega) (by omega)
  have e1 := at_cons s ((n : Int) + 1) (by omega) (by omega)
  have e2 := at_cons s ((n : Int) + 1 + 1) (by omega) (by omega)
  have e3 := at_cons s ((n : Int) + 1 + 1 + 1) (by omega) (by omega)
  rw [e1, e2, e3] at e0
  have hA : hexAt s n = hex4 (bt s ((n + 0 : Nat) : Int) :: bt s ((n + 1 : Nat) : Int) :: bt s ((n + 2 : Nat) : Int) :: bt s ((n + 3 : Nat) : Int) :: at_ s ((n : Int) + 1 + 1 + 1 + 1)) := by
    unfold hexAt
    rw [if_neg q1, e0]
    rw [show ((n + 0 : Nat) : Int) = n by omega, show ((n + 1 : Nat) : Int) = (n : Int) + 1 by omega, show ((n + 2 : Nat) : Int) = (n : Int) + 1 + 1 by omega, show ((n + 3 : Nat) : Int) = (n : Int) + 1 + 1 + 1 by omega]
  have v0 := hexv_le (bt s ((n + 0 : Nat) : Int))
  have v1 := hexv_le (bt s ((n + 1 : Nat) : Int))
  have v2 := hexv_le (bt s ((n + 2 : Nat) : Int))
  have v3 := hexv_le (bt s ((n + 3 : Nat) : Int))
  obtain ⟨a, ha⟩ : ∃ a, hexv (bt s ((n + 0 : Nat) : Int)) = a := ⟨_, rfl⟩
  obtain ⟨b, hb⟩ : ∃ a, hexv (bt s ((n + 1 : Nat) : Int)) = a := ⟨_, rfl⟩
  obtain ⟨c, hc⟩ : ∃ a, hexv (bt s ((n + 2 : Nat) : Int)) = a := ⟨_, rfl⟩
  obtain ⟨d, hd⟩ : ∃ a, hexv (bt s ((n + 3 : Nat) : Int)) = a := ⟨_, rfl⟩
  have hA' : hexAt s n = if 0 ≤ a ∧ 0 ≤ b ∧ 0 ≤ c ∧ 0 ≤ d then a * 4096 + b * 256 + c * 16 + d else -1 := by
    rw [hA]
    unfold hex4
    simp only []
    rw [ha, hb, hc, hd]
  rw [ha] at v0; rw [hb] at v1; rw [hc] at v2; rw [hd] at v3
  show copperplateref06_Hex.l0 (k + 8 + 3) s n 0 ((n + 0 : Nat) : Int) = some (hres (hexAt s n), hok (hexAt s n))
  rw [hA', hex_step (k + 8) s n 0 0 hs (by omega) (by omega) (by omega) (by omega), ha]
  by_cases p0 : a < 0
  · rw [if_pos p0, if_neg (fun q => by omega)]; rfl
  rw [if_neg p0]
  show copperplateref06_Hex.l0 (k + 7 + 3) s n (16 * 0 + a) ((n + 1 : Nat) : Int) = _
  rw [hex_step (k + 7) s n 1 _ hs (by omega) (by omega) (by omega) (by omega), hb]
  by_cases p1 : b < 0
  · rw [if_pos p1, if_neg (fun q => by omega)]; rfl
  rw [if_neg p1]
  show copperplateref06_Hex.l0 (k + 6 + 3) s n (16 * (16 * 0 + a) + b) ((n + 2 : Nat) : Int) = _
  rw [hex_step (k + 6) s n 2 _ hs (by omega) (by omega) (by omega) (by omega), hc]
  by_cases p2 : c < 0
  · rw [if_pos p2, if_neg (fun q => by omega)]; rfl
  rw [if_neg p2]
  show copperplateref06_Hex.l0 (k + 5 + 3) s n (16 * (16 * (16 * 0 + a) + b) + c) ((n + 3 : Nat) : Int) = _
  rw [hex_step (k + 5) s n 3 _ hs (by omega) (by omega) (by omega) (by omega), hd]
  by_cases p3 : d < 0
  · rw [if_pos p3, if_neg (fun q => by omega)]; rfl
  rw [if_neg p3, if_pos (show 0 ≤ a ∧ 0 ≤ b ∧ 0 ≤ c ∧ 0 ≤ d by omega)]
  rw [copperplateref06_Hex.l0, w64 (n := (n : Int) + 4) (by omega) (by omega), if_neg (by omega), (hres_yes (H := a * 4096 + b * 256 + c * 16 + d) (by omega)).1, (hres_yes (H := a * 4096 + b * 256 + c * 16 + d) (by omega)).2]
  rw [show 16 * (16 * (16 * (16 * 0 + a) + b) + c) + d = a * 4096 + b * 256 + c * 16 + d by omega]
theorem ref_short (k : Nat) (c : Int) (h0 : 0 ≤ c) (h1 : c ≤ 255) : copperplateref06_short.f (k + 1) c = some (short c) := by
  have w1 : wrap64 c = c := w64 (by omega) (by omega)
  have kj : ∀ x, copperplateref06_short.j0 (k + 1) c c x = if x = true then some c else if c = 98 then some 8 else if c = 102 then some 12 else if c = 110 then some 10 else if c = 114 then some 13 else if c = 116 then some 9 else some (-1) := by
    intro x; rw [copperplateref06_short.j0, w1]
  unfold copperplateref06_short.f short
  rw [kj, kj, kj]
  by_cases c1 : c = 34
  · rw [if_pos c1, if_pos (beq_iff_eq.2 c1), if_pos (.inl c1)]
  by_cases c2 : c = 92
  · rw [if_neg c1, if_pos c2, if_pos (beq_iff_eq.2 c2), if_pos (.inr (.inl c2))]
  by_cases c3 : c = 47
  · rw [if_neg c1, if_neg c2, if_pos (beq_iff_eq.2 c3), if_pos (.inr (.inr c3))]
  rw [if_neg c1, if_neg c2, if_neg (by rw [beq_iff_eq]; exact c3), if_neg (show ¬ (c = 34 ∨ c = 92 ∨ c = 47) by omega)]
  repeat' split
  all_goals first | rfl | (exfalso; omega)
theorem ref_is (r : Int) : copperplateref02_is.f r = some (isc r) := by
  unfold copperplateref02_is.f
  repeat' split
  all_goals
    congr 1
    symm
    first
      | (rw [isc_iff]; omega)
      | (rw [← Bool.not_eq_true, isc_iff]; omega)
      | (rw [Bool.eq_iff_iff, isc_iff, decide_eq_true_eq]; omega)
theorem ref_Put (r : Int) : copperplateref02_Put.f r = some (if isc r = true then ba (enc r) else ⟨#[]⟩) := by
  unfold copperplateref02_Put.f
  rw [ref_is]
  simp only [Option.bind_some]
  cases h : isc r with
  | false => rfl
  | true =>
    have hv := isv_iff.1 (isv_of_isc h)
    simp only [if_true]
    unfold enc
    have t1 : ∀ m : Int, 0 < m → Int.tdiv r m = r / m := fun m hm => Int.tdiv_eq_ediv_of_nonneg (by omega)
    have t2 : ∀ q m : Int, 0 ≤ q → Int.tmod q m = q % m := fun q m hq => Int.tmod_eq_emod_of_nonneg hq
    by_cases c1 : r < 128
    · rw [if_pos c1, if_pos c1, show r % 256 = r by omega]; rfl
    by_cases c2 : r < 2048
    · rw [if_neg c1, if_pos c2, if_neg c1, if_pos c2, t1 64 (by omega), t2 r 64 (by omega), w64 (n := r / 64) (by omega) (by omega), w64 (n := 192 + r / 64) (by omega) (by omega), w64 (n := 128 + r % 64) (by omega) (by omega),
        show (192 + r / 64) % 256 = 192 + r / 64 by omega, show (128 + r % 64) % 256 = 128 + r % 64 by omega]; rfl
    by_cases c3 : r < 65536
    · rw [if_neg c1, if_neg c2, if_pos c3, if_neg c1, if_neg c2, if_pos c3, t1 64 (by omega), t1 4096 (by omega), w64 (n := r / 64) (by omega) (by omega), w64 (n := r / 4096) (by omega) (by omega), t2 r 64 (by omega), t2 (r / 64) 64 (by omega),
        w64 (n := 224 + r / 4096) (by omega) (by omega), w64 (n := 128 + r / 64 % 64) (by omega) (by omega), w64 (n := 128 + r % 64) (by omega) (by omega),
        show (224 + r / 4096) % 256 = 224 + r / 4096 by omega, show (128 + r / 64 % 64) % 256 = 128 + r / 64 % 64 by omega, show (128 + r % 64) % 256 = 128 + r % 64 by omega]; rfl
    · rw [if_neg c1, if_neg c2, if_neg c3, if_neg c1, if_neg c2, if_neg c3, t1 64 (by omega), t1 4096 (by omega), t1 262144 (by omega), w64 (n := r / 64) (by omega) (by omega), w64 (n := r / 4096) (by omega) (by omega), w64 (n := r / 262144) (by omega) (by omega), t2 r 64 (by omega), t2 (r / 64) 64 (by omega), t2 (r / 4096) 64 (by omega),
        w64 (n := 240 + r / 262144) (by omega) (by omega), w64 (n := 128 + r / 4096 % 64) (by omega) (by omega), w64 (n := 128 + r / 64 % 64) (by omega) (by omega), w64 (n := 128 + r % 64) (by omega) (by omega),
        show (240 + r / 262144) % 256 = 240 + r / 262144 by omega, show (128 + r / 4096 % 64) % 256 = 128 + r / 4096 % 64 by omega, show (128 + r / 64 % 64) % 256 = 128 + r / 64 % 64 by omega, show (128 + r % 64) % 256 = 128 + r % 64 by omega]; rfl
theorem ref_put (r : Int) (h : isv r = true) : copperplateref06_put.f r = some (ba (enc r)) := by
  have hv := isv_iff.1 h
  unfold copperplateref06_put.f
  by_cases c : r < 32
  · rw [if_pos c, enc_low (by omega), show r % 256 = r by omega]; rfl
  · rw [if_neg c, ref_Put, if_pos (by rw [isc_iff]; omega)]; rfl
end Go.Proofs.YtcebkppagamjiaaDoor.G
