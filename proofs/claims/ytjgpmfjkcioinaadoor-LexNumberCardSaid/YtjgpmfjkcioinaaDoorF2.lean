/-
  Plain mathematics for block strings: the raw text between three quotes. No program in sight.
-/
import Derived.Test.YtjgpmfjkcioinaaDoorF1
namespace Go.Proofs.YtjgpmfjkcioinaaDoor.M
open Go.Proofs.YtjgpmfjkcioinaaDoorW.PrintWords
set_option linter.unusedVariables false
set_option linter.unusedSimpArgs false

/-- Three quotes at the head. -/
def three (l : List Int) : Bool := decide (l.take 3 = [34, 34, 34])
/-- A backslash and three quotes. -/
def thre4 (l : List Int) : Bool := decide (l.take 4 = [92, 34, 34, 34])
def radd (n : Nat) (t : List Int) (q : Bool × List Int × Nat) : Bool × List Int × Nat := if q.1 = true then (true, t ++ q.2.1, n + q.2.2) else (false, [], n + q.2.2)
/-- What stands behind the quotes: whether it ends, what it tells, and how far it goes. -/
def rawB (l : List Int) : Bool × List Int × Nat :=
  if hl : l = [] then (false, [], 0)
  else if three l = true then (true, [], 3)
  else if thre4 l = true then radd 4 [34, 34, 34] (rawB (l.drop 4))
  else if hn : (nxp isc l).2 = 0 then (false, [], 0)
  else radd (nxp isc l).2 (l.take (nxp isc l).2) (rawB (l.drop (nxp isc l).2))
termination_by l.length
decreasing_by
  · have := List.length_pos_iff.2 hl
    rw [List.length_drop]; omega
  · have := List.length_pos_iff.2 hl
    rw [List.length_drop]; omega
theorem rawB_nil : rawB [] = (false, [], 0) := by rw [rawB]; rfl
theorem rawB_end {l : List Int} (h : three l = true) : rawB l = (true, [], 3) := by
  have hl : l ≠ [] := fun e => by rw [e] at h; cases h
  rw [rawB, dif_neg hl, if_pos h]
theorem rawB_esc {l : List Int} (h : thre4 l = true) : rawB l = radd 4 [34, 34, 34] (rawB (l.drop 4)) := by
  have hl : l ≠ [] := fun e => by rw [e] at h; cases h
  have h3 : ¬ three l = true := fun q => by
    unfold three thre4 at *
    have q := of_decide_eq_true q
    have h := of_decide_eq_true h
    cases l with
    | nil => cases h
    | cons a m => simp at q h; omega
  conv => lhs; rw [rawB, dif_neg hl, if_neg h3, if_pos h]
theorem rawB_no {l : List Int} (h : three l = false) (h4 : thre4 l = false) (hn : (nxp isc l).2 = 0) : rawB l = (false, [], 0) := by
  by_cases hl : l = []
  · subst hl; exact rawB_nil
  · rw [rawB, dif_neg hl, if_neg (by simp [h]), if_neg (by simp [h4]), dif_pos hn]
theorem rawB_step {l : List Int} (h : three l = false) (h4 : thre4 l = false) (hn : (nxp isc l).2 ≠ 0) : rawB l = radd (nxp isc l).2 (l.take (nxp isc l).2) (rawB (l.drop (nxp isc l).2)) := by
  conv => lhs; rw [rawB, dif_neg (nxp_ne hn), if_neg (by simp [h]), if_neg (by simp [h4]), dif_neg hn]
theorem three_iff {l : List Int} : three l = true ↔ ∃ m, l = 34 :: 34 :: 34 :: m := by
  unfold three
  rw [decide_eq_true_eq]
  constructor
  · intro h
    refine ⟨l.drop 3, ?_⟩
    conv => lhs; rw [← List.take_append_drop 3 l, h]
    rfl
  · rintro ⟨m, rfl⟩; rfl
theorem thre4_iff {l : List Int} : thre4 l = true ↔ ∃ m, l = 92 :: 34 :: 34 :: 34 :: m := by
  unfold thre4
  rw [decide_eq_true_eq]
  constructor
  · intro h
    refine ⟨l.drop 4, ?_⟩
    conv => lhs; rw [← List.take_append_drop 4 l, h]
    rfl
  · rintro ⟨m, rfl⟩; rfl
theorem radd_yes {n : Nat} {t : List Int} {q : Bool × List Int × Nat} (h : (radd n t q).1 = true) : q.1 = true ∧ radd n t q = (true, t ++ q.2.1, n + q.2.2) := by
  unfold radd at *
  split at h
  · rename_i e; exact ⟨e, by rw [if_pos e]⟩
  · cases h
theorem raw_ind {P : List Int → Prop} (h0 : P []) (h1 : ∀ l, three l = true → P l) (h2 : ∀ l, thre4 l = true → P (l.drop 4) → P l) (h3 : ∀ l, l ≠ [] → three l = false → thre4 l = false → (nxp isc l).2 = 0 → P l)
    (h4 : ∀ l, three l = false → thre4 l = false → (nxp isc l).2 ≠ 0 → P (l.drop (nxp isc l).2) → P l) : ∀ (n : Nat) (l : List Int), l.length ≤ n → P l
  | 0, l, hl => by rw [List.eq_nil_of_length_eq_zero (Nat.le_zero.1 hl)]; exact h0
  | n + 1, l, hl => by
    by_cases e : l = []
    · rw [e]; exact h0
    have hp := List.length_pos_iff.2 e
    cases a : three l with
    | true => exact h1 l a
    | false =>
      cases b : thre4 l with
      | true => exact h2 l b (raw_ind h0 h1 h2 h3 h4 n _ (by rw [List.length_drop]; omega))
      | false =>
        by_cases c : (nxp isc l).2 = 0
        · exact h3 l e a b c
        · exact h4 l a b c (raw_ind h0 h1 h2 h3 h4 n _ (by rw [List.length_drop]; omega))
/-- Where it does not end it tells nothing; how far it goes lies in the text. -/
theorem rawB_false (l : List Int) : (rawB l).1 = false → (rawB l).2.1 = [] ∧ (rawB l).2.2 ≤ l.length := by
  refine raw_ind (P := fun l => (rawB l).1 = false → (rawB l).2.1 = [] ∧ (rawB l).2.2 ≤ l.length) ?_ ?_ ?_ ?_ ?_ l.length l (Nat.le_refl _)
  · intro _; rw [rawB_nil]; exact ⟨rfl, Nat.zero_le _⟩
  · intro l h q; rw [rawB_end h] at q; cases q
  · intro l h ih q
    obtain ⟨m, rfl⟩ := thre4_iff.1 h
    rw [rawB_esc h] at q ⊢
    have hd : (92 :: 34 :: 34 :: 34 :: m : List Int).drop 4 = m := rfl
    rw [hd] at q ih ⊢
    cases e : (rawB m).1 with
    | true => unfold radd at q; rw [if_pos e] at q; cases q
    | false =>
      have := ih e
      unfold radd
      rw [if_neg (by simp [e])]
      exact ⟨rfl, by show 4 + _ ≤ _; simp; omega⟩
  · intro l _ h h4 hn _; rw [rawB_no h h4 hn]; exact ⟨rfl, Nat.zero_le _⟩
  · intro l h h4 hn ih q
    have hle := nxp_le isc l
    rw [rawB_step h h4 hn] at q ⊢
    cases e : (rawB (l.drop (nxp isc l).2)).1 with
    | true => unfold radd at q; rw [if_pos e] at q; cases q
    | false =>
      have := ih e
      unfold radd
      rw [if_neg (by simp [e])]
      rw [List.length_drop] at this
      exact ⟨rfl, by show _ + _ ≤ _; omega⟩
/-- Where it ends, it is the same alone, and whatever stands behind; it ends by three quotes. -/
theorem rawB_own (l : List Int) : (rawB l).1 = true → 3 ≤ (rawB l).2.2 ∧ (rawB l).2.2 ≤ l.length ∧ (l.take (rawB l).2.2).drop ((rawB l).2.2 - 3) = [34, 34, 34] ∧ ∀ b, rawB (l.take (rawB l).2.2 ++ b) = rawB l := by
  refine raw_ind (P := fun l => (rawB l).1 = true → 3 ≤ (rawB l).2.2 ∧ (rawB l).2.2 ≤ l.length ∧ (l.take (rawB l).2.2).drop ((rawB l).2.2 - 3) = [34, 34, 34] ∧ ∀ b, rawB (l.take (rawB l).2.2 ++ b) = rawB l) ?_ ?_ ?_ ?_ ?_ l.length l (Nat.le_refl _)
  · intro h; rw [rawB_nil] at h; cases h
  · intro l h _
    obtain ⟨m, rfl⟩ := three_iff.1 h
    rw [rawB_end h]
    refine ⟨Nat.le_refl _, by simp, rfl, fun b => ?_⟩
    exact rawB_end (three_iff.2 ⟨b, rfl⟩)
  · intro l h ih q
    obtain ⟨m, rfl⟩ := thre4_iff.1 h
    rw [rawB_esc h] at q ⊢
    have hd : (92 :: 34 :: 34 :: 34 :: m : List Int).drop 4 = m := rfl
    rw [hd] at q ih ⊢
    obtain ⟨q1, q2⟩ := radd_yes q
    obtain ⟨i1, i2, i3, i4⟩ := ih q1
    rw [q2]
    obtain ⟨N, hN⟩ : ∃ N, (rawB m).2.2 = N := ⟨_, rfl⟩
    have et : (92 :: 34 :: 34 :: 34 :: m : List Int).take (4 + N) = 92 :: 34 :: 34 :: 34 :: m.take N := by rw [show 4 + N = N + 1 + 1 + 1 + 1 by omega]; rfl
    rw [hN] at i1 i2 i3 i4
    show 3 ≤ 4 + (rawB m).2.2 ∧ 4 + (rawB m).2.2 ≤ _ ∧ List.drop (4 + (rawB m).2.2 - 3) (List.take (4 + (rawB m).2.2) _) = _ ∧ ∀ b, rawB (List.take (4 + (rawB m).2.2) _ ++ b) = _
    rw [hN, et]
    refine ⟨by omega, by simp; omega, ?_, fun b => ?_⟩
    · rw [show 4 + N - 3 = (N - 3) + 1 + 1 + 1 + 1 by omega]; exact i3
    · show rawB (92 :: 34 :: 34 :: 34 :: (m.take N ++ b)) = _
      rw [rawB_esc (thre4_iff.2 ⟨m.take N ++ b, rfl⟩)]
      show radd 4 _ (rawB (m.take N ++ b)) = _
      rw [i4 b, q2, hN]
  · intro l _ h h4 hn q; rw [rawB_no h h4 hn] at q; cases q
  · intro l h h4 hn ih q
    have hle := nxp_le isc l
    obtain ⟨k1, k2, k3, k4⟩ := nxp_pos hn
    rw [rawB_step h h4 hn] at q ⊢
    obtain ⟨q1, q2⟩ := radd_yes q
    obtain ⟨i1, i2, i3, i4⟩ := ih q1
    rw [q2]
    obtain ⟨r, hr⟩ : ∃ r, (nxp isc l).1 = r := ⟨_, rfl⟩
    obtain ⟨K, hK⟩ : ∃ K, (nxp isc l).2 = K := ⟨_, rfl⟩
    rw [hr] at k1 k2 k3 k4
    rw [hK] at hn hle k2 k3 k4 q2 i1 i2 i3 i4 ⊢
    obtain ⟨m, hm⟩ : ∃ m, l.drop K = m := ⟨_, rfl⟩
    rw [hm] at k3 q2 i1 i2 i3 i4 ⊢
    obtain ⟨N, hN⟩ : ∃ N, (rawB m).2.2 = N := ⟨_, rfl⟩
    rw [hN] at i1 i2 i3 i4
    have hlen : l.length = K + m.length := by rw [k3, List.length_append, ← k2]
    have et : l.take (K + N) = enc r ++ m.take N := by
      rw [k3, List.take_append, ← k2, List.take_of_length_le (by omega), show K + N - K = N by omega]
    show 3 ≤ K + (rawB m).2.2 ∧ K + (rawB m).2.2 ≤ _ ∧ List.drop (K + (rawB m).2.2 - 3) (List.take (K + (rawB m).2.2) _) = _ ∧ ∀ b, rawB (List.take (K + (rawB m).2.2) _ ++ b) = _
    rw [hN, et]
    have hmN : (m.take N).length = N := by rw [List.length_take]; omega
    refine ⟨by omega, by omega, ?_, fun b => ?_⟩
    · rw [List.drop_append, List.drop_eq_nil_iff.2 (by omega), List.nil_append, ← k2, show K + N - 3 - K = N - 3 by omega]; exact i3
    · -- the same head: at least four bytes are the same
      have e4 : ∀ j, j ≤ 4 → (enc r ++ m.take N ++ b).take j = l.take j := by
        intro j hj
        have : l.take j = (l.take (K + N)).take j := by rw [List.take_take, Nat.min_eq_left (by omega)]
        rw [this, et, List.take_append_of_le_length (by rw [List.length_append, hmN, ← k2]; omega)]
      have t3 : three (enc r ++ m.take N ++ b) = false := by unfold three; rw [e4 3 (by omega)]; exact h
      have t4 : thre4 (enc r ++ m.take N ++ b) = false := by unfold thre4; rw [e4 4 (by omega)]; exact h4
      have en : nxp isc (enc r ++ m.take N ++ b) = (r, K) := by
        rw [List.append_assoc, nxp_enc sort_isc k1, ← k2]
      rw [rawB_step t3 t4 (by rw [en]; exact hn), en]
      show radd K (List.take K (enc r ++ m.take N ++ b)) (rawB (List.drop K (enc r ++ m.take N ++ b))) = _
      have e1 : (enc r ++ m.take N ++ b).take K = enc r := by rw [List.append_assoc, k2, List.take_left]
      have e2 : (enc r ++ m.take N ++ b).drop K = m.take N ++ b := by rw [List.append_assoc, k2, List.drop_left]
      rw [e1, e2, i4 b, ← k4, q2, hN]
/-- The block string at a place. -/
def rawAt (s : ByteArray) (i : Int) : Bool × List Int × Int :=
  if i < 0 ∨ three (at_ s i) = false then (false, [], i) else ((rawB (at_ s (i + 3))).1, (rawB (at_ s (i + 3))).2.1, i + 3 + (rawB (at_ s (i + 3))).2.2)
end Go.Proofs.YtjgpmfjkcioinaaDoor.M
