/-
  The document's numbers (layer 5), as printed: they answer as the plain words say, with rounds enough.
-/
import Derived.Test.YtdhncfkbblfokaaQ5
import Derived.Test.YtdhncfkbblfokaaG7
import Derived.Test.YtdhncfkbblfokaaR4
namespace Go.Proofs.Ytdhncfkbblfokaa.R
open Go.RowKit Go.Proofs.YtdhncfkbblfokaaW.PrintWords Go.Proofs.YtdhncfkbblfokaaW.PrintLast Go.Proofs.Ytdhncfkbblfokaa.M Go.Proofs.Ytdhncfkbblfokaa.G Go.Proofs.Ytdhncfkbblfokaa.Q
set_option linter.unusedVariables false
set_option linter.unusedSimpArgs false

theorem at_loop (s C : ByteArray) (i : Int) (h0 : 0 ≤ i) (hC : C.size ≤ 100) (d : Nat) : ∀ (k : Nat) (x : Int), 0 ≤ x → x + d = C.size → 2 * d + 1 < k →
    copperplateref05_at.l0 k s i C x = some (decide (i < s.size) && (at_ C x).any fun c => bt s i == c) := by
  induction d with
  | zero =>
    intro k x hx hd hk
    obtain ⟨k, rfl⟩ : ∃ m, k = m + 2 := ⟨k - 2, by omega⟩
    simp only [copperplateref05_at.l0, copperplateref05_at.j1]
    rw [if_neg (by omega), if_neg (by decide), at_nil C x (by omega)]
    simp
  | succ d ih =>
    intro k x hx hd hk
    obtain ⟨k, rfl⟩ : ∃ m, k = m + 2 := ⟨k - 2, by omega⟩
    simp only [copperplateref05_at.l0, copperplateref05_at.j1]
    rw [if_pos (by omega), at_cons C x hx (by omega)]
    by_cases hi : i < s.size
    · rw [if_pos (by simp [hi]), if_pos h0, if_pos hi, if_pos hx, if_pos (by omega), decide_eq_true hi]
      by_cases he : bt s i = bt C x
      · rw [if_pos he, List.any_cons, show (bt s i == bt C x) = true by rw [he]; exact beq_self_eq_true _]; rfl
      · rw [if_neg he, wrap_id (by omega) (by omega), ih k (x + 1) (by omega) (by omega) (by omega), List.any_cons, show (bt s i == bt C x) = false from beq_eq_false_iff_ne.2 he, decide_eq_true hi]; rfl
    · rw [if_neg (by simp [hi]), decide_eq_false hi]; rfl
theorem at_ref (s C : ByteArray) (i : Int) (h0 : 0 ≤ i) (hC : C.size ≤ 100) (k : Nat) (hk : 2 * C.size + 1 < k) : copperplateref05_at.f k s i C = some (isAt s i (by_ C)) := by
  unfold copperplateref05_at.f
  rw [at_loop s C i h0 hC C.size k 0 (by omega) (by omega) hk, at_zero]; rfl

theorem upto_dig (s : ByteArray) (p : Int) (h0 : 0 ≤ p) (h1 : p ≤ s.size) : G.upto isDig s p = p + dig (at_ s p) := by unfold G.upto; rw [if_pos ⟨h0, h1⟩]; rfl

theorem fin_ref (s : ByteArray) (hs : s.size ≤ 1000000) (p kk : Int) (h0 : 0 ≤ p) (h1 : p ≤ s.size) (k : Nat) (hk : 200 < k) : copperplateref05_Number.j3 (k + 1) s p kk = some (numFin s kk p) := by
  simp only [copperplateref05_Number.j3]
  rw [at_ref s _ p h0 (by decide) k (by have : (⟨#[48, 49, 50, 51, 52, 53, 54, 55, 56, 57, 46]⟩ : ByteArray).size = 11 := rfl; omega)]
  simp only [Option.bind_some]
  unfold numFin
  have hb : isAt s p (by_ ⟨#[48, 49, 50, 51, 52, 53, 54, 55, 56, 57, 46]⟩) = decide (p < s.size ∧ (bt s p = 46 ∨ isDig (bt s p) = true)) := by
    have e : by_ ⟨#[48, 49, 50, 51, 52, 53, 54, 55, 56, 57, 46]⟩ = [48, 49, 50, 51, 52, 53, 54, 55, 56, 57, 46] := rfl
    rw [e, Bool.eq_iff_iff, decide_eq_true_iff]
    unfold isAt isDig
    simp only [Bool.and_eq_true, decide_eq_true_eq, List.any_cons, List.any_nil, Bool.or_eq_true, beq_iff_eq, Bool.or_false]
    omega
  rw [hb]
  by_cases hp : p < s.size
  · by_cases h2 : bt s p = 46 ∨ isDig (bt s p) = true
    · rw [if_pos (decide_eq_true ⟨hp, h2⟩), if_pos ⟨hp, by rcases h2 with h | h <;> simp [h]⟩]
    · rw [if_neg (by simp only [decide_eq_true_eq]; exact fun x => h2 x.2), if_pos hp, if_pos h0, begins_ref]
      simp only [Option.bind_some]
      by_cases hl : isLet (bt s p) = true
      · rw [if_pos hl, if_pos ⟨hp, .inr (.inl hl)⟩]
      · rw [if_neg hl, if_neg (by rintro ⟨_, h | h | h⟩; exact h2 (.inl h); exact hl h; exact h2 (.inr h))]
  · rw [if_neg (by simp only [decide_eq_true_eq]; exact fun x => hp x.1), if_neg hp, if_neg (fun x => hp x.1)]

theorem exp_ref (s : ByteArray) (hs : s.size ≤ 1000000) (p kk : Int) (h0 : 0 ≤ p) (h1 : p ≤ s.size) (k : Nat) (hk : s.size + 300 < k) : copperplateref05_Number.j2 (k + 1) s p kk = some (numExp s kk p) := by
  obtain ⟨k, rfl⟩ : ∃ m, k = m + 1 := ⟨k - 1, by omega⟩
  simp only [copperplateref05_Number.j2]
  rw [at_ref s _ p h0 (by decide) (k + 1) (by have : (⟨#[101, 69]⟩ : ByteArray).size = 2 := rfl; omega), show by_ ⟨#[101, 69]⟩ = [101, 69] from rfl]
  simp only [Option.bind_some]
  unfold numExp
  by_cases he : isAt s p [101, 69] = true
  · have hlt := isAt_lt he
    rw [if_pos he, if_pos he, wrap_id (x := p + 1) (by omega) (by omega), at_ref s _ (p + 1) (by omega) (by decide) (k + 1) (by have : (⟨#[43, 45]⟩ : ByteArray).size = 2 := rfl; omega), show by_ ⟨#[43, 45]⟩ = [43, 45] from rfl]
    simp only [Option.bind_some]
    by_cases hg : isAt s (p + 1) [43, 45] = true
    · have hlt2 := isAt_lt hg
      have hdl := dig_le s (p + 1 + 1) (by omega) (by omega)
      rw [if_pos hg, wrap_id (x := p + 1 + 1) (by omega) (by omega), digits_ref s (by omega) _ _ (by omega), upto_dig s _ (by omega) (by omega), hg, show mv (p + 1) true = p + 1 + 1 from rfl]
      simp only [Option.bind_some]
      by_cases hd0 : 0 < dig (at_ s (p + 1 + 1))
      · rw [if_neg (by omega), if_pos hd0, fin_ref s hs _ 4 (by omega) (by omega) k (by omega)]
      · rw [if_pos (by omega), if_neg hd0]
    · have hdl := dig_le s (p + 1) (by omega) (by omega)
      rw [if_neg hg, digits_ref s (by omega) _ _ (by omega), upto_dig s _ (by omega) (by omega)]
      rw [Bool.not_eq_true] at hg
      rw [hg, show mv (p + 1) false = p + 1 from rfl]
      simp only [Option.bind_some]
      by_cases hd0 : 0 < dig (at_ s (p + 1))
      · rw [if_neg (by omega), if_pos hd0, fin_ref s hs _ 4 (by omega) (by omega) k (by omega)]
      · rw [if_pos (by omega), if_neg hd0]
  · rw [if_neg he, if_neg he, fin_ref s hs p kk h0 h1 k (by omega)]

theorem int_ref (s : ByteArray) (hs : s.size ≤ 1000000) (p : Int) (h0 : 0 ≤ p) (h1 : p ≤ s.size) (k : Nat) (hk : s.size + 300 < k) : copperplateref05_Number.j1 (k + 1 + 1) s p 3 = some (numInt s p) := by
  simp only [copperplateref05_Number.j1, copperplateref05_whole.f]
  rw [at_ref s _ p h0 (by decide) _ (by have : (⟨#[48]⟩ : ByteArray).size = 1 := rfl; omega), show by_ ⟨#[48]⟩ = [48] from rfl]
  simp only [Option.bind_some]
  have dot : ∀ q : Int, p < q → q ≤ s.size → ((copperplateref05_at.f (k + 1) s q (⟨#[46]⟩ : ByteArray)).bind fun t157 => (if t157 = true then ((copperplateref04_Digits.f (k + 1) s (wrap64 (q + 1))).bind fun t158 => (if t158 = (wrap64 (q + 1)) then (some (0, t158, false)) else (copperplateref05_Number.j2 (k + 1) s t158 4))) else (copperplateref05_Number.j2 (k + 1) s q 3))) = some (numDot s q) := by
    intro q hq hq2
    rw [at_ref s _ q (by omega) (by decide) _ (by have : (⟨#[46]⟩ : ByteArray).size = 1 := rfl; omega), show by_ ⟨#[46]⟩ = [46] from rfl]
    simp only [Option.bind_some]
    unfold numDot
    by_cases hd : isAt s q [46] = true
    · have hlt := isAt_lt hd
      have hdl := dig_le s (q + 1) (by omega) (by omega)
      rw [if_pos hd, if_pos hd, wrap_id (by omega) (by omega), digits_ref s (by omega) _ _ (by omega), upto_dig s _ (by omega) (by omega)]
      simp only [Option.bind_some]
      by_cases hd0 : 0 < dig (at_ s (q + 1))
      · rw [if_neg (by omega), if_pos hd0, exp_ref s hs _ 4 (by omega) (by omega) k (by omega)]
      · rw [if_pos (by omega), if_neg hd0, show dig (at_ s (q + 1)) = 0 by omega]; simp
    · rw [if_neg hd, if_neg hd, exp_ref s hs q 3 (by omega) hq2 k (by omega)]
  unfold numInt
  by_cases hz : isAt s p [48] = true
  · have hlt := isAt_lt hz
    rw [if_pos hz, if_pos hz, wrap_id (by omega) (by omega)]
    simp only [Option.bind_some]
    rw [if_neg (by omega)]
    exact dot (p + 1) (by omega) (by omega)
  · have hdl := dig_le s p h0 h1
    rw [if_neg hz, if_neg hz, digits_ref s (by omega) _ _ (by omega), upto_dig s p h0 h1]
    simp only [Option.bind_some]
    by_cases hd0 : 0 < dig (at_ s p)
    · rw [if_neg (by omega), if_pos hd0]
      exact dot _ (by omega) (by omega)
    · rw [if_pos (by omega), if_neg hd0]

theorem number_ref (s : ByteArray) (hs : s.size ≤ 1000000) (i : Int) (k : Nat) (hk : s.size + 310 < k) : copperplateref05_Number.f k s i = some (number s i) := by
  obtain ⟨k, rfl⟩ : ∃ m, k = m + 3 := ⟨k - 3, by omega⟩
  unfold copperplateref05_Number.f number
  by_cases h : i < 0
  · rw [if_pos h, if_neg (by omega)]; simp only [copperplateref05_Number.j0, if_true]
  · rw [if_neg h]
    simp only [copperplateref05_Number.j0]
    by_cases h1 : i ≥ s.size
    · rw [if_pos (decide_eq_true h1), if_neg (by omega)]
    · have hm := mv_le (s := s) (p := i) [45] (by omega)
      rw [if_neg (by simp; omega), if_pos ⟨by omega, by omega⟩, at_ref s _ i (by omega) (by decide) _ (by have : (⟨#[45]⟩ : ByteArray).size = 1 := rfl; omega), show by_ ⟨#[45]⟩ = [45] from rfl]
      simp only [Option.bind_some]
      by_cases hmi : isAt s i [45] = true
      · have hlt := isAt_lt hmi
        rw [if_pos hmi, wrap_id (by omega) (by omega), hmi, show mv i true = i + 1 from rfl]
        exact int_ref s hs (i + 1) (by omega) (by omega) k (by omega)
      · rw [if_neg hmi]
        rw [Bool.not_eq_true] at hmi
        rw [hmi, show mv i false = i from rfl]
        exact int_ref s hs i (by omega) (by omega) k (by omega)

theorem whole_ref (s : ByteArray) (hs : s.size ≤ 1000000) (k : Nat) (hk : s.size + 310 < k) : copperplateref05_Whole.f k s = num_Whole.f s := by
  unfold copperplateref05_Whole.f num_Whole.f num_Number.f
  rw [number_ref s hs 0 k hk, if_pos hs]
end Go.Proofs.Ytdhncfkbblfokaa.R
