/-
  A number at a place, told by the bytes from there on alone.
-/
import Derived.Test.YtjgpmfjkcioinaaDoorPTG8
import Derived.Test.YtjgpmfjkcioinaaDoorPTZ2
namespace Go.Proofs.YtjgpmfjkcioinaaDoor.G
open Go.RowKit Go.Proofs.YtjgpmfjkcioinaaDoorW.PrintWords Go.Proofs.YtjgpmfjkcioinaaDoor.M
set_option linter.unusedVariables false
set_option linter.unusedSimpArgs false
def ab (p : Int) (r : LNum) : Num := (r.1, p + r.2.1, r.2.2)
theorem ab_shift (p : Int) (m : Nat) (r : LNum) : ab p (shift m r) = ab (p + m) r := by
  unfold ab shift; simp only [Prod.mk.injEq, true_and, and_true]; omega
theorem isAt_cons (s : ByteArray) (p : Int) (cs : List Int) (h0 : 0 ≤ p) (h : p < s.size) : isAt s p cs = cs.any fun c => bt s p == c := by
  unfold isAt; rw [decide_eq_true h, Bool.true_and]
theorem isAt_end (s : ByteArray) (p : Int) (cs : List Int) (h : ¬ p < s.size) : isAt s p cs = false := by
  unfold isAt; rw [decide_eq_false h, Bool.false_and]
theorem fin_list (s : ByteArray) (k p : Int) (h0 : 0 ≤ p) (h1 : p ≤ s.size) : numFin s k p = ab p (lFin k (at_ s p)) := by
  unfold numFin lFin
  by_cases h : p < s.size
  · rw [at_cons s p h0 h, show hd goes (bt s p :: at_ s (p + 1)) = goes (bt s p) from rfl]
    by_cases hg : goes (bt s p) = true
    · have hg2 : bt s p = 46 ∨ isLet (bt s p) = true ∨ isDig (bt s p) = true := by
        simp only [goes, Bool.or_eq_true, decide_eq_true_eq] at hg
        rcases hg with (h | h) | h
        · exact .inl h
        · exact .inr (.inl h)
        · exact .inr (.inr h)
      rw [if_pos ⟨h, hg2⟩, if_pos hg]; simp [ab]
    · have hg2 : ¬ (bt s p = 46 ∨ isLet (bt s p) = true ∨ isDig (bt s p) = true) := by
        intro x; apply hg
        simp only [goes, Bool.or_eq_true, decide_eq_true_eq]
        rcases x with h | h | h
        · exact .inl (.inl h)
        · exact .inl (.inr h)
        · exact .inr h
      rw [if_neg (fun x => hg2 x.2), if_neg hg]; simp [ab]
  · rw [at_nil s p (by omega), if_neg (fun x => h x.1), if_neg (by simp [hd])]; simp [ab]
theorem digs_list (s : ByteArray) (G : Int → Num) (F : List Int → LNum) (hG : ∀ q : Int, 0 ≤ q → q ≤ s.size → G q = ab q (F (at_ s q))) (p : Int) (h0 : 0 ≤ p) (h1 : p ≤ s.size) :
    (if 0 < dig (at_ s p) then G (p + dig (at_ s p)) else (0, p, false)) = ab p (lDigs F (at_ s p)) := by
  have hdl := dig_le s p h0 h1
  unfold lDigs
  by_cases hd0 : 0 < dig (at_ s p)
  · rw [if_pos hd0, if_pos hd0, ab_shift, hG _ (by omega) hdl, at_add s p _ h0]
  · rw [if_neg hd0, if_neg hd0]; simp [ab]
theorem tail_list (s : ByteArray) (p : Int) (h0 : 0 ≤ p) (h1 : p ≤ s.size) :
    (if 0 < dig (at_ s (mv p (isAt s p [43, 45]))) then numFin s 4 (mv p (isAt s p [43, 45]) + dig (at_ s (mv p (isAt s p [43, 45])))) else (0, mv p (isAt s p [43, 45]), false)) = ab p (lTail (at_ s p)) := by
  have hD := fun (q : Int) (a : 0 ≤ q) (b : q ≤ s.size) => digs_list s (numFin s 4) (lFin 4) (fun q a b => fin_list s 4 q a b) q a b
  by_cases h : p < s.size
  · rw [isAt_cons s p _ h0 h]
    rw [at_cons s p h0 h]
    rw [lTail_cons]
    by_cases hc : bt s p = 43 ∨ bt s p = 45
    · have e : ([43, 45] : List Int).any (fun c => bt s p == c) = true := by rcases hc with h | h <;> rw [h] <;> rfl
      rw [e, if_pos hc, show mv p true = p + 1 from rfl, hD (p + 1) (by omega) (by omega), ab_shift]; rfl
    · have e : ([43, 45] : List Int).any (fun c => bt s p == c) = false := by
        simp only [List.any_cons, List.any_nil, Bool.or_false, Bool.or_eq_false_iff, beq_eq_false_iff_ne]
        exact ⟨fun h => hc (.inl h), fun h => hc (.inr h)⟩
      rw [e, if_neg hc, show mv p false = p from rfl, hD p h0 h1, at_cons s p h0 h]
  · rw [isAt_end s p _ h, show mv p false = p from rfl, hD p h0 h1, at_nil s p (by omega)]; rfl
theorem exp_list (s : ByteArray) (k p : Int) (h0 : 0 ≤ p) (h1 : p ≤ s.size) : numExp s k p = ab p (lExp k (at_ s p)) := by
  unfold numExp
  by_cases h : p < s.size
  · rw [isAt_cons s p _ h0 h]
    rw [at_cons s p h0 h]
    rw [lExp_cons]
    by_cases hc : bt s p = 101 ∨ bt s p = 69
    · have e : ([101, 69] : List Int).any (fun c => bt s p == c) = true := by rcases hc with h | h <;> rw [h] <;> rfl
      rw [e, if_pos rfl, if_pos hc, tail_list s (p + 1) (by omega) (by omega), ab_shift]; rfl
    · have e : ([101, 69] : List Int).any (fun c => bt s p == c) = false := by
        simp only [List.any_cons, List.any_nil, Bool.or_false, Bool.or_eq_false_iff, beq_eq_false_iff_ne]
        exact ⟨fun h => hc (.inl h), fun h => hc (.inr h)⟩
      rw [e, if_neg (by decide), if_neg hc, fin_list s k p h0 h1, at_cons s p h0 h]
  · rw [isAt_end s p _ h, if_neg (by decide), fin_list s k p h0 h1, at_nil s p (by omega)]; rfl
theorem dot_list (s : ByteArray) (p : Int) (h0 : 0 ≤ p) (h1 : p ≤ s.size) : numDot s p = ab p (lDot (at_ s p)) := by
  unfold numDot
  by_cases h : p < s.size
  · rw [isAt_cons s p _ h0 h]
    rw [at_cons s p h0 h]
    rw [lDot_cons]
    by_cases hc : bt s p = 46
    · have e : ([46] : List Int).any (fun c => bt s p == c) = true := by rw [hc]; rfl
      rw [e, if_pos rfl, if_pos hc, digs_list s (numExp s 4) (lExp 4) (fun q a b => exp_list s 4 q a b) (p + 1) (by omega) (by omega), ab_shift]; rfl
    · have e : ([46] : List Int).any (fun c => bt s p == c) = false := by
        simp only [List.any_cons, List.any_nil, Bool.or_false, beq_eq_false_iff_ne]; exact hc
      rw [e, if_neg (by decide), if_neg hc, exp_list s 3 p h0 h1, at_cons s p h0 h]
  · rw [isAt_end s p _ h, if_neg (by decide), exp_list s 3 p h0 h1, at_nil s p (by omega)]; rfl
theorem int_list (s : ByteArray) (p : Int) (h0 : 0 ≤ p) (h1 : p ≤ s.size) : numInt s p = ab p (lInt (at_ s p)) := by
  unfold numInt
  by_cases h : p < s.size
  · rw [isAt_cons s p _ h0 h]
    by_cases hc : bt s p = 48
    · have e : ([48] : List Int).any (fun c => bt s p == c) = true := by rw [hc]; rfl
      rw [e, if_pos rfl, at_cons s p h0 h]
      rw [lInt_cons]
      rw [if_pos hc, dot_list s (p + 1) (by omega) (by omega), ab_shift]; rfl
    · have e : ([48] : List Int).any (fun c => bt s p == c) = false := by
        simp only [List.any_cons, List.any_nil, Bool.or_false, beq_eq_false_iff_ne]; exact hc
      rw [e, if_neg (by decide), digs_list s (numDot s) lDot (fun q a b => dot_list s q a b) p h0 h1, at_cons s p h0 h]
      rw [lInt_cons]
      rw [if_neg hc]
  · rw [isAt_end s p _ h, if_neg (by decide), at_nil s p (by omega), if_neg (by decide)]; simp [ab, lInt]
theorem number_list (s : ByteArray) (p : Int) (h0 : 0 ≤ p) (h1 : p ≤ s.size) : number s p = ab p (lNum (at_ s p)) := by
  unfold number
  by_cases h : p < s.size
  · rw [if_pos ⟨h0, h⟩, isAt_cons s p _ h0 h]
    by_cases hc : bt s p = 45
    · have e : ([45] : List Int).any (fun c => bt s p == c) = true := by rw [hc]; rfl
      rw [e, show mv p true = p + 1 from rfl, int_list s (p + 1) (by omega) (by omega), at_cons s p h0 h]
      rw [lNum_cons]
      rw [if_pos hc, ab_shift]; rfl
    · have e : ([45] : List Int).any (fun c => bt s p == c) = false := by
        simp only [List.any_cons, List.any_nil, Bool.or_false, beq_eq_false_iff_ne]; exact hc
      rw [e, show mv p false = p from rfl, int_list s p h0 h1, at_cons s p h0 h]
      rw [lNum_cons]
      rw [if_neg hc]
  · rw [if_neg (fun x => h x.2), at_nil s p (by omega)]; simp [ab, lNum]
end Go.Proofs.YtjgpmfjkcioinaaDoor.G
