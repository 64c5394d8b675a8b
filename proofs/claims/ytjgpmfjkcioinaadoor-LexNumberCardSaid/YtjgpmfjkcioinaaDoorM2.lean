/-
  Plain mathematics for the numbers: what kind of number stands at the head of a list of bytes, and how long it is.
-/
import Derived.Test.YtjgpmfjkcioinaaDoorM1
namespace Go.Proofs.YtjgpmfjkcioinaaDoor.M
set_option linter.unusedVariables false
set_option linter.unusedSimpArgs false

abbrev LNum := Int × Nat × Bool
def shift (m : Nat) (r : LNum) : LNum := (r.1, m + r.2.1, r.2.2)
/-- What goes on with a number. -/
def goes (c : Int) : Bool := decide (c = 46) || isLet c || isDig c
def hd (p : Int → Bool) : List Int → Bool
  | [] => false
  | c :: _ => p c
def lFin (k : Int) (l : List Int) : LNum := if hd goes l = true then (0, 0, false) else (k, 0, true)
/-- Digits, at least one, and then something. -/
def lDigs (F : List Int → LNum) (l : List Int) : LNum := if 0 < dig l then shift (dig l) (F (l.drop (dig l))) else (0, 0, false)
def lTail : List Int → LNum
  | [] => (0, 0, false)
  | c :: l => if c = 43 ∨ c = 45 then shift 1 (lDigs (lFin 4) l) else lDigs (lFin 4) (c :: l)
def lExp (k : Int) : List Int → LNum
  | [] => (k, 0, true)
  | c :: l => if c = 101 ∨ c = 69 then shift 1 (lTail l) else lFin k (c :: l)
def lDot : List Int → LNum
  | [] => (3, 0, true)
  | c :: l => if c = 46 then shift 1 (lDigs (lExp 4) l) else lExp 3 (c :: l)
def lInt : List Int → LNum
  | [] => (0, 0, false)
  | c :: l => if c = 48 then shift 1 (lDot l) else lDigs lDot (c :: l)
def lNum : List Int → LNum
  | [] => (0, 0, false)
  | c :: l => if c = 45 then shift 1 (lInt l) else lInt (c :: l)

theorem lTail_cons (c : Int) (l : List Int) : lTail (c :: l) = if c = 43 ∨ c = 45 then shift 1 (lDigs (lFin 4) l) else lDigs (lFin 4) (c :: l) := rfl
theorem lExp_cons (k c : Int) (l : List Int) : lExp k (c :: l) = if c = 101 ∨ c = 69 then shift 1 (lTail l) else lFin k (c :: l) := rfl
theorem lDot_cons (c : Int) (l : List Int) : lDot (c :: l) = if c = 46 then shift 1 (lDigs (lExp 4) l) else lExp 3 (c :: l) := rfl
theorem lInt_cons (c : Int) (l : List Int) : lInt (c :: l) = if c = 48 then shift 1 (lDot l) else lDigs lDot (c :: l) := rfl
theorem lNum_cons (c : Int) (l : List Int) : lNum (c :: l) = if c = 45 then shift 1 (lInt l) else lInt (c :: l) := rfl
theorem dig_cons (c : Int) (l : List Int) : dig (c :: l) = if isDig c = true then dig l + 1 else 0 := rfl
theorem dig_le_len (l : List Int) : dig l ≤ l.length := cnt_le _ _

/-- A number is no longer than the text. -/
def Short (F : List Int → LNum) : Prop := ∀ l, (F l).2.1 ≤ l.length
theorem short_fin (k : Int) : Short (lFin k) := fun l => by unfold lFin; split <;> simp
theorem short_digs {F : List Int → LNum} (h : Short F) : Short (lDigs F) := fun l => by
  unfold lDigs
  have := dig_le_len l
  split
  · have h2 := h (l.drop (dig l))
    rw [List.length_drop] at h2
    simp only [shift]; omega
  · simp
theorem short_cons {F : List Int → LNum} (h : Short F) (l : List Int) (c : Int) : (shift 1 (F l)).2.1 ≤ (c :: l).length := by
  have := h l; simp only [shift, List.length_cons]; omega
theorem short_tail : Short lTail := fun l => by
  cases l with
  | nil => simp [lTail]
  | cons c l =>
    rw [lTail_cons]; split
    · exact short_cons (short_digs (short_fin 4)) l c
    · exact short_digs (short_fin 4) _
theorem short_exp (k : Int) : Short (lExp k) := fun l => by
  cases l with
  | nil => simp [lExp]
  | cons c l =>
    rw [lExp_cons]; split
    · exact short_cons short_tail l c
    · exact short_fin k _
theorem short_dot : Short lDot := fun l => by
  cases l with
  | nil => simp [lDot]
  | cons c l =>
    rw [lDot_cons]; split
    · exact short_cons (short_digs (short_exp 4)) l c
    · exact short_exp 3 _
theorem short_int : Short lInt := fun l => by
  cases l with
  | nil => simp [lInt]
  | cons c l =>
    rw [lInt_cons]; split
    · exact short_cons short_dot l c
    · exact short_digs short_dot _
theorem short_num : Short lNum := fun l => by
  cases l with
  | nil => simp [lNum]
  | cons c l =>
    rw [lNum_cons]; split
    · exact short_cons short_int l c
    · exact short_int _

/-- What may stand behind a number; what may not. -/
def okR (r : List Int) : Prop := hd goes r = false
def badR (r : List Int) : Prop := r = [46] ∨ r = [120]
theorem dig_ok {r : List Int} (h : okR r) : dig r = 0 := by
  cases r with
  | nil => rfl
  | cons c l =>
    simp only [okR, hd, goes, Bool.or_eq_false_iff] at h
    rw [dig_cons, h.2]; rfl
theorem dig_bad {r : List Int} (h : badR r) : dig r = 0 := by rcases h with rfl | rfl <;> rfl
/-- A number that ends somewhere is one whatever stands behind, and none in front of what goes on with it. -/
def Ends (F : List Int → LNum) : Prop := ∀ (u v : List Int) (k : Int), F (u ++ v) = (k, u.length, true) → (∀ r, okR r → F (u ++ r) = (k, u.length, true)) ∧ (∀ r, badR r → (F (u ++ r)).2.2 = false)

theorem ends_fin (k : Int) : Ends (lFin k) := by
  intro u v k' h
  have hu : u = [] ∧ k = k' := by
    unfold lFin at h
    split at h
    · simp at h
    · simp only [Prod.mk.injEq] at h
      exact ⟨List.length_eq_zero_iff.1 h.2.1.symm, h.1⟩
  obtain ⟨rfl, rfl⟩ := hu
  constructor
  · intro r hr
    unfold lFin
    rw [List.nil_append, if_neg (by rw [hr]; decide)]; rfl
  · rintro r (rfl | rfl) <;> rfl

theorem ends_digs {F : List Int → LNum} (hF : Ends F) : Ends (lDigs F) := by
  intro u v k h
  unfold lDigs at h
  by_cases hd0 : 0 < dig (u ++ v)
  · rw [if_pos hd0] at h
    obtain ⟨d, hd⟩ : ∃ d, dig (u ++ v) = d := ⟨_, rfl⟩
    rw [hd] at h hd0
    simp only [shift, Prod.mk.injEq] at h
    have hdu : d ≤ u.length := by omega
    obtain ⟨u1, u2, rfl, h1⟩ : ∃ u1 u2, u = u1 ++ u2 ∧ u1.length = d := ⟨u.take d, u.drop d, (List.take_append_drop d u).symm, by rw [List.length_take]; omega⟩
    subst h1
    rw [List.append_assoc] at hd h
    have hall : cnt isDig u1 = u1.length := by
      rcases Nat.lt_or_ge (cnt isDig u1) u1.length with hlt | hge
      · have := cnt_part hlt (u2 ++ v)
        unfold dig at hd; omega
      · have := cnt_le isDig u1; omega
    have hz : dig (u2 ++ v) = 0 := by
      have := cnt_all hall (u2 ++ v)
      unfold dig at hd ⊢; omega
    rw [List.drop_left] at h
    have hFv : F (u2 ++ v) = (k, u2.length, true) := by
      obtain ⟨e1, e2, e3⟩ := h
      rw [List.length_append] at e2
      apply Prod.ext e1
      apply Prod.ext (by simp only; omega) e3
    obtain ⟨g1, g2⟩ := hF u2 v k hFv
    have hdr : ∀ r, dig r = 0 → dig (u1 ++ (u2 ++ r)) = u1.length := by
      intro r hr
      unfold dig
      rw [cnt_all hall]
      cases u2 with
      | nil => rw [List.nil_append]; unfold dig at hr; omega
      | cons c u2 =>
        rw [List.cons_append, dig_cons] at hz
        rw [List.cons_append]
        by_cases hc : isDig c = true
        · rw [if_pos hc] at hz; omega
        · rw [cnt_no _ (by simpa using hc)]; omega
    constructor
    · intro r hr
      unfold lDigs
      rw [List.append_assoc, hdr r (dig_ok hr), if_pos hd0, List.drop_left, g1 r hr, List.length_append]; rfl
    · intro r hr
      unfold lDigs
      rw [List.append_assoc, hdr r (dig_bad hr), if_pos hd0, List.drop_left]
      exact g2 r hr
  · rw [if_neg hd0] at h; simp at h

theorem ends_shift {F : List Int → LNum} (hF : Ends F) {c : Int} {u v : List Int} {k : Int} (h : shift 1 (F (u ++ v)) = (k, (c :: u).length, true)) :
    (∀ r, okR r → shift 1 (F (u ++ r)) = (k, (c :: u).length, true)) ∧ (∀ r, badR r → (shift 1 (F (u ++ r))).2.2 = false) := by
  have hv : F (u ++ v) = (k, u.length, true) := by
    simp only [shift, Prod.mk.injEq, List.length_cons] at h
    apply Prod.ext h.1
    apply Prod.ext (by simp only; omega) h.2.2
  obtain ⟨g1, g2⟩ := hF u v k hv
  constructor
  · intro r hr; rw [g1 r hr]; simp only [shift, List.length_cons, Prod.mk.injEq]; exact ⟨trivial, by omega, trivial⟩
  · intro r hr; exact g2 r hr

theorem ends_tail : Ends lTail := by
  intro u v k h
  cases u with
  | nil =>
    -- a tail is never of no length
    exfalso
    have hz : ∀ l, (lDigs (lFin 4) l).2.2 = true → 0 < (lDigs (lFin 4) l).2.1 := by
      intro l hl
      unfold lDigs at hl ⊢
      split
      · simp only [shift]; omega
      · rename_i hn; rw [if_neg hn] at hl; cases hl
    rw [List.nil_append] at h
    cases v with
    | nil => cases h
    | cons c v =>
      rw [lTail_cons] at h
      split at h
      · simp only [shift, Prod.mk.injEq, List.length_nil] at h; omega
      · have := hz (c :: v) (by rw [h])
        rw [h] at this; simp at this
  | cons c u =>
    rw [List.cons_append] at h
    rw [lTail_cons] at h
    by_cases hc : c = 43 ∨ c = 45
    · rw [if_pos hc] at h
      obtain ⟨g1, g2⟩ := ends_shift (ends_digs (ends_fin 4)) h
      constructor
      · intro r hr; rw [List.cons_append]; rw [lTail_cons]; rw [if_pos hc]; exact g1 r hr
      · intro r hr; rw [List.cons_append]; rw [lTail_cons]; rw [if_pos hc]; exact g2 r hr
    · rw [if_neg hc, ← List.cons_append] at h
      obtain ⟨g1, g2⟩ := ends_digs (ends_fin 4) (c :: u) v k h
      constructor
      · intro r hr; rw [List.cons_append]; rw [lTail_cons]; rw [if_neg hc, ← List.cons_append]; exact g1 r hr
      · intro r hr; rw [List.cons_append]; rw [lTail_cons]; rw [if_neg hc, ← List.cons_append]; exact g2 r hr

theorem exp_ok (k : Int) {r : List Int} (hr : okR r) : lExp k r = (k, 0, true) := by
  cases r with
  | nil => rfl
  | cons c l =>
    have h2 := hr
    simp only [okR, hd, goes, Bool.or_eq_false_iff] at h2
    have hne : ¬ (c = 101 ∨ c = 69) := by
      rintro (rfl | rfl)
      · exact absurd h2.1.2 (by decide)
      · exact absurd h2.1.2 (by decide)
    rw [lExp_cons]
    rw [if_neg hne]
    unfold lFin
    rw [if_neg (by rw [hr]; decide)]
theorem ends_exp (k : Int) : Ends (lExp k) := by
  intro u v k' h
  cases u with
  | nil =>
    have hk : k = k' := by
      rw [List.nil_append] at h
      cases v with
      | nil => simp only [lExp, Prod.mk.injEq] at h; exact h.1
      | cons c v =>
        rw [lExp_cons] at h
        split at h
        · simp only [shift, Prod.mk.injEq, List.length_nil] at h; omega
        · unfold lFin at h
          split at h
          · simp at h
          · simp only [Prod.mk.injEq] at h; exact h.1
    subst hk
    constructor
    · intro r hr; rw [List.nil_append]; exact exp_ok k hr
    · rintro r (rfl | rfl) <;> rfl
  | cons c u =>
    rw [List.cons_append] at h
    rw [lExp_cons] at h
    by_cases hc : c = 101 ∨ c = 69
    · rw [if_pos hc] at h
      obtain ⟨g1, g2⟩ := ends_shift ends_tail h
      constructor
      · intro r hr; rw [List.cons_append]; rw [lExp_cons]; rw [if_pos hc]; exact g1 r hr
      · intro r hr; rw [List.cons_append]; rw [lExp_cons]; rw [if_pos hc]; exact g2 r hr
    · rw [if_neg hc] at h
      unfold lFin at h
      split at h
      · simp at h
      · simp only [Prod.mk.injEq, List.length_cons] at h; omega

theorem ends_dot : Ends lDot := by
  intro u v k h
  cases u with
  | nil =>
    have hk : k = 3 := by
      rw [List.nil_append] at h
      cases v with
      | nil => simp only [lDot, Prod.mk.injEq] at h; exact h.1.symm
      | cons c v =>
        rw [lDot_cons] at h
        split at h
        · simp only [shift, Prod.mk.injEq, List.length_nil] at h; omega
        · have := ends_exp 3 [] (c :: v) k h
          have h2 := this.1 [] rfl
          simp only [List.append_nil, lExp, Prod.mk.injEq] at h2
          exact h2.1.symm
    subst hk
    constructor
    · intro r hr
      rw [List.nil_append]
      cases r with
      | nil => rfl
      | cons c l =>
        have h2 := hr
        simp only [okR, hd, goes, Bool.or_eq_false_iff, decide_eq_false_iff_not] at h2
        rw [lDot_cons]
        rw [if_neg h2.1.1]
        exact exp_ok 3 hr
    · rintro r (rfl | rfl) <;> rfl
  | cons c u =>
    rw [List.cons_append] at h
    rw [lDot_cons] at h
    by_cases hc : c = 46
    · rw [if_pos hc] at h
      obtain ⟨g1, g2⟩ := ends_shift (ends_digs (ends_exp 4)) h
      constructor
      · intro r hr; rw [List.cons_append]; rw [lDot_cons]; rw [if_pos hc]; exact g1 r hr
      · intro r hr; rw [List.cons_append]; rw [lDot_cons]; rw [if_pos hc]; exact g2 r hr
    · rw [if_neg hc, ← List.cons_append] at h
      obtain ⟨g1, g2⟩ := ends_exp 3 (c :: u) v k h
      constructor
      · intro r hr; rw [List.cons_append]; rw [lDot_cons]; rw [if_neg hc, ← List.cons_append]; exact g1 r hr
      · intro r hr; rw [List.cons_append]; rw [lDot_cons]; rw [if_neg hc, ← List.cons_append]; exact g2 r hr

theorem digs_pos {F : List Int → LNum} {l : List Int} {k : Int} {n : Nat} (h : lDigs F l = (k, n, true)) : 0 < n := by
  unfold lDigs at h
  split at h
  · simp only [shift, Prod.mk.injEq] at h; omega
  · simp at h
theorem ends_int : Ends lInt := by
  intro u v k h
  cases u with
  | nil =>
    exfalso
    rw [List.nil_append] at h
    cases v with
    | nil => cases h
    | cons c v =>
      rw [lInt_cons] at h
      split at h
      · simp only [shift, Prod.mk.injEq, List.length_nil] at h; omega
      · have := digs_pos h; simp at this
  | cons c u =>
    rw [List.cons_append] at h
    rw [lInt_cons] at h
    by_cases hc : c = 48
    · rw [if_pos hc] at h
      obtain ⟨g1, g2⟩ := ends_shift ends_dot h
      constructor
      · intro r hr; rw [List.cons_append]; rw [lInt_cons]; rw [if_pos hc]; exact g1 r hr
      · intro r hr; rw [List.cons_append]; rw [lInt_cons]; rw [if_pos hc]; exact g2 r hr
    · rw [if_neg hc, ← List.cons_append] at h
      obtain ⟨g1, g2⟩ := ends_digs ends_dot (c :: u) v k h
      constructor
      · intro r hr; rw [List.cons_append]; rw [lInt_cons]; rw [if_neg hc, ← List.cons_append]; exact g1 r hr
      · intro r hr; rw [List.cons_append]; rw [lInt_cons]; rw [if_neg hc, ← List.cons_append]; exact g2 r hr
theorem ends_num : Ends lNum := by
  intro u v k h
  cases u with
  | nil =>
    exfalso
    rw [List.nil_append] at h
    cases v with
    | nil => cases h
    | cons c v =>
      rw [lNum_cons] at h
      split at h
      · simp only [shift, Prod.mk.injEq, List.length_nil] at h; omega
      · have h2 := (ends_int [] (c :: v) k h).1 [] rfl
        cases h2
  | cons c u =>
    rw [List.cons_append] at h
    rw [lNum_cons] at h
    by_cases hc : c = 45
    · rw [if_pos hc] at h
      obtain ⟨g1, g2⟩ := ends_shift ends_int h
      constructor
      · intro r hr; rw [List.cons_append]; rw [lNum_cons]; rw [if_pos hc]; exact g1 r hr
      · intro r hr; rw [List.cons_append]; rw [lNum_cons]; rw [if_pos hc]; exact g2 r hr
    · rw [if_neg hc, ← List.cons_append] at h
      obtain ⟨g1, g2⟩ := ends_int (c :: u) v k h
      constructor
      · intro r hr; rw [List.cons_append]; rw [lNum_cons]; rw [if_neg hc, ← List.cons_append]; exact g1 r hr
      · intro r hr; rw [List.cons_append]; rw [lNum_cons]; rw [if_neg hc, ← List.cons_append]; exact g2 r hr

/-- The kinds; what is none is of kind 0. -/
def Kinds (F : List Int → LNum) : Prop := ∀ l, (F l).2.2 = false ∧ (F l).1 = 0 ∨ (F l).2.2 = true ∧ ((F l).1 = 3 ∨ (F l).1 = 4)
theorem kinds_fin (k : Int) (hk : k = 3 ∨ k = 4) : Kinds (lFin k) := fun l => by
  unfold lFin; split
  · exact .inl ⟨rfl, rfl⟩
  · exact .inr ⟨rfl, hk⟩
theorem kinds_digs {F : List Int → LNum} (h : Kinds F) : Kinds (lDigs F) := fun l => by
  unfold lDigs; split
  · exact h _
  · exact .inl ⟨rfl, rfl⟩
theorem kinds_tail : Kinds lTail := fun l => by
  cases l with
  | nil => exact .inl ⟨rfl, rfl⟩
  | cons c l =>
    rw [lTail_cons]; split
    · exact kinds_digs (kinds_fin 4 (.inr rfl)) l
    · exact kinds_digs (kinds_fin 4 (.inr rfl)) _
theorem kinds_exp (k : Int) (hk : k = 3 ∨ k = 4) : Kinds (lExp k) := fun l => by
  cases l with
  | nil => exact .inr ⟨rfl, hk⟩
  | cons c l =>
    rw [lExp_cons]; split
    · exact kinds_tail l
    · exact kinds_fin k hk _
theorem kinds_dot : Kinds lDot := fun l => by
  cases l with
  | nil => exact .inr ⟨rfl, .inl rfl⟩
  | cons c l =>
    rw [lDot_cons]; split
    · exact kinds_digs (kinds_exp 4 (.inr rfl)) l
    · exact kinds_exp 3 (.inl rfl) _
theorem kinds_int : Kinds lInt := fun l => by
  cases l with
  | nil => exact .inl ⟨rfl, rfl⟩
  | cons c l =>
    rw [lInt_cons]; split
    · exact kinds_dot l
    · exact kinds_digs kinds_dot _
theorem kinds_num : Kinds lNum := fun l => by
  cases l with
  | nil => exact .inl ⟨rfl, rfl⟩
  | cons c l =>
    rw [lNum_cons]; split
    · exact kinds_int l
    · exact kinds_int _
end Go.Proofs.YtjgpmfjkcioinaaDoor.M
