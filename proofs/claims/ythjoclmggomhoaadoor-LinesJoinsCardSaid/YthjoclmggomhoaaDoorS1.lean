/-
  Plain mathematics for lines: where a text is cut, how wide a line is, how far in, and whether it is clean. No program in sight.
-/
import Derived.Test.YthjoclmggomhoaaDoorU1
namespace Go.Proofs.YthjoclmggomhoaaDoor.M
open Go.Proofs.YthjoclmggomhoaaDoorW.PrintWords
set_option linter.unusedVariables false
set_option linter.unusedSimpArgs false

/-- A text's lines: cut at each byte 10. -/
def spl : List Int → List (List Int)
  | [] => [[]]
  | c :: l => if c = 10 then [] :: spl l else (c :: (spl l).headD []) :: (spl l).tail
theorem spl_nil : spl [] = [[]] := rfl
theorem spl_ten (l : List Int) : spl (10 :: l) = [] :: spl l := by rw [spl, if_pos rfl]
theorem spl_other {c : Int} (h : c ≠ 10) (l : List Int) : spl (c :: l) = (c :: (spl l).headD []) :: (spl l).tail := by rw [spl, if_neg h]
theorem spl_ne (l : List Int) : spl l ≠ [] := by
  cases l with
  | nil => rw [spl_nil]; simp
  | cons c l => rw [spl]; split <;> simp
theorem spl_head (l : List Int) : spl l = (spl l).headD [] :: (spl l).tail := by
  cases h : spl l with
  | nil => exact absurd h (spl_ne l)
  | cons x r => rfl
theorem spl_length (l : List Int) : (spl l).length ≤ l.length + 1 := by
  induction l with
  | nil => simp [spl]
  | cons c l ih =>
    by_cases h : c = 10
    · subst h; rw [spl_ten, List.length_cons, List.length_cons]; omega
    · rw [spl_other h, List.length_cons, List.length_cons, List.length_tail]; omega
theorem spl_pos (l : List Int) : 1 ≤ (spl l).length := List.length_pos_iff.2 (spl_ne l)
/-- The lines, where the first one has begun by what stands before. -/
def spw (a l : List Int) : List (List Int) := (a ++ (spl l).headD []) :: (spl l).tail
theorem spw_nil (a : List Int) : spw a [] = [a] := by unfold spw; rw [spl_nil]; simp
theorem spw_ten (a l : List Int) : spw a (10 :: l) = a :: spl l := by unfold spw; rw [spl_ten]; simp
theorem spw_other {c : Int} (h : c ≠ 10) (a l : List Int) : spw a (c :: l) = spw (a ++ [c]) l := by unfold spw; rw [spl_other h]; simp
theorem spw_empty (l : List Int) : spw [] l = spl l := by unfold spw; rw [List.nil_append]; exact (spl_head l).symm
theorem spl_join : ∀ (a b : List Int), spl (a ++ 10 :: b) = spl a ++ spl b
  | [], b => by rw [List.nil_append, spl_ten]; rfl
  | c :: a, b => by
    by_cases h : c = 10
    · subst h; rw [List.cons_append, spl_ten, spl_ten, spl_join a b]; rfl
    · rw [List.cons_append, spl_other h, spl_other h, spl_join a b, spl_head a]; rfl
theorem spl_plain {a : List Int} (h : ∀ c ∈ a, c ≠ 10) : spl a = [a] := by
  induction a with
  | nil => rfl
  | cons c a ih =>
    rw [spl_other (h c (by simp)), ih (fun x hx => h x (by simp [hx]))]; rfl
theorem spl_mem : ∀ (l x : List Int), x ∈ spl l → ∀ c ∈ x, c ≠ 10 ∧ c ∈ l
  | [], x, hx, c, hc => by
    rw [spl_nil, List.mem_singleton] at hx; subst hx; cases hc
  | d :: l, x, hx, c, hc => by
    by_cases h : d = 10
    · subst h
      rw [spl_ten] at hx
      rcases List.mem_cons.1 hx with rfl | hx
      · cases hc
      · have := spl_mem l x hx c hc; exact ⟨this.1, List.mem_cons_of_mem _ this.2⟩
    · rw [spl_other h] at hx
      rcases List.mem_cons.1 hx with rfl | hx
      · rcases List.mem_cons.1 hc with rfl | hc
        · exact ⟨h, by simp⟩
        · have := spl_mem l ((spl l).headD []) (by rw [spl_head l]; simp) c hc; exact ⟨this.1, List.mem_cons_of_mem _ this.2⟩
      · have := spl_mem l x (List.mem_of_mem_tail hx) c hc; exact ⟨this.1, List.mem_cons_of_mem _ this.2⟩
/-- Lines, one behind the other, with bytes 10 between. -/
def jn : List (List Int) → List Int
  | [] => []
  | x :: r => x ++ r.flatMap (fun y => 10 :: y)
theorem jn_spl (l : List Int) : jn (spl l) = l := by
  induction l with
  | nil => rfl
  | cons c l ih =>
    rw [spl_head l] at ih
    by_cases h : c = 10
    · subst h
      rw [spl_ten, spl_head l]
      show [] ++ (List.flatMap (fun y => 10 :: y) ((spl l).headD [] :: (spl l).tail)) = _
      rw [List.nil_append, List.flatMap_cons]
      show 10 :: ((spl l).headD [] ++ List.flatMap (fun y => 10 :: y) (spl l).tail) = _
      exact congrArg (10 :: ·) ih
    · rw [spl_other h]
      show c :: ((spl l).headD [] ++ List.flatMap (fun y => 10 :: y) (spl l).tail) = _
      exact congrArg (c :: ·) ih

/-- How many characters, or other bytes, a text has. -/
def cols (l : List Int) : Nat := if hl : l = [] then 0 else cols (l.drop (max 1 (nxp isc l).2)) + 1
termination_by l.length
decreasing_by
  have := List.length_pos_iff.2 hl
  rw [List.length_drop]; omega
theorem cols_nil : cols [] = 0 := by rw [cols]; rfl
theorem cols_step {l : List Int} (h : l ≠ []) : cols l = cols (l.drop (max 1 (nxp isc l).2)) + 1 := by conv => lhs; rw [cols, dif_neg h]
theorem cols_low {c : Int} (h : c < 128) (l : List Int) : cols (c :: l) = cols l + 1 := by
  rw [cols_step (by simp), nxp_low h]
  split <;> simp
theorem cols_le : ∀ (n : Nat) (l : List Int), l.length ≤ n → cols l ≤ l.length
  | n, [], _ => by rw [cols_nil]; simp
  | 0, c :: l, h => by simp at h
  | n + 1, c :: l, h => by
    rw [cols_step (by simp)]
    have := cols_le n ((c :: l).drop (max 1 (nxp isc (c :: l)).2)) (by rw [List.length_drop]; simp at h ⊢; omega)
    rw [List.length_drop] at this
    simp at this ⊢
    omega
/-- The greatest one of widths. -/
def most : List Nat → Nat
  | [] => 0
  | n :: r => max n (most r)
theorem most_append (a b : List Nat) : most (a ++ b) = max (most a) (most b) := by
  induction a with
  | nil => simp [most]
  | cons n a ih => rw [List.cons_append, most, ih, most]; omega
theorem most_mem {l : List Nat} {n : Nat} (h : n ∈ l) : n ≤ most l := by
  induction l with
  | nil => cases h
  | cons m l ih =>
    rw [most]
    rcases List.mem_cons.1 h with rfl | h
    · omega
    · have := ih h; omega
theorem most_le {l : List Nat} {w : Nat} (h : ∀ n ∈ l, n ≤ w) : most l ≤ w := by
  induction l with
  | nil => simp [most]
  | cons m l ih => rw [most]; have := h m (by simp); have := ih (fun n hn => h n (by simp [hn])); omega
theorem most_in {l : List Nat} (h : 0 < most l) : most l ∈ l := by
  induction l with
  | nil => simp [most] at h
  | cons m l ih =>
    rw [most] at h ⊢
    by_cases q : most l ≤ m
    · rw [Nat.max_eq_left q]; simp
    · rw [Nat.max_eq_right (by omega)]; exact List.mem_cons_of_mem _ (ih (by omega))
def widest (l : List Int) : Nat := most ((spl l).map cols)
/-- Which lines are wider, counted from a number on. -/
def overs (w : Int) : Nat → List (List Int) → List Int
  | _, [] => []
  | k, x :: r => if w < (cols x : Int) then (k : Int) :: overs w (k + 1) r else overs w (k + 1) r
def over (l : List Int) (w : Int) : List Int := overs w 0 (spl l)
theorem overs_len (w : Int) : ∀ (r : List (List Int)) (k : Nat), (overs w k r).length ≤ r.length
  | [], k => by simp [overs]
  | x :: r, k => by
    have := overs_len w r (k + 1)
    rw [overs]; split <;> simp <;> omega
theorem overs_less {w v : Int} (h : w ≤ v) : ∀ (r : List (List Int)) (k : Nat), (overs v k r).length ≤ (overs w k r).length
  | [], k => by simp [overs]
  | x :: r, k => by
    have := overs_less h r (k + 1)
    rw [overs, overs]
    by_cases q : v < (cols x : Int)
    · rw [if_pos q, if_pos (by omega)]; simp; omega
    · rw [if_neg q]; split <;> simp <;> omega
theorem overs_mem (w : Int) : ∀ (r : List (List Int)) (k : Nat) (i : Int), i ∈ overs w k r ↔ ∃ j : Nat, i = ((k + j : Nat) : Int) ∧ ∃ x, r[j]? = some x ∧ w < (cols x : Int)
  | [], k, i => by simp [overs]
  | x :: r, k, i => by
    have ih := overs_mem w r (k + 1) i
    have key : i ∈ overs w (k + 1) r ↔ ∃ j : Nat, i = ((k + (j + 1) : Nat) : Int) ∧ ∃ y, (x :: r)[j + 1]? = some y ∧ w < (cols y : Int) := by
      rw [ih]
      constructor
      · rintro ⟨j, rfl, y, hy, hw⟩; exact ⟨j, by omega, y, by simpa using hy, hw⟩
      · rintro ⟨j, rfl, y, hy, hw⟩; exact ⟨j, by omega, y, by simpa using hy, hw⟩
    rw [overs]
    constructor
    · intro h
      split at h
      · rename_i q
        rcases List.mem_cons.1 h with rfl | h
        · exact ⟨0, by simp, x, by simp, q⟩
        · obtain ⟨j, h1, h2⟩ := key.1 h; exact ⟨j + 1, h1, h2⟩
      · obtain ⟨j, h1, h2⟩ := key.1 h; exact ⟨j + 1, h1, h2⟩
    · rintro ⟨j, rfl, y, hy, hw⟩
      cases j with
      | zero =>
        simp only [List.getElem?_cons_zero, Option.some.injEq] at hy
        subst hy
        rw [if_pos hw]; simp
      | succ j =>
        have := key.2 ⟨j, rfl, y, hy, hw⟩
        split
        · exact List.mem_cons_of_mem _ this
        · exact this
theorem overs_none (w : Int) : ∀ (r : List (List Int)) (k : Nat), (0 ≤ w) → ((overs w k r = []) ↔ (most (r.map cols) : Int) ≤ w)
  | [], k, h => by simp [overs, most, h]
  | x :: r, k, h => by
    have ih := overs_none w r (k + 1) h
    rw [overs, List.map_cons, most]
    by_cases q : w < (cols x : Int)
    · rw [if_pos q]; simp; omega
    · rw [if_neg q, ih]; omega
/-- How far in a line is: blanks ahead. -/
def isSp (c : Int) : Bool := decide (c = 32)
def marg (l : List Int) : Nat := cnt isSp l
theorem marg_two (l : List Int) : marg (32 :: 32 :: l) = marg l + 2 := by
  unfold marg; rw [cnt_yes _ (by decide), cnt_yes _ (by decide)]
theorem cols_marg (l : List Int) : cols l = marg l + cols (l.drop (marg l)) := by
  induction l with
  | nil => simp [marg, cnt]
  | cons c l ih =>
    by_cases h : isSp c = true
    · have e : marg (c :: l) = marg l + 1 := cnt_yes _ h
      have hc : c = 32 := by simpa [isSp] using h
      rw [e, List.drop_succ_cons, cols_low (by omega), ih]; omega
    · rw [Bool.not_eq_true] at h
      have e : marg (c :: l) = 0 := cnt_no _ h
      rw [e]; simp
/-- Does a line end by a blank? -/
def endSp (l : List Int) : Bool := decide (l.getLast? = some 32)
/-- Is there nothing to be blamed: no byte 9, no byte 13, and no blank at a line's end? -/
def odd (l : List Int) : Bool := l.any fun c => decide (c = 9 ∨ c = 13)
def neat (l : List Int) : Bool := !odd l && !(spl l).any endSp
def clean (l : List Int) : Bool := mayp isc l && neat l
theorem odd_append (a b : List Int) : odd (a ++ b) = (odd a || odd b) := by unfold odd; rw [List.any_append]
theorem neat_join (a b : List Int) : neat (a ++ 10 :: b) = (neat a && neat b) := by
  unfold neat
  rw [odd_append, spl_join, List.any_append, show odd (10 :: b) = odd b by unfold odd; rw [List.any_cons]; simp]
  cases odd a <;> cases odd b <;> cases (spl a).any endSp <;> cases (spl b).any endSp <;> rfl
/-- What stands behind a low byte that is a character is made of characters, or not, by itself. -/
theorem may_low {c : Int} (h : c < 128) (hc : isc c = true) (l : List Int) : mayp isc (c :: l) = mayp isc l := by
  have := mayp_enc sort_isc hc l
  rw [enc_low h] at this
  exact this
/-- No character goes over a byte 10. -/
theorem nxp_ten (a b : List Int) (ha : a ≠ []) : nxp isc (a ++ 10 :: b) = nxp isc a := by
  by_cases h : (nxp isc (a ++ 10 :: b)).2 = 0
  · by_cases q : (nxp isc a).2 = 0
    · rw [nxp_zero h, nxp_zero q]
    · rw [nxp_append sort_isc q]
  · obtain ⟨h1, h2, h3, h4⟩ := nxp_pos h
    -- the character's bytes lie in a
    have hk : (nxp isc (a ++ 10 :: b)).2 ≤ a.length := by
      rcases Nat.lt_or_ge a.length (nxp isc (a ++ 10 :: b)).2 with hlt | hge
      · exfalso
        have hm : (10 : Int) ∈ enc (nxp isc (a ++ 10 :: b)).1 := by
          rw [← h4, List.mem_iff_getElem?]
          refine ⟨a.length, ?_⟩
          rw [List.getElem?_take_of_lt hlt, List.getElem?_append_right (Nat.le_refl _), Nat.sub_self]; rfl
        by_cases q : (nxp isc (a ++ 10 :: b)).1 < 128
        · rw [enc_low q] at h2
          have := List.length_pos_iff.2 ha
          simp at h2; omega
        · have := enc_high (isv_of_isc h1) q 10 hm; omega
      · exact hge
    obtain ⟨r, hr⟩ : ∃ r, (nxp isc (a ++ 10 :: b)).1 = r := ⟨_, rfl⟩
    have e : a = enc r ++ a.drop (enc r).length := by
      have h5 : (a ++ 10 :: b).take (enc r).length = enc r := by rw [← hr, ← h2]; exact h4
      rw [← hr, ← h2] at *
      rw [List.take_append_of_le_length hk] at h5
      conv => lhs; rw [← List.take_append_drop (nxp isc (a ++ 10 :: b)).2 a]
      rw [h5]
    rw [hr] at h1
    have e2 : nxp isc a = (r, (enc r).length) := by rw [e]; exact nxp_enc sort_isc h1 _
    have e3 : nxp isc (a ++ 10 :: b) = (r, (enc r).length) := by
      rw [e, List.append_assoc]; exact nxp_enc sort_isc h1 _
    rw [e2, e3]
theorem may_join (a b : List Int) : mayp isc (a ++ 10 :: b) = (mayp isc a && mayp isc b) := by
  refine chars_rec isc (P := fun a => mayp isc (a ++ 10 :: b) = (mayp isc a && mayp isc b)) a ?_ ?_ ?_
  · rw [List.nil_append, may_low (by omega) (by decide), mayp_nil]; rfl
  · intro l hl hn
    rw [mayp_not hl hn, mayp_not (by simp) (by rw [nxp_ten l b hl]; exact hn)]; rfl
  · intro l hn ih
    have hl := nxp_ne hn
    have e := nxp_ten l b hl
    have hle := nxp_le isc l
    rw [mayp_step hn, mayp_step (by rw [e]; exact hn), e, List.drop_append_of_le_length hle.1]
    exact ih
theorem clean_join (a b : List Int) : clean (a ++ 10 :: b) = (clean a && clean b) := by
  unfold clean
  rw [may_join, neat_join]
  cases mayp isc a <;> cases mayp isc b <;> cases neat a <;> cases neat b <;> rfl
theorem widest_join (a b : List Int) : widest (a ++ 10 :: b) = max (widest a) (widest b) := by
  unfold widest; rw [spl_join, List.map_append, most_append]
end Go.Proofs.YthjoclmggomhoaaDoor.M
