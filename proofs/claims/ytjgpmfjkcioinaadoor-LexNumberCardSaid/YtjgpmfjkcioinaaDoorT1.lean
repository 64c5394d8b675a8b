/-
  Plain mathematics for strings: codes, escapes, what a string tells, and texts as strings. No program in sight.
-/
import Derived.Test.YtjgpmfjkcioinaaDoorU1
namespace Go.Proofs.YtjgpmfjkcioinaaDoor.M
open Go.Proofs.YtjgpmfjkcioinaaDoorW.PrintWords
set_option linter.unusedVariables false
set_option linter.unusedSimpArgs false

/-- What a sign of a code is worth; -1, if it is none. -/
def hexv (c : Int) : Int := if 48 ≤ c ∧ c ≤ 57 then c - 48 else if 97 ≤ c ∧ c ≤ 102 then c - 87 else if 65 ≤ c ∧ c ≤ 70 then c - 55 else -1
theorem hexv_le (c : Int) : -1 ≤ hexv c ∧ hexv c ≤ 15 := by
  unfold hexv
  repeat' split
  all_goals omega
/-- A code; -1, if there is none. -/
def hex4 (l : List Int) : Int :=
  match l with
  | a :: b :: c :: d :: _ => if 0 ≤ hexv a ∧ 0 ≤ hexv b ∧ 0 ≤ hexv c ∧ 0 ≤ hexv d then hexv a * 4096 + hexv b * 256 + hexv c * 16 + hexv d else -1
  | _ => -1
theorem hex4_le (l : List Int) : -1 ≤ hex4 l ∧ hex4 l ≤ 65535 := by
  unfold hex4
  split
  · rename_i a b c d m
    have := hexv_le a; have := hexv_le b; have := hexv_le c; have := hexv_le d
    split <;> omega
  · omega
theorem hex4_append {l : List Int} (h : 0 ≤ hex4 l) (m : List Int) : hex4 (l ++ m) = hex4 l ∧ 4 ≤ l.length := by
  match l, h with
  | a :: b :: c :: d :: k, h => exact ⟨rfl, by simp⟩
/-- What a letter behind a backslash tells; -1, if nothing. -/
def short (c : Int) : Int :=
  if c = 34 ∨ c = 92 ∨ c = 47 then c else if c = 98 then 8 else if c = 102 then 12 else if c = 110 then 10 else if c = 114 then 13 else if c = 116 then 9 else -1
theorem short_le (c : Int) : -1 ≤ short c ∧ short c ≤ 92 := by
  unfold short
  repeat' split
  all_goals omega
/-- Two halves of a character. -/
def pairOf (n low : Int) : Int := 65536 + (n - 55296) * 1024 + low - 56320
/-- What begins with a backslash: what it tells, and how long it is; ([], 0), if it is none. -/
def esc (l : List Int) : List Int × Nat :=
  if l.getD 0 0 = 92 ∧ 1 < l.length then
    if 0 ≤ short (l.getD 1 0) then ([short (l.getD 1 0)], 2)
    else if l.getD 1 0 = 117 ∧ 0 ≤ hex4 (l.drop 2) then
      if hex4 (l.drop 2) < 55296 ∨ 57343 < hex4 (l.drop 2) then (enc (hex4 (l.drop 2)), 6)
      else if hex4 (l.drop 2) < 56320 ∧ l.getD 6 0 = 92 ∧ l.getD 7 0 = 117 ∧ 56320 ≤ hex4 (l.drop 8) ∧ hex4 (l.drop 8) ≤ 57343 then (enc (pairOf (hex4 (l.drop 2)) (hex4 (l.drop 8))), 12)
      else ([], 0)
    else ([], 0)
  else ([], 0)
theorem getD_append_lt {l m : List Int} {k : Nat} {d : Int} (h : k < l.length) : (l ++ m).getD k d = l.getD k d := by
  simp only [List.getD_eq_getElem?_getD]; rw [List.getElem?_append_left h]
theorem hex4_drop {l : List Int} {k : Nat} (h : 0 ≤ hex4 (l.drop k)) (m : List Int) : hex4 ((l ++ m).drop k) = hex4 (l.drop k) ∧ k + 4 ≤ l.length := by
  have hk : k ≤ l.length := by
    by_cases q : k ≤ l.length
    · exact q
    · rw [List.drop_eq_nil_of_le (by omega)] at h; exact absurd h (by decide)
  have := hex4_append h m
  rw [List.length_drop] at this
  rw [List.drop_append_of_le_length hk]
  exact ⟨this.1, by omega⟩
theorem esc_some {l : List Int} (h : (esc l).2 ≠ 0) : ∃ r, isv r = true ∧ (esc l).1 = enc r ∧ 2 ≤ (esc l).2 ∧ (esc l).2 ≤ l.length ∧ l.getD 0 0 = 92 ∧ ∀ m, esc (l ++ m) = esc l := by
  unfold esc at h ⊢
  split at h
  · rename_i c0
    rw [if_pos c0]
    have e0 : ∀ m : List Int, (l ++ m).getD 0 0 = l.getD 0 0 := fun m => getD_append_lt (by omega)
    have e1 : ∀ m : List Int, (l ++ m).getD 1 0 = l.getD 1 0 := fun m => getD_append_lt (by omega)
    have c0' : ∀ m : List Int, l.getD 0 0 = 92 ∧ 1 < (l ++ m).length := fun m => ⟨c0.1, by rw [List.length_append]; omega⟩
    split at h
    · rename_i c1
      rw [if_pos c1]
      have := short_le (l.getD 1 0)
      refine ⟨short (l.getD 1 0), by rw [isv_iff]; omega, by rw [enc_low (by omega)], Nat.le_refl _, by show 2 ≤ l.length; omega, c0.1, fun m => ?_⟩
      rw [e0, e1, if_pos (c0' m), if_pos c1]
    · rename_i c1
      rw [if_neg c1]
      split at h
      · rename_i c2
        rw [if_pos c2]
        have hh := hex4_le (l.drop 2)
        have hd := hex4_drop c2.2
        split at h
        · rename_i c3
          rw [if_pos c3]
          refine ⟨hex4 (l.drop 2), by rw [isv_iff]; omega, rfl, by show 2 ≤ 6; omega, (hd []).2, c0.1, fun m => ?_⟩
          rw [e0, e1, (hd m).1, if_pos (c0' m), if_neg c1, if_pos c2, if_pos c3]
        · rename_i c3
          rw [if_neg c3]
          split at h
          · rename_i c4
            rw [if_pos c4]
            have hd8 := hex4_drop (l := l) (k := 8) (by omega)
            have hl := (hd8 []).2
            refine ⟨pairOf (hex4 (l.drop 2)) (hex4 (l.drop 8)), by rw [isv_iff]; unfold pairOf; omega, rfl, by show 2 ≤ 12; omega, hl, c0.1, fun m => ?_⟩
            rw [e0, e1, (hd m).1, (hd8 m).1, getD_append_lt (by omega), getD_append_lt (by omega), if_pos (c0' m), if_neg c1, if_pos c2, if_neg c3, if_pos c4]
          · exact absurd rfl h
      · exact absurd rfl h
  · exact absurd rfl h
theorem hex4_take {l : List Int} {k : Nat} (h : 4 ≤ k) : hex4 (l.take k) = hex4 l := by
  obtain ⟨k, rfl⟩ : ∃ m, k = m + 4 := ⟨k - 4, by omega⟩
  match l with
  | [] => simp
  | [_] => simp [List.take]
  | [_, _] => simp [List.take]
  | [_, _, _] => simp [List.take]
  | _ :: _ :: _ :: _ :: _ => rfl
theorem esc_take {l : List Int} (h : (esc l).2 ≠ 0) : esc (l.take (esc l).2) = esc l := by
  have gt : ∀ (k i : Nat), i < k → (l.take k).getD i 0 = l.getD i 0 := by intro k i hi; simp only [List.getD_eq_getElem?_getD]; rw [List.getElem?_take_of_lt hi]
  have ht : ∀ k j, j + 4 ≤ k → hex4 ((l.take k).drop j) = hex4 (l.drop j) := by intro k j hk; rw [List.drop_take]; exact hex4_take (by omega)
  have h' := h
  unfold esc at h'
  split at h'
  · rename_i c0
    split at h'
    · rename_i c1
      have e : esc l = ([short (l.getD 1 0)], 2) := by unfold esc; rw [if_pos c0, if_pos c1]
      rw [e]
      show esc (l.take 2) = _
      unfold esc
      rw [gt 2 0 (by omega), gt 2 1 (by omega), if_pos ⟨c0.1, by rw [List.length_take]; omega⟩, if_pos c1]
    · rename_i c1
      split at h'
      · rename_i c2
        have hd := (hex4_drop c2.2 []).2
        split at h'
        · rename_i c3
          have e : esc l = (enc (hex4 (l.drop 2)), 6) := by unfold esc; rw [if_pos c0, if_neg c1, if_pos c2, if_pos c3]
          rw [e]
          show esc (l.take 6) = _
          unfold esc
          rw [gt 6 0 (by omega), gt 6 1 (by omega), ht 6 2 (by omega), if_pos ⟨c0.1, by rw [List.length_take]; omega⟩, if_neg c1, if_pos c2, if_pos c3]
        · rename_i c3
          split at h'
          · rename_i c4
            have hd8 := (hex4_drop (l := l) (k := 8) (by omega) []).2
            have e : esc l = (enc (pairOf (hex4 (l.drop 2)) (hex4 (l.drop 8))), 12) := by unfold esc; rw [if_pos c0, if_neg c1, if_pos c2, if_neg c3, if_pos c4]
            rw [e]
            show esc (l.take 12) = _
            unfold esc
            rw [gt 12 0 (by omega), gt 12 1 (by omega), gt 12 6 (by omega), gt 12 7 (by omega), ht 12 2 (by omega), ht 12 8 (by omega), if_pos ⟨c0.1, by rw [List.length_take]; omega⟩, if_neg c1, if_pos c2, if_neg c3, if_pos c4]
          · exact absurd rfl h'
      · exact absurd rfl h'
  · exact absurd rfl h'
theorem esc_zero {l : List Int} (h : (esc l).2 = 0) : esc l = ([], 0) := by
  unfold esc at h ⊢
  split
  · rename_i c0
    rw [if_pos c0] at h
    split
    · rename_i c1; rw [if_pos c1] at h; exact absurd (show (2 : Nat) = 0 from h) (by decide)
    · rename_i c1
      rw [if_neg c1] at h
      split
      · rename_i c2
        rw [if_pos c2] at h
        split
        · rename_i c3; rw [if_pos c3] at h; exact absurd (show (6 : Nat) = 0 from h) (by decide)
        · rename_i c3
          rw [if_neg c3] at h
          split
          · rename_i c4; rw [if_pos c4] at h; exact absurd (show (12 : Nat) = 0 from h) (by decide)
          · rfl
      · rfl
  · rfl
theorem esc_not {c : Int} (h : c ≠ 92) (m : List Int) : esc (c :: m) = ([], 0) := by
  unfold esc; rw [if_neg (fun q => h (by simpa using q.1))]

/-- What stands behind a quote: whether it ends, what it tells, and how long it is up to there (or where it goes wrong). -/
def strB (l : List Int) : Bool × List Int × Nat :=
  if l = [] then (false, [], 0)
  else if l.getD 0 0 = 34 then (true, [], 1)
  else if l.getD 0 0 = 92 then
    if he : (esc l).2 = 0 then (false, [], 0)
    else if (strB (l.drop (esc l).2)).1 = true then (true, (esc l).1 ++ (strB (l.drop (esc l).2)).2.1, (esc l).2 + (strB (l.drop (esc l).2)).2.2)
    else (false, [], (esc l).2 + (strB (l.drop (esc l).2)).2.2)
  else if hn : (nxp isc l).2 = 0 ∨ (nxp isc l).1 = 10 ∨ (nxp isc l).1 = 13 then (false, [], 0)
  else if (strB (l.drop (nxp isc l).2)).1 = true then (true, l.take (nxp isc l).2 ++ (strB (l.drop (nxp isc l).2)).2.1, (nxp isc l).2 + (strB (l.drop (nxp isc l).2)).2.2)
  else (false, [], (nxp isc l).2 + (strB (l.drop (nxp isc l).2)).2.2)
termination_by l.length
decreasing_by
  all_goals
    have hp := nxp_le isc l
    rw [List.length_drop]
    first
    | (have h0 : (nxp isc l).2 ≠ 0 := fun q => hn (Or.inl q)
       omega)
    | (have h0 : (esc l).2 ≠ 0 := fun q => he q
       obtain ⟨_, _, _, h1, h2, _⟩ := esc_some h0
       omega)

/-- A piece of a string, and what it tells. -/
inductive It : List Int → List Int → Prop
  | esc (e : List Int) (h : (esc e).2 = e.length) (h0 : e ≠ []) : It e (esc e).1
  | plain (r : Int) (h : isc r = true) (h1 : r ≠ 10) (h2 : r ≠ 13) (h3 : r ≠ 34) (h4 : r ≠ 92) : It (enc r) (enc r)
/-- What stands between quotes, and what it tells. -/
inductive Str : List Int → List Int → Prop
  | nil : Str [] []
  | cons {e t b x : List Int} (h : It e t) (hs : Str b x) : Str (e ++ b) (t ++ x)
theorem Str.append {a x b y : List Int} (h : Str a x) (k : Str b y) : Str (a ++ b) (x ++ y) := by
  induction h with
  | nil => exact k
  | cons hi _ ih => rw [List.append_assoc, List.append_assoc]; exact .cons hi ih
/-- The step of 'strB' at a piece. -/
def sadd (n : Nat) (t : List Int) (q : Bool × List Int × Nat) : Bool × List Int × Nat := if q.1 = true then (true, t ++ q.2.1, n + q.2.2) else (false, [], n + q.2.2)
theorem strB_nil : strB [] = (false, [], 0) := by rw [strB]; rfl
theorem strB_quote (m : List Int) : strB (34 :: m) = (true, [], 1) := by rw [strB]; simp
theorem strB_esc {l : List Int} (h0 : l.getD 0 0 = 92) (he : (esc l).2 ≠ 0) : strB l = sadd (esc l).2 (esc l).1 (strB (l.drop (esc l).2)) := by
  have hl : l ≠ [] := fun e => by rw [e] at h0; simp at h0
  conv => lhs; rw [strB]
  rw [if_neg hl, if_neg (by omega), if_pos h0, dif_neg he]; rfl
theorem strB_escno {l : List Int} (h0 : l.getD 0 0 = 92) (he : (esc l).2 = 0) : strB l = (false, [], 0) := by
  have hl : l ≠ [] := fun e => by rw [e] at h0; simp at h0
  rw [strB, if_neg hl, if_neg (by omega), if_pos h0, dif_pos he]
theorem strB_plain {l : List Int} (h1 : l.getD 0 0 ≠ 34) (h2 : l.getD 0 0 ≠ 92) (hn : (nxp isc l).2 ≠ 0) (h3 : (nxp isc l).1 ≠ 10) (h4 : (nxp isc l).1 ≠ 13) : strB l = sadd (nxp isc l).2 (l.take (nxp isc l).2) (strB (l.drop (nxp isc l).2)) := by
  have hl : l ≠ [] := fun e => hn (by rw [e, nx_nil])
  conv => lhs; rw [strB]
  rw [if_neg hl, if_neg h1, if_neg h2, dif_neg (fun q => by omega)]; rfl
theorem strB_plainno {l : List Int} (hl : l ≠ []) (h1 : l.getD 0 0 ≠ 34) (h2 : l.getD 0 0 ≠ 92) (hn : (nxp isc l).2 = 0 ∨ (nxp isc l).1 = 10 ∨ (nxp isc l).1 = 13) : strB l = (false, [], 0) := by
  rw [strB, if_neg hl, if_neg h1, if_neg h2, dif_pos hn]
theorem enc_head {r : Int} (hr : isv r = true) (c : Int) (hc : c < 128) (hne : r ≠ c) (m : List Int) : (enc r ++ m).getD 0 0 ≠ c := by
  by_cases h : r < 128
  · rw [enc_low h]; simpa using hne
  · have h1 := enc_high hr h
    cases hE : enc r with
    | nil => exact absurd hE (enc_ne r)
    | cons x k =>
      have := h1 x (by rw [hE]; simp)
      simp only [List.cons_append, List.getD_cons_zero]; omega
theorem strB_it {e t : List Int} (h : It e t) (m : List Int) : strB (e ++ m) = sadd e.length t (strB m) := by
  cases h with
  | esc _ h h0 =>
    have hne : (esc e).2 ≠ 0 := by rw [h]; have := List.length_pos_iff.2 h0; omega
    obtain ⟨r, _, _, h2, _, h92, ha⟩ := esc_some hne
    have e1 := ha m
    rw [strB_esc (by rw [getD_append_lt (by omega)]; exact h92) (by rw [e1]; exact hne), e1, h, List.drop_left]
  | plain r h h1 h2 h3 h4 =>
    have hv := isv_of_isc h
    have e1 := nxp_enc sort_isc h m
    have hl := enc_len r
    rw [strB_plain (enc_head hv 34 (by omega) h3 m) (enc_head hv 92 (by omega) h4 m) (by rw [e1]; show (enc r).length ≠ 0; omega) (by rw [e1]; exact h1) (by rw [e1]; exact h2), e1]
    show sadd (enc r).length ((enc r ++ m).take (enc r).length) (strB ((enc r ++ m).drop (enc r).length)) = _
    rw [List.take_left, List.drop_left]
theorem sadd_sadd (n k : Nat) (t x : List Int) (q : Bool × List Int × Nat) : sadd n t (sadd k x q) = sadd (n + k) (t ++ x) q := by
  unfold sadd
  by_cases h : q.1 = true
  · simp only [if_pos h, if_true, List.append_assoc, Nat.add_assoc]
  · simp only [if_neg h, Bool.false_eq_true, if_false, Nat.add_assoc]
theorem sadd_zero (q : Bool × List Int × Nat) (h : q.1 = false → q.2.1 = []) : sadd 0 [] q = q := by
  obtain ⟨a, b, c⟩ := q
  unfold sadd
  cases a with
  | true => simp
  | false =>
    have e : b = [] := h rfl
    simp only [Bool.false_eq_true, if_false, Nat.zero_add]; rw [e]
theorem strB_no (l : List Int) : (strB l).1 = false → (strB l).2.1 = [] := by
  rw [strB]
  repeat' split
  all_goals simp
/-- Whatever stands behind pieces. -/
theorem strB_str {b t : List Int} (h : Str b t) (m : List Int) : strB (b ++ m) = sadd b.length t (strB m) := by
  induction h with
  | nil => rw [List.nil_append]; exact (sadd_zero _ (strB_no m)).symm
  | cons hi _ ih => rw [List.append_assoc, strB_it hi, ih, sadd_sadd, List.length_append]
theorem strB_done {b t : List Int} (h : Str b t) (m : List Int) : strB (b ++ 34 :: m) = (true, t, b.length + 1) := by
  rw [strB_str h, strB_quote]; simp [sadd]
/-- A string that ends is pieces and a quote; one that does not goes wrong within. -/
theorem strB_tells : ∀ (n : Nat) (l : List Int), l.length ≤ n → ((strB l).1 = true → ∃ b m, Str b (strB l).2.1 ∧ l = b ++ 34 :: m ∧ (strB l).2.2 = b.length + 1) ∧ ((strB l).1 = false → (strB l).2.2 ≤ l.length)
  | 0, l, h => by
    have : l = [] := List.eq_nil_of_length_eq_zero (by omega)
    subst this
    rw [strB_nil]; exact ⟨(fun q => by cases q), fun _ => Nat.le_refl _⟩
  | n + 1, l, h => by
    by_cases hl : l = []
    · subst hl; rw [strB_nil]; exact ⟨(fun q => by cases q), fun _ => Nat.le_refl _⟩
    · have hp := List.length_pos_iff.2 hl
      by_cases h34 : l.getD 0 0 = 34
      · obtain ⟨c, m, rfl⟩ := List.exists_cons_of_ne_nil hl
        rw [List.getD_cons_zero] at h34
        subst h34
        rw [strB_quote]
        exact ⟨fun _ => ⟨[], m, .nil, rfl, rfl⟩, (fun q => by cases q)⟩
      · by_cases h92 : l.getD 0 0 = 92
        · by_cases he : (esc l).2 = 0
          · rw [strB_escno h92 he]; exact ⟨(fun q => by cases q), fun _ => Nat.zero_le _⟩
          · obtain ⟨r, hr, hr2, h2, hle, _, _⟩ := esc_some he
            have ih := strB_tells n (l.drop (esc l).2) (by rw [List.length_drop]; omega)
            have hit : It (l.take (esc l).2) (esc l).1 := by
              have hx := esc_take he
              have := It.esc (l.take (esc l).2) (by rw [hx, List.length_take]; omega) (fun q => by have := congrArg List.length q; rw [List.length_take, List.length_nil] at this; omega)
              rwa [hx] at this
            rw [strB_esc h92 he]
            unfold sadd
            by_cases q : (strB (l.drop (esc l).2)).1 = true
            · rw [if_pos q]
              refine ⟨fun _ => ?_, (fun q => by cases q)⟩
              obtain ⟨b, m, hs, e, hn⟩ := ih.1 q
              refine ⟨l.take (esc l).2 ++ b, m, .cons hit hs, ?_, ?_⟩
              · rw [List.append_assoc, ← e, List.take_append_drop]
              · show (esc l).2 + (strB (l.drop (esc l).2)).2.2 = _
                rw [hn, List.length_append, List.length_take]; omega
            · rw [if_neg q]
              refine ⟨(fun q => by cases q), fun _ => ?_⟩
              have := ih.2 (by simpa using q)
              rw [List.length_drop] at this
              show (esc l).2 + (strB (l.drop (esc l).2)).2.2 ≤ _
              omega
        · by_cases hn : (nxp isc l).2 = 0 ∨ (nxp isc l).1 = 10 ∨ (nxp isc l).1 = 13
          · rw [strB_plainno hl h34 h92 hn]; exact ⟨(fun q => by cases q), fun _ => Nat.zero_le _⟩
          · have hn0 : (nxp isc l).2 ≠ 0 := fun q => hn (.inl q)
            have hle := nxp_le isc l
            obtain ⟨k1, k2, k3, k4⟩ := nxp_pos hn0
            have ih := strB_tells n (l.drop (nxp isc l).2) (by rw [List.length_drop]; omega)
            have hc : ∀ c, c < 128 → l.getD 0 0 ≠ c → (nxp isc l).1 ≠ c := by
              intro c hc hne e
              have e2 : enc (nxp isc l).1 = [c] := by rw [e]; exact enc_low hc
              rw [e2] at k3
              rw [k3] at hne
              simp at hne
            have hit : It (l.take (nxp isc l).2) (l.take (nxp isc l).2) := by
              rw [k4]; exact .plain _ k1 (fun q => hn (.inr (.inl q))) (fun q => hn (.inr (.inr q))) (hc 34 (by omega) h34) (hc 92 (by omega) h92)
            rw [strB_plain h34 h92 hn0 (fun q => hn (.inr (.inl q))) (fun q => hn (.inr (.inr q)))]
            unfold sadd
            by_cases q : (strB (l.drop (nxp isc l).2)).1 = true
            · rw [if_pos q]
              refine ⟨fun _ => ?_, (fun q => by cases q)⟩
              obtain ⟨b, m, hs, e, hm⟩ := ih.1 q
              refine ⟨l.take (nxp isc l).2 ++ b, m, .cons hit hs, ?_, ?_⟩
              · rw [List.append_assoc, ← e, List.take_append_drop]
              · show (nxp isc l).2 + (strB (l.drop (nxp isc l).2)).2.2 = _
                rw [hm, List.length_append, List.length_take]; omega
            · rw [if_neg q]
              refine ⟨(fun q => by cases q), fun _ => ?_⟩
              have := ih.2 (by simpa using q)
              rw [List.length_drop] at this
              show (nxp isc l).2 + (strB (l.drop (nxp isc l).2)).2.2 ≤ _
              omega
end Go.Proofs.YtjgpmfjkcioinaaDoor.M
