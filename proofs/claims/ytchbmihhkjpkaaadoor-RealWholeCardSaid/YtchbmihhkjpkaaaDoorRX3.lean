/-
  The law RealWhole, as a law on lists of bytes. Plain Lean.
-/
import Derived.Test.YtchbmihhkjpkaaaDoorRX2
namespace Go.Proofs.YtchbmihhkjpkaaaDoor.M
open Ieee
set_option linter.unusedVariables false
set_option linter.unusedSimpArgs false

/-- A number's digits; 0 has none. -/
def dg (n : Nat) : List Int := if h : n = 0 then [] else dg (n / 10) ++ [48 + ((n % 10 : Nat) : Int)]
  termination_by n
  decreasing_by omega
theorem dg_zero : dg 0 = [] := by rw [dg]; simp
theorem dg_pos {n : Nat} (h : n ≠ 0) : dg n = dg (n / 10) ++ [48 + ((n % 10 : Nat) : Int)] := by rw [dg, dif_neg h]
/-- A number's text. -/
def dtext (n : Nat) : List Int := if n = 0 then [48] else dg n
theorem dg_digs (n : Nat) : Digs (dg n) := by
  induction n using Nat.strongRecOn with
  | _ n ih =>
    by_cases h : n = 0
    · subst h; rw [dg_zero]; intro c hc; cases hc
    · rw [dg_pos h]
      refine digs_append (ih _ (by omega)) ?_
      intro c hc
      rw [List.mem_singleton.1 hc]
      omega
theorem valD_append (a : List Int) (c : Int) : valD (a ++ [c]) = 10 * valD a + (c - 48).toNat := by
  unfold valD; rw [List.foldl_append]; rfl
theorem dg_val (n : Nat) : valD (dg n) = n := by
  induction n using Nat.strongRecOn with
  | _ n ih =>
    by_cases h : n = 0
    · subst h; rw [dg_zero]; rfl
    · rw [dg_pos h, valD_append, ih _ (by omega)]
      omega
theorem dg_length (n L : Nat) (h : n < 10 ^ L) : (dg n).length ≤ L := by
  induction L generalizing n with
  | zero => rw [Nat.pow_zero] at h; obtain rfl : n = 0 := by omega
            rw [dg_zero]; exact Nat.le_refl _
  | succ L ih =>
    by_cases h0 : n = 0
    · subst h0; rw [dg_zero]; exact Nat.zero_le _
    · rw [dg_pos h0, List.length_append]
      have := ih (n / 10) (by rw [Nat.pow_succ] at h; omega)
      show _ + 1 ≤ _
      omega
theorem dg_ne {n : Nat} (h : n ≠ 0) : dg n ≠ [] := by rw [dg_pos h]; simp
theorem dg_head (n : Nat) : (dg n).head? ≠ some 48 := by
  induction n using Nat.strongRecOn with
  | _ n ih =>
    by_cases h : n = 0
    · subst h; rw [dg_zero]; intro q; cases q
    · rw [dg_pos h]
      by_cases h2 : n / 10 = 0
      · rw [h2, dg_zero]
        intro q
        have q2 : 48 + ((n % 10 : Nat) : Int) = 48 := Option.some.inj q
        omega
      · have := ih (n / 10) (by omega)
        cases hd : dg (n / 10) with
        | nil => exact absurd hd (dg_ne h2)
        | cons a r => rw [hd] at this; exact this
theorem noZero_head {l : List Int} (h : l.head? ≠ some 48) : noZero l = l := by
  cases l with
  | nil => rfl
  | cons a r => unfold noZero; rw [List.dropWhile_cons, if_neg (by intro q; exact h (by rw [of_decide_eq_true q]; rfl))]
theorem dtext_digs (n : Nat) : Digs (dtext n) := by
  unfold dtext
  split
  · intro c hc; rw [List.mem_singleton.1 hc]; omega
  · exact dg_digs n
theorem dtext_ne (n : Nat) : dtext n ≠ [] := by
  unfold dtext
  split
  · simp
  · rename_i h; exact dg_ne h
theorem dtext_plain (n : Nat) (r : List Int) : (dtext n ++ r).head? ≠ some 45 := by
  intro q
  cases hd : dtext n with
  | nil => exact dtext_ne n hd
  | cons a b =>
    rw [hd] at q
    have ha := dtext_digs n a (by rw [hd]; simp)
    have q2 : a = 45 := Option.some.inj q
    omega
theorem dtext_length {n : Nat} (h : n < 100000000000000) : (dtext n).length ≤ 14 := by
  unfold dtext
  split
  · decide
  · exact dg_length n 14 h
theorem noZero_dtext (n j : Nat) : noZero (dtext n ++ List.replicate j 48) = if n = 0 then [] else dg n ++ List.replicate j 48 := by
  unfold dtext
  by_cases h : n = 0
  · rw [if_pos h, if_pos h, show [48] ++ List.replicate j (48 : Int) = List.replicate (j + 1) 48 by rw [List.replicate_succ]; rfl, noZero_zeros]
  · rw [if_neg h, if_neg h]
    apply noZero_head
    have := dg_head n
    cases hd : dg n with
    | nil => exact absurd hd (dg_ne h)
    | cons a r => rw [hd] at this; exact this
theorem valD_zeros (a : List Int) (j : Nat) : valD (a ++ List.replicate j 48) = valD a * 10 ^ j := by
  induction j with
  | zero => simp
  | succ j ih =>
    rw [List.replicate_succ', ← List.append_assoc, valD_append, ih, Nat.pow_succ]
    rw [show ((48 : Int) - 48).toNat = 0 from rfl, Nat.add_zero, Nat.mul_comm 10, Nat.mul_assoc]
theorem valD_lt {m : List Int} (h : Digs m) : valD m < 10 ^ m.length := by
  have := fold_le m 0 h
  rw [Nat.zero_add, Nat.one_mul] at this
  exact this
/-- What a number's text with zeros behind is worth. -/
theorem val_text (n j : Nat) (x : Int) (hl : (dtext n).length + j ≤ 15) (h0 : -22 ≤ x) (h1 : x ≤ 22) :
    valOf (noZero (dtext n ++ List.replicate j 48)) x = if n = 0 then .zero else .fin (dg n ++ List.replicate j 48) x := by
  rw [noZero_dtext]
  by_cases h : n = 0
  · rw [if_pos h, if_pos h]; rfl
  · rw [if_neg h, if_neg h]
    have hd : dtext n = dg n := by unfold dtext; rw [if_neg h]
    rw [hd] at hl
    have hlen : (dg n ++ List.replicate j (48 : Int)).length = (dg n).length + j := by rw [List.length_append, List.length_replicate]
    have hne := dg_ne h
    unfold valOf
    rw [if_neg (by intro q; exact hne (List.append_eq_nil_iff.1 q).1), hlen, if_neg (by omega), if_neg (by omega), if_neg (by omega)]
theorem dv_text (n j : Nat) (hl : (dtext n).length + j ≤ 15) (h : n ≠ 0) : dv (dg n ++ List.replicate j 48) = ofI ((n * 10 ^ j : Nat) : Int) ∧ n * 10 ^ j < 1000000000000000 := by
  have hd : dtext n = dg n := by unfold dtext; rw [if_neg h]
  rw [hd] at hl
  have hlen : (dg n ++ List.replicate j (48 : Int)).length = (dg n).length + j := by rw [List.length_append, List.length_replicate]
  have hdig := digs_append (dg_digs n) (digs_zeros j)
  have hv : valD (dg n ++ List.replicate j 48) = n * 10 ^ j := by rw [valD_zeros, dg_val]
  refine ⟨by rw [dv_nat _ hdig (by omega), hv], ?_⟩
  have := valD_lt hdig
  rw [hv, hlen] at this
  exact Nat.lt_of_lt_of_le this (Nat.pow_le_pow_right (by decide) hl)
theorem back_val (n j : Nat) (hl : (dtext n).length + j ≤ 15) : valF (valOf (noZero (dtext n ++ List.replicate j 48)) (-(j : Int))) = ofI (n : Int) := by
  rw [val_text n j _ hl (by omega) (by omega)]
  by_cases h : n = 0
  · rw [if_pos h, h]; exact zero_ofI
  · rw [if_neg h]
    obtain ⟨e1, e2⟩ := dv_text n j hl h
    show (if -(j : Int) < 0 then (F64.div (dv (dg n ++ List.replicate j 48)) (pw (-(-(j : Int))).toNat)).getD 0 else (F64.mul (dv (dg n ++ List.replicate j 48)) (pw (-(j : Int)).toNat)).getD 0) = _
    rw [e1]
    have hp : 10 ^ j ≤ 10 ^ 15 := Nat.pow_le_pow_right (by decide) (by omega)
    have hp0 : 0 < 10 ^ j := Nat.pow_pos (by decide)
    by_cases hj : j = 0
    · subst hj
      rw [if_neg (by decide), Nat.pow_zero, Nat.mul_one]
      rw [Nat.pow_zero, Nat.mul_one] at e2
      show (F64.mul (ofI (n : Int)) ONEF).getD 0 = _
      rw [one_ofI, mul_nat (by omega) (by omega) (by omega), Option.getD_some, Nat.mul_one]
    · rw [if_pos (by omega), show (-(-(j : Int))).toNat = j by omega, pw_nat j (by omega), div_nat (by omega) (by omega) (by omega), Option.getD_some]
theorem on_val (n j k : Nat) (hl : (dtext n).length + j + k ≤ 15) : valF (valOf (noZero (dtext n ++ List.replicate j 48)) (k : Int)) = ofI ((n * 10 ^ j * 10 ^ k : Nat) : Int) := by
  rw [val_text n j _ (by omega) (by omega) (by omega)]
  by_cases h : n = 0
  · rw [if_pos h, h, Nat.zero_mul, Nat.zero_mul]; exact zero_ofI
  · rw [if_neg h]
    obtain ⟨e1, _⟩ := dv_text n j (by omega) h
    have e3 := (dv_text n (j + k) (by omega) h).2
    rw [Nat.pow_add, ← Nat.mul_assoc] at e3
    show (if (k : Int) < 0 then (F64.div (dv (dg n ++ List.replicate j 48)) (pw (-(k : Int)).toNat)).getD 0 else (F64.mul (dv (dg n ++ List.replicate j 48)) (pw (k : Int).toNat)).getD 0) = _
    have hp : 10 ^ k ≤ 10 ^ 15 := Nat.pow_le_pow_right (by decide) (by omega)
    have hp0 : 0 < 10 ^ k := Nat.pow_pos (by decide)
    have h4 : n * 10 ^ j ≤ n * 10 ^ j * 10 ^ k := Nat.le_mul_of_pos_right _ hp0
    rw [e1, if_neg (by omega), Int.toNat_natCast, pw_nat k (by omega), mul_nat (by omega) (by omega) (by omega), Option.getD_some]
theorem not_nan {v : Val} {b : Nat} (h : v ≠ .nan) (hv : valF v = b) : sgv v false = b := by unfold sgv; rw [if_neg h, if_neg (by decide), hv]
theorem val_text_ne (n j : Nat) (x : Int) (hl : (dtext n).length + j ≤ 15) (h0 : -22 ≤ x) (h1 : x ≤ 22) : valOf (noZero (dtext n ++ List.replicate j 48)) x ≠ .nan := by
  rw [val_text n j x hl h0 h1]; split <;> simp
theorem rep_zero : List.replicate 0 (48 : Int) = [] := rfl
theorem head_no {c : Int} {l : List Int} (h : isDig c = false) (h2 : c ≠ 46) : ∀ d, (c :: l).head? = some d → isDig d = false ∧ d ≠ 46 := fun d hd => by cases hd; exact ⟨h, h2⟩
theorem whole_1 (n j : Nat) (hl : (dtext n).length + j ≤ 15) : realF (dtext n ++ List.replicate j 48) = ofI ((n * 10 ^ j : Nat) : Int) := by
  rw [real_plain (dtext_plain n _)]
  have e := worth_whole (l := dtext n ++ List.replicate j 48) (m := []) (digs_append (dtext_digs n) (digs_zeros j)) (by intro q; exact dtext_ne n (List.append_eq_nil_iff.1 q).1) (fun c hc => by cases hc)
  rw [List.append_nil, expo_nil] at e
  have e2 : rval (dtext n ++ List.replicate j 48) = valOf (noZero (dtext n ++ List.replicate j 48)) ((0 : Nat) : Int) := by unfold rval; rw [e]; rfl
  rw [e2]
  refine not_nan (val_text_ne n j _ hl (by omega) (by omega)) ?_
  rw [on_val n j 0 (by omega), Nat.pow_zero, Nat.mul_one]
theorem whole_2 (n : Nat) (hl : (dtext n).length ≤ 14) : realF (dtext n ++ [46, 48]) = ofI (n : Int) := by
  rw [real_plain (dtext_plain n _)]
  have e := worth_dot (l := dtext n) (d := [48]) (m := []) (dtext_digs n) (dtext_ne n) (digs_zeros 1) (by simp) (fun c hc => by cases hc)
  rw [List.append_nil, expo_nil] at e
  have e2 : rval (dtext n ++ [46, 48]) = valOf (noZero (dtext n ++ List.replicate 1 48)) (-((1 : Nat) : Int)) := by unfold rval; rw [e]; rfl
  rw [e2]
  exact not_nan (val_text_ne n 1 _ (by omega) (by omega) (by omega)) (back_val n 1 (by omega))
theorem exp_digs {k : Nat} (hk : k ≤ 9) : Digs [48 + (k : Int)] ∧ sat [48 + (k : Int)] = k := by
  refine ⟨fun c hc => by rw [List.mem_singleton.1 hc]; omega, ?_⟩
  unfold sat; simp only [List.foldl_cons, List.foldl_nil]; omega
theorem whole_3 (n : Nat) (hl : (dtext n).length ≤ 14) : realF (dtext n ++ [101, 48]) = ofI (n : Int) := by
  rw [real_plain (dtext_plain n _)]
  have e := worth_whole (l := dtext n) (m := [101, 48]) (dtext_digs n) (dtext_ne n) (head_no rfl (by decide))
  rw [show expo [101, 48] = some 0 from expo_plain (e := [48]) (.inl rfl) (digs_zeros 1) (by simp)] at e
  have e2 : rval (dtext n ++ [101, 48]) = valOf (noZero (dtext n ++ List.replicate 0 48)) ((0 : Nat) : Int) := by unfold rval; rw [e, rep_zero, List.append_nil]; rfl
  rw [e2]
  refine not_nan (val_text_ne n 0 _ (by omega) (by omega) (by omega)) ?_
  rw [on_val n 0 0 (by omega)]; simp
theorem whole_4 (n k : Nat) (hl : (dtext n).length + k ≤ 15) (hk : k ≤ 9) : realF (dtext n ++ List.replicate k 48 ++ [69, 45, 48 + (k : Int)]) = ofI (n : Int) := by
  rw [List.append_assoc, real_plain (dtext_plain n _), ← List.append_assoc]
  have e := worth_whole (l := dtext n ++ List.replicate k 48) (m := [69, 45, 48 + (k : Int)]) (digs_append (dtext_digs n) (digs_zeros k)) (by intro q; exact dtext_ne n (List.append_eq_nil_iff.1 q).1) (head_no rfl (by decide))
  rw [expo_down (.inr rfl) (exp_digs hk).1 (by simp), (exp_digs hk).2] at e
  have e2 : rval (dtext n ++ List.replicate k 48 ++ [69, 45, 48 + (k : Int)]) = valOf (noZero (dtext n ++ List.replicate k 48)) (-(k : Int)) := by unfold rval; rw [e]; rfl
  rw [e2]
  exact not_nan (val_text_ne n k _ hl (by omega) (by omega)) (back_val n k hl)
theorem whole_5 (n k : Nat) (hl : (dtext n).length + k ≤ 15) (hk : k ≤ 9) : realF (dtext n ++ [101, 43, 48 + (k : Int)]) = ofI ((n * 10 ^ k : Nat) : Int) := by
  rw [real_plain (dtext_plain n _)]
  have e := worth_whole (l := dtext n) (m := [101, 43, 48 + (k : Int)]) (dtext_digs n) (dtext_ne n) (head_no rfl (by decide))
  rw [expo_up (.inl rfl) (exp_digs hk).1 (by simp), (exp_digs hk).2] at e
  have e2 : rval (dtext n ++ [101, 43, 48 + (k : Int)]) = valOf (noZero (dtext n ++ List.replicate 0 48)) (k : Int) := by unfold rval; rw [e, rep_zero, List.append_nil]; rfl
  rw [e2]
  refine not_nan (val_text_ne n 0 _ (by omega) (by omega) (by omega)) ?_
  rw [on_val n 0 k (by omega), Nat.pow_zero, Nat.mul_one]
end Go.Proofs.YtchbmihhkjpkaaaDoor.M
