/-
  The law NumWorth, as a law on lists of bytes. Plain Lean.
-/
import Derived.Test.YtchbmihhkjpkaaaDoorM2
import Derived.Test.YtchbmihhkjpkaaaDoorRX2
import Derived.Test.YtchbmihhkjpkaaaDoorC7
namespace Go.Proofs.YtchbmihhkjpkaaaDoor.M
open Ieee
set_option linter.unusedVariables false
set_option linter.unusedSimpArgs false

/-- The kind is 4 wherever it is a number. -/
def Four (F : List Int → LNum) : Prop := ∀ l, (F l).2.2 = true → (F l).1 = 4
theorem kfour_fin : Four (lFin 4) := fun l h => by
  unfold lFin at h ⊢
  split at h
  · cases h
  · rename_i q; rw [if_neg q]
theorem kfour_digs {F : List Int → LNum} (hF : Four F) : Four (lDigs F) := fun l h => by
  unfold lDigs at h ⊢
  split at h
  · rename_i q; rw [if_pos q]; exact hF _ h
  · cases h
theorem kfour_tail : Four lTail := fun l h => by
  cases l with
  | nil => cases h
  | cons c r =>
    rw [lTail_cons] at h ⊢
    split at h
    · rename_i q; rw [if_pos q]; exact kfour_digs kfour_fin _ h
    · rename_i q; rw [if_neg q]; exact kfour_digs kfour_fin _ h
theorem kfour_exp : Four (lExp 4) := fun l h => by
  cases l with
  | nil => rfl
  | cons c r =>
    rw [lExp_cons] at h ⊢
    split at h
    · rename_i q; rw [if_pos q]; exact kfour_tail _ h
    · rename_i q; rw [if_neg q]; exact kfour_fin _ h
theorem dot_kind {q : List Int} {k : Int} (h : lDot q = (k, q.length, true)) : (q = [] ∧ k = 3) ∨ (q ≠ [] ∧ k = 4 ∧ dig q = 0) := by
  cases q with
  | nil => left; exact ⟨rfl, (congrArg Prod.fst h).symm⟩
  | cons c r =>
    right
    refine ⟨by simp, ?_⟩
    rw [lDot_cons] at h
    by_cases h1 : c = 46
    · rw [if_pos h1] at h
      refine ⟨?_, by rw [dig_cons, h1]; rfl⟩
      have e1 : (lDigs (lExp 4) r).1 = k := congrArg Prod.fst h
      have e2 : (lDigs (lExp 4) r).2.2 = true := congrArg (fun x => x.2.2) h
      rw [← e1]; exact kfour_digs kfour_exp _ e2
    · rw [if_neg h1, lExp_cons] at h
      by_cases h2 : c = 101 ∨ c = 69
      · rw [if_pos h2] at h
        refine ⟨?_, by rw [dig_cons]; rcases h2 with rfl | rfl <;> rfl⟩
        have e1 : (lTail r).1 = k := congrArg Prod.fst h
        have e2 : (lTail r).2.2 = true := congrArg (fun x => x.2.2) h
        rw [← e1]; exact kfour_tail _ e2
      · rw [if_neg h2] at h
        unfold lFin at h
        split at h
        · have := congrArg (fun x => x.2.2) h; cases this
        · have := congrArg (fun x => x.2.1) h
          simp at this
/-- A whole number's text, without a minus. -/
theorem int_law {m : List Int} {k : Int} (h : lInt m = (k, m.length, true)) : 0 < m.length ∧ 0 < dig m ∧ (m.head? = some 48 → dig m ≤ 1) ∧ ((k = 3 ∧ dig m = m.length) ∨ (k = 4 ∧ dig m < m.length)) := by
  cases m with
  | nil => have := congrArg (fun x => x.2.2) h; cases this
  | cons c r =>
    refine ⟨by simp, ?_⟩
    rw [lInt_cons] at h
    by_cases h1 : c = 48
    · subst h1
      rw [if_pos rfl] at h
      have hd : dig (48 :: r) = dig r + 1 := by rw [dig_cons]; rfl
      have hq : lDot r = (k, r.length, true) := by
        have e1 := congrArg Prod.fst h
        have e2 := congrArg (fun x => x.2.1) h
        have e3 := congrArg (fun x => x.2.2) h
        simp only [shift, List.length_cons] at e1 e2 e3
        exact Prod.ext e1 (Prod.ext (by show (lDot r).2.1 = r.length; omega) e3)
      rcases dot_kind hq with ⟨rfl, rfl⟩ | ⟨q1, q2, q3⟩
      · exact ⟨by rw [hd]; omega, fun _ => by rw [hd]; exact Nat.le_refl _, .inl ⟨rfl, by rw [hd]; rfl⟩⟩
      · refine ⟨by omega, fun _ => by omega, .inr ⟨q2, ?_⟩⟩
        have : 0 < r.length := by cases r with | nil => exact absurd rfl q1 | cons a b => simp
        rw [List.length_cons]; omega
    · rw [if_neg h1] at h
      unfold lDigs at h
      by_cases hp : 0 < dig (c :: r)
      · rw [if_pos hp] at h
        have hle := dig_le_len (c :: r)
        obtain ⟨m, hm⟩ : ∃ m, c :: r = m := ⟨_, rfl⟩
        have hh : m.head? ≠ some 48 := by rw [← hm]; intro q; exact h1 (Option.some.inj q)
        rw [hm] at h hle hp ⊢
        have hq : lDot (m.drop (dig m)) = (k, (m.drop (dig m)).length, true) := by
          have e1 := congrArg Prod.fst h
          have e2 := congrArg (fun x => x.2.1) h
          have e3 := congrArg (fun x => x.2.2) h
          simp only [shift] at e1 e2 e3
          exact Prod.ext e1 (Prod.ext (by show (lDot (m.drop (dig m))).2.1 = (m.drop (dig m)).length; rw [List.length_drop]; omega) e3)
        refine ⟨hp, fun q => absurd q hh, ?_⟩
        rcases dot_kind hq with ⟨q1, rfl⟩ | ⟨q1, q2, q3⟩
        · exact .inl ⟨rfl, by have := List.drop_eq_nil_iff.1 q1; omega⟩
        · refine .inr ⟨q2, ?_⟩
          by_cases c2 : dig m < m.length
          · exact c2
          · exact absurd (List.drop_eq_nil_iff.2 (by omega)) q1
      · rw [if_neg hp] at h
        have := congrArg (fun x => x.2.2) h; cases this
theorem num_minus {r : List Int} {k : Int} (h : lNum (45 :: r) = (k, (45 :: r).length, true)) : lInt r = (k, r.length, true) := by
  rw [lNum_cons, if_pos rfl] at h
  have e1 := congrArg Prod.fst h
  have e2 := congrArg (fun x => x.2.1) h
  have e3 := congrArg (fun x => x.2.2) h
  simp only [shift, List.length_cons] at e1 e2 e3
  exact Prod.ext e1 (Prod.ext (by show (lInt r).2.1 = r.length; omega) e3)
theorem num_plain {c : Int} {r : List Int} {k : Int} (hc : c ≠ 45) (h : lNum (c :: r) = (k, (c :: r).length, true)) : lInt (c :: r) = (k, (c :: r).length, true) := by
  rw [lNum_cons, if_neg hc] at h; exact h
/-- The sign is the minus. -/
theorem sgv_neg (l : List Int) (b : Bool) (h : sortF (sgv (rval l) b) ≠ 0) : negF (sgv (rval l) b) = b := by
  unfold sgv at h ⊢
  by_cases c : rval l = .nan
  · rw [if_pos c] at h; exact absurd nan_sort h
  · rw [if_neg c]
    have hg := val_good l c
    have hn : negF (valF (rval l)) = false := by unfold negF; rw [hg.2]; rfl
    cases b with
    | true => rw [if_pos rfl, neg_flip _ hg.1, hn]; rfl
    | false => rw [if_neg (by decide), hn]
theorem sort_ofI {n : Nat} (h : n < 9007199254740992) : 2 ≤ sortF (ofI (n : Int)) := by
  rw [ofI_nat]
  obtain ⟨k, e⟩ := read_near n h
  unfold sortF
  rw [e]
  show 2 ≤ (if n <<< k = 0 then (2 : Int) else 3)
  split <;> omega
/-- Up to 15 digits are worth a number. -/
theorem digs_sort {m : List Int} (hd : Digs m) (h0 : m ≠ []) (hl : m.length ≤ 15) (b : Bool) : 2 ≤ sortF (sgv (rval m) b) := by
  have e := worth_whole (l := m) (m := []) hd h0 (fun c hc => by cases hc)
  rw [List.append_nil, expo_nil] at e
  have ev : rval m = valOf (noZero m) 0 := by unfold rval; rw [e]; rfl
  have hsuf : (noZero m).length ≤ m.length := (List.dropWhile_suffix _).length_le
  have hdz : Digs (noZero m) := fun c hc => hd c ((List.dropWhile_suffix _).subset hc)
  have key : rval m ≠ .nan ∧ 2 ≤ sortF (valF (rval m)) := by
    rw [ev]
    by_cases hz : noZero m = []
    · rw [hz]; exact ⟨by decide, by decide +kernel⟩
    · have hv : valOf (noZero m) 0 = .fin (noZero m) 0 := by unfold valOf; rw [if_neg hz, if_neg (by omega), if_neg (by omega), if_neg (by omega)]
      rw [hv]
      refine ⟨by simp, ?_⟩
      have hlt := fold_le (noZero m) 0 hdz
      rw [Nat.zero_add, Nat.one_mul] at hlt
      have hb : valD (noZero m) < 1000000000000000 := Nat.lt_of_lt_of_le hlt (show 10 ^ (noZero m).length ≤ 10 ^ 15 from Nat.pow_le_pow_right (by decide) (by omega))
      show 2 ≤ sortF (if (0 : Int) < 0 then (F64.div (dv (noZero m)) (pw (-(0 : Int)).toNat)).getD 0 else (F64.mul (dv (noZero m)) (pw (0 : Int).toNat)).getD 0)
      rw [if_neg (by decide), dv_nat _ hdz (by omega)]
      show 2 ≤ sortF ((F64.mul (ofI (valD (noZero m) : Int)) ONEF).getD 0)
      rw [one_ofI, mul_nat (by omega) (by omega) (by omega), Option.getD_some, Nat.mul_one]
      exact sort_ofI (by omega)
  unfold sgv
  rw [if_neg key.1]
  cases b with
  | true => rw [if_pos rfl, sort_flip]; exact key.2
  | false => rw [if_neg (by decide)]; exact key.2
end Go.Proofs.YtchbmihhkjpkaaaDoor.M
