/-
  What real.Real's stages tell is what a number's text is worth.
-/
import Derived.Test.YtchbmihhkjpkaaaDoorC3a
namespace Go.Proofs.YtchbmihhkjpkaaaDoor.G
open Go.RowKit Go.Proofs.YtchbmihhkjpkaaaDoorW.PrintWords Go.Proofs.YtchbmihhkjpkaaaDoor.M
set_option linter.unusedVariables false
set_option linter.unusedSimpArgs false

theorem head_at (t : ByteArray) (n : Nat) (h : n < t.size) : (at_ t n).head? = some (bt t n) ∧ (at_ t n).tail = at_ t ((n + 1 : Nat) : Int) := by
  rw [at_cons t n (by omega) (by omega)]
  exact ⟨rfl, rfl⟩
theorem isC_one (t : ByteArray) (n : Nat) (hn : n ≤ t.size) (c : UInt8) : (isC t n [c] = true) ↔ (at_ t n).head? = some (c.toNat : Int) := by
  unfold isC
  rw [Bool.and_eq_true, decide_eq_true_eq, List.any_cons, List.any_nil, Bool.or_false, beq_iff_eq]
  by_cases h : n < t.size
  · rw [(head_at t n h).1, Option.some.injEq]
    exact ⟨fun q => q.2, fun q => ⟨h, q⟩⟩
  · rw [at_nil t n (by omega)]
    exact ⟨fun q => absurd q.1 h, fun q => by cases q⟩
theorem isC_two (t : ByteArray) (n : Nat) (hn : n ≤ t.size) (c d : UInt8) : (isC t n [c, d] = true) ↔ (at_ t n).head? = some (c.toNat : Int) ∨ (at_ t n).head? = some (d.toNat : Int) := by
  have h1 := isC_one t n hn c
  have h2 := isC_one t n hn d
  rw [← h1, ← h2]
  unfold isC
  simp only [List.any_cons, List.any_nil, Bool.or_false, Bool.and_eq_true, Bool.or_eq_true]
  constructor
  · rintro ⟨q, r | r⟩
    · exact .inl ⟨q, r⟩
    · exact .inr ⟨q, r⟩
  · rintro (⟨q, r⟩ | ⟨q, r⟩)
    · exact ⟨q, .inl r⟩
    · exact ⟨q, .inr r⟩
theorem at_full (t : ByteArray) (n : Nat) (hn : n ≤ t.size) : (n + dig (at_ t n) = t.size) ↔ ¬ dig (at_ t n) < (at_ t n).length := by
  have h1 := at_length t n (by omega) (by omega)
  have h2 := dig_le' (at_ t n)
  omega
/-- The end of the stages, where the exponent is told. -/
def endV (minus : Bool) (wl pt : List Int) (fine : Bool) : Option Int → Nat
  | none => NANF
  | some x => fin_ minus wl pt x fine
theorem stageE_eq (t : ByteArray) (minus : Bool) (wl pt : List Int) (fine down : Bool) (n : Nat) (hn : n ≤ t.size) :
    stageE t minus wl pt fine down n = endV minus wl pt fine ((expd (at_ t n)).map fun x => if down = true then - x else x) := by
  unfold stageE expd
  have hf := at_full t n hn
  by_cases h : dig (at_ t n) = 0 ∨ dig (at_ t n) < (at_ t n).length
  · rw [if_pos h]
    show fin_ _ _ _ _ _ = NANF
    unfold fin_
    rw [if_neg]
    rw [Bool.and_eq_true, Bool.and_eq_true, decide_eq_true_eq, decide_eq_true_eq]
    rintro ⟨⟨_, q1⟩, q2⟩
    rcases h with h | h
    · omega
    · exact hf.1 q2 h
  · rw [if_neg h]
    have e1 : decide (0 < dig (at_ t n)) = true := decide_eq_true (by omega)
    have e2 : decide (n + dig (at_ t n) = t.size) = true := decide_eq_true (hf.2 (fun q => h (.inr q)))
    have e3 : (at_ t n).take (dig (at_ t n)) = at_ t n := List.take_of_length_le (by have := dig_le' (at_ t n); omega)
    rw [e1, e2, e3, Bool.and_true, Bool.and_true]
    rfl
theorem stageC_eq (t : ByteArray) (minus : Bool) (wl pt : List Int) (fine : Bool) (n : Nat) (hn : n ≤ t.size) :
    stageC t minus wl pt fine n = endV minus wl pt fine (expo (at_ t n)) := by
  have h1 : isC t n [101, 69] = true ↔ (at_ t n).head? = some 101 ∨ (at_ t n).head? = some 69 := isC_two t n hn 101 69
  unfold stageC
  by_cases c : isC t n [101, 69] = true
  · have hlt := isC_lt c
    have hh := h1.1 c
    obtain ⟨q1, q2⟩ := head_at t n hlt
    rw [if_pos c]
    unfold expo stageD
    have hne : at_ t n ≠ [] := fun e => by rw [e] at q1; cases q1
    rw [if_neg hne, if_pos hh, q2]
    have h2 : isC t (n + 1) [45] = true ↔ (at_ t ((n + 1 : Nat) : Int)).head? = some 45 := isC_one t (n + 1) (by omega) 45
    have h3 : isC t (n + 1) [43] = true ↔ (at_ t ((n + 1 : Nat) : Int)).head? = some 43 := isC_one t (n + 1) (by omega) 43
    by_cases c2 : isC t (n + 1) [45] = true
    · have hlt2 := isC_lt c2
      rw [if_pos c2, if_pos (h2.1 c2), stageE_eq t _ _ _ _ _ _ (by omega), (head_at t (n + 1) hlt2).2]
      rfl
    · rw [if_neg c2, if_neg (fun e => c2 (h2.2 e))]
      by_cases c3 : isC t (n + 1) [43] = true
      · have hlt2 := isC_lt c3
        rw [if_pos (h3.1 c3), c3, stageE_eq t _ _ _ _ _ _ (by show n + 1 + 1 ≤ _; omega), (head_at t (n + 1) hlt2).2]
        show endV _ _ _ _ ((expd (at_ t ((n + 1 + 1 : Nat) : Int))).map fun x => x) = _
        simp
      · rw [if_neg (fun e => c3 (h3.2 e)), Bool.eq_false_iff.2 c3, stageE_eq t _ _ _ _ _ _ (by show n + 1 ≤ _; omega)]
        show endV _ _ _ _ ((expd (at_ t ((n + 1 : Nat) : Int))).map fun x => x) = _
        simp
  · rw [if_neg c]
    unfold expo
    by_cases h0 : n = t.size
    · rw [at_nil t n (by omega), if_pos rfl, decide_eq_true h0, Bool.and_true]; rfl
    · have hne : at_ t n ≠ [] := fun e => by have := at_length t n (by omega) (by omega); rw [e] at this; simp at this; omega
      rw [if_neg hne, if_neg (fun e => c (h1.2 e)), decide_eq_false h0, Bool.and_false]; rfl
/-- What Real tells of the text behind the minus. -/
theorem stageA_eq (t : ByteArray) (minus : Bool) : stageA t minus = sgv (rval (by_ t)) minus := by
  have h0 : at_ t ((0 : Nat) : Int) = by_ t := at_zero t
  have hdl := dig_at_le t 0 (Nat.zero_le _)
  rw [h0, Nat.zero_add] at hdl
  have hd : ∀ k : Nat, at_ t ((dig (by_ t) : Nat) : Int) = (by_ t).drop (dig (by_ t)) := fun _ => by unfold at_; rw [Int.toNat_natCast]
  have hnan : ∀ b, sgv .nan b = NANF := fun b => if_pos rfl
  have hwl : ((by_ t).take (dig (by_ t))).length = dig (by_ t) := by rw [List.length_take]; have := dig_le' (by_ t); omega
  unfold stageA stageB rval worth
  rw [hwl, ← hd 0]
  have h1 : isC t (dig (by_ t)) [46] = true ↔ (at_ t ((dig (by_ t) : Nat) : Int)).head? = some 46 := isC_one t (dig (by_ t)) hdl 46
  by_cases c : isC t (dig (by_ t)) [46] = true
  · have hlt := isC_lt c
    have hh := h1.1 c
    have ht := (head_at t (dig (by_ t)) hlt).2
    have hdl2 := dig_at_le t (dig (by_ t) + 1) (by omega)
    rw [if_pos c, stageC_eq t _ _ _ _ _ hdl2]
    have e : at_ t ((dig (by_ t) + 1 + dig (at_ t ((dig (by_ t) + 1 : Nat) : Int)) : Nat) : Int) = (at_ t ((dig (by_ t) + 1 : Nat) : Int)).drop (dig (at_ t ((dig (by_ t) + 1 : Nat) : Int))) := by
      rw [← at_add t _ _ (by omega)]; rfl
    rw [e]
    have hpl : ((at_ t ((dig (by_ t) + 1 : Nat) : Int)).take (dig (at_ t ((dig (by_ t) + 1 : Nat) : Int)))).length = dig (at_ t ((dig (by_ t) + 1 : Nat) : Int)) := by rw [List.length_take]; have := dig_le' (at_ t ((dig (by_ t) + 1 : Nat) : Int)); omega
    by_cases k0 : dig (by_ t) = 0
    · rw [if_pos k0, decide_eq_false (by omega), Bool.false_and]
      cases expo ((at_ t ((dig (by_ t) + 1 : Nat) : Int)).drop (dig (at_ t ((dig (by_ t) + 1 : Nat) : Int)))) <;> exact (hnan minus).symm
    rw [if_neg k0, if_pos hh, ht, decide_eq_true (by omega), Bool.true_and]
    by_cases k1 : dig (at_ t ((dig (by_ t) + 1 : Nat) : Int)) = 0
    · rw [if_pos k1, decide_eq_false (by omega)]
      cases expo ((at_ t ((dig (by_ t) + 1 : Nat) : Int)).drop (dig (at_ t ((dig (by_ t) + 1 : Nat) : Int)))) <;> exact (hnan minus).symm
    rw [if_neg k1, decide_eq_true (by omega)]
    cases expo ((at_ t ((dig (by_ t) + 1 : Nat) : Int)).drop (dig (at_ t ((dig (by_ t) + 1 : Nat) : Int)))) with
    | none => exact (hnan minus).symm
    | some x =>
      show fin_ minus _ _ x true = _
      unfold fin_
      rw [if_pos rfl, hpl]; rfl
  · rw [if_neg c, stageC_eq t _ _ _ _ _ hdl]
    by_cases k0 : dig (by_ t) = 0
    · rw [if_pos k0, decide_eq_false (by omega)]
      cases expo (at_ t ((dig (by_ t) : Nat) : Int)) <;> exact (hnan minus).symm
    rw [if_neg k0, if_neg (fun e => c (h1.2 e)), decide_eq_true (by omega)]
    cases expo (at_ t ((dig (by_ t) : Nat) : Int)) with
    | none => exact (hnan minus).symm
    | some x =>
      show fin_ minus _ [] x true = _
      unfold fin_
      rw [if_pos rfl, List.append_nil]
      show sgv (Go.Proofs.YtchbmihhkjpkaaaDoor.M.valOf _ (x - 0)) minus = _
      rw [Int.sub_zero]; rfl
end Go.Proofs.YtchbmihhkjpkaaaDoor.G
