/-
  The law KindText: that what its printed text computes is true. Plain Lean.
-/
import Derived.Test.YtjgpmfjkcioinaaDoorPKJ2
import Derived.Test.YtjgpmfjkcioinaaDoorPKLXK
import Derived.Test.YtjgpmfjkcioinaaDoorPKZ2
namespace Go.Proofs.YtjgpmfjkcioinaaDoor.G
open Go.RowKit Go.Proofs.YtjgpmfjkcioinaaDoor.J Go.Proofs.YtjgpmfjkcioinaaDoorW.PrintWords Go.Proofs.YtjgpmfjkcioinaaDoorW.PrintLast Go.Proofs.YtjgpmfjkcioinaaDoor.M
set_option linter.unusedVariables false
set_option linter.unusedSimpArgs false
theorem up_of {α : Type} {f : Nat → Option α} (hm : ∀ k, LeO (f k) (f (k + 1))) {n : Nat} {r : α} (h : f n = some r) : ∀ k, n ≤ k → f k = some r := by
  intro k hk
  obtain ⟨d, rfl⟩ : ∃ d, k = n + d := ⟨k - n, by omega⟩
  clear hk
  induction d with
  | zero => exact h
  | succ d ih => exact hm _ _ ih
theorem awake10_at : copperplatelaw10_awake.f 10 = some true := by kernel_rfl
theorem awake10 (k : Nat) (h : 10 ≤ k) : copperplatelaw10_awake.f k = some true := up_of copperplatelaw10_awake.mono awake10_at k h
def isName (te : Int) : Bool := decide (18 ≤ te ∧ te < 31)
def inB (c te : Int) : Bool := if c = 0 then isName te else if c = 1 then isName te && (te != 23) else if c = 2 then decide (te = 19 ∨ te = 20 ∨ te = 21) else false
theorem in_eq (k : Nat) (c te : Int) : kind_In.f (k + 1) c te = some (inB c te) := by
  simp only [kind_In.f, kind_In.j0, inB, isName]
  by_cases h1 : te ≥ 18
  · rw [if_pos h1]
    by_cases h0 : c = 0
    · rw [if_pos h0, if_pos h0]
      congr 1; apply decide_eq_decide.2; omega
    · rw [if_neg h0, if_neg h0]
      by_cases c1 : c = 1
      · rw [if_pos c1, if_pos c1]
        by_cases h2 : te < 31
        · rw [decide_eq_true h2, if_pos rfl, decide_eq_true ⟨h1, h2⟩]; rfl
        · rw [decide_eq_false h2, if_neg (by decide), decide_eq_false (by omega)]; rfl
      · rw [if_neg c1, if_neg c1]
        by_cases c2 : c = 2
        · rw [if_pos c2, if_pos c2]
          by_cases a : te = 19
          · rw [if_pos a, decide_eq_true (.inl a)]
          · rw [if_neg a]
            by_cases b : te = 20
            · rw [if_pos b, decide_eq_true (.inr (.inl b))]
            · rw [if_neg b]
              congr 1
              rw [Bool.eq_iff_iff, beq_iff_eq, decide_eq_true_eq]; omega
        · rw [if_neg c2, if_neg c2]
  · rw [if_neg h1]
    by_cases h0 : c = 0
    · rw [if_pos h0, if_pos h0, decide_eq_false (by omega)]
    · rw [if_neg h0, if_neg h0]
      by_cases c1 : c = 1
      · rw [if_pos c1, if_pos c1, if_neg (by decide), decide_eq_false (by omega)]; rfl
      · rw [if_neg c1, if_neg c1]
        by_cases c2 : c = 2
        · rw [if_pos c2, if_pos c2]
          rw [if_neg (by omega), if_neg (by omega), decide_eq_false (by omega)]
          congr 1
          rw [beq_eq_false_iff_ne]; omega
        · rw [if_neg c2, if_neg c2]
theorem one_tok (s : ByteArray) (l : List Int) (q : LOne) (hl : by_ s = l) (hs : s.size ≤ 1000) (hm : mayp isc l = true) (h0 : bl false l = 0) (hne : l ≠ []) (h1 : lexone l = q) (h2 : q.e = 0) (h3 : q.n = l.length) : lex_LexK.f s = some ([tokK (q, 0)], 0, (s.size : Int)) := by
  have hc : Chain l 0 [(q, 0)] := by
    refine ⟨?_, List.length_pos_iff.2 hne, ?_, h2, ?_⟩
    · rw [List.drop_zero, h0]
    · rw [List.drop_zero]; exact h1.symm
    · show 0 + q.n + bl false (l.drop (0 + q.n)) = l.length
      rw [Nat.zero_add, h3, List.drop_length, bl_nil, Nat.add_zero]
  have hx := lexL_chain hc
  have hR : lexR (by_ s) = ([(q, 0)], 0, (l.length : Int)) := by rw [hl]; exact (if_pos hm).trans hx
  unfold lex_LexK.f
  rw [if_pos (by omega), hR, ← by_length, hl]; rfl
theorem lex_empty : lex_LexK.f ⟨#[]⟩ = some ([], 0, 0) := by
  have hc : Chain [] 0 [] := by show 0 + bl false (([] : List Int).drop 0) = 0; rfl
  have hx := lexL_chain hc
  have hR : lexR (by_ (⟨#[]⟩ : ByteArray)) = ([], 0, 0) := (if_pos (mayp_nil isc)).trans hx
  unfold lex_LexK.f
  rw [if_pos (by decide), hR]; rfl
def okT (te : Nat) : Bool :=
  kHas te && decide ((kTexts.getD te ⟨#[]⟩).size ≤ 1000) && mayp isc (by_ (kTexts.getD te ⟨#[]⟩)) && decide (bl false (by_ (kTexts.getD te ⟨#[]⟩)) = 0) && decide (by_ (kTexts.getD te ⟨#[]⟩) ≠ []) &&
  decide ((lexone (by_ (kTexts.getD te ⟨#[]⟩))).e = 0) && decide ((lexone (by_ (kTexts.getD te ⟨#[]⟩))).n = (by_ (kTexts.getD te ⟨#[]⟩)).length) &&
  decide (kOf (lexone (by_ (kTexts.getD te ⟨#[]⟩))).k (ba (lexone (by_ (kTexts.getD te ⟨#[]⟩))).t) = (te : Int)) && (((lexone (by_ (kTexts.getD te ⟨#[]⟩))).k == 2) == isName te)
theorem all_ok : ∀ te : Fin 31, (te.val = 0 ∨ 15 ≤ te.val ∧ te.val ≤ 18) ∨ okT te.val = true := by decide +kernel
theorem no_ok : ∀ te : Fin 31, (te.val = 0 ∨ 15 ≤ te.val ∧ te.val ≤ 18) → kHas (te.val : Int) = false := by decide +kernel
theorem kindText_no (te : Int) (hH : kHas te = false) (hr : te ≤ 0 ∨ 15 ≤ te ∧ te ≤ 18 ∨ 30 < te) : copperplatelaw10_KindText.f 11 te = some true := by
  have hT : kText te = ⟨#[]⟩ := by unfold kText; rw [hH]; rfl
  unfold copperplatelaw10_KindText.f
  rw [awake10 11 (by omega), Option.bind_some, show kind_TextK.f te = some (⟨#[]⟩, false) by unfold kind_TextK.f; rw [hT, hH], Option.bind_some]
  dsimp only
  rw [lex_empty, Option.bind_some, if_neg Bool.false_ne_true, if_pos rfl, if_pos (show (⟨#[]⟩ : ByteArray).toList = ([] : List UInt8) by decide +kernel)]
  by_cases h0 : te ≤ 0
  · rw [if_pos h0]
  · rw [if_neg h0]
    by_cases h15 : te ≥ 15
    · rw [if_pos h15]
      by_cases h18 : te ≤ 18
      · rw [if_pos h18]
      · rw [if_neg h18, decide_eq_true (by omega)]
    · rw [if_neg h15, decide_eq_true (by omega)]
theorem kindText_yes (te : Nat) (h : okT te = true) (h0 : 0 < te) (h30 : te ≤ 30) : copperplatelaw10_KindText.f 11 (te : Int) = some true := by
  unfold okT at h
  simp only [Bool.and_eq_true, decide_eq_true_eq] at h
  obtain ⟨⟨⟨⟨⟨⟨⟨⟨hH, hs⟩, hm⟩, hb⟩, hne⟩, he⟩, hn⟩, hO⟩, hI⟩ := h
  obtain ⟨s, hs0⟩ : ∃ s, kTexts.getD te ⟨#[]⟩ = s := ⟨_, rfl⟩
  have hT : kText (te : Int) = s := by unfold kText; rw [hH, if_pos rfl, Int.toNat_natCast, hs0]
  rw [hs0] at hs hm hb hne he hn hO hI
  obtain ⟨q, hq⟩ : ∃ q, lexone (by_ s) = q := ⟨_, rfl⟩
  have hx := one_tok s (by_ s) q rfl hs hm hb hne hq (by rw [← hq]; exact he) (by rw [← hq]; exact hn)
  rw [hq] at hO hI
  unfold copperplatelaw10_KindText.f
  rw [awake10 11 (by omega), Option.bind_some, show kind_TextK.f (te : Int) = some (s, true) by unfold kind_TextK.f; rw [hT, hH], Option.bind_some]
  dsimp only
  rw [hx, Option.bind_some, if_pos rfl, if_pos rfl]
  have r1 : rd_T28 [tokK (q, 0)] 0 = tokK (q, 0) := rfl
  dsimp only
  rw [r1, if_pos rfl, if_pos (by rfl), if_pos (show (0 : Int) < (([tokK (q, 0)] : List S28).length : Int) from (by show (0 : Int) < 1; decide))]
  have hOf : kind_OfK.f (tokK (q, 0)).f0 (tokK (q, 0)).f1 (tokK (q, 0)).f2 (tokK (q, 0)).f3 = some (te : Int) := by
    unfold kind_OfK.f
    exact congrArg some hO
  have hIn : kind_In.f 11 0 (te : Int) = some (isName te) := in_eq 10 0 (te : Int)
  rw [hOf, Option.bind_some, if_pos rfl, hIn, Option.bind_some, if_pos (show (((tokK (q, 0)).f0 == 2) == isName te) = true from hI), if_pos (by omega), decide_eq_true (by omega)]
theorem kindText_pure : copperplatelaw10_KindText.Pure := by
  intro a0 _
  refine ⟨11, ?_⟩
  by_cases hin : 0 ≤ a0 ∧ a0 < 31
  · obtain ⟨m, rfl⟩ : ∃ m : Nat, a0 = m := ⟨a0.toNat, by omega⟩
    have hm : m < 31 := by omega
    rcases all_ok ⟨m, hm⟩ with h | h
    · exact kindText_no _ (no_ok ⟨m, hm⟩ h) (by have : m = 0 ∨ 15 ≤ m ∧ m ≤ 18 := h; omega)
    · by_cases h0 : m = 0 ∨ 15 ≤ m ∧ m ≤ 18
      · exact kindText_no _ (no_ok ⟨m, hm⟩ h0) (by omega)
      · exact kindText_yes m h (by omega) (by omega)
  · have hH : kHas a0 = false := by unfold kHas; rw [decide_eq_false hin]; rfl
    exact kindText_no _ hH (by omega)
end Go.Proofs.YtjgpmfjkcioinaaDoor.G
