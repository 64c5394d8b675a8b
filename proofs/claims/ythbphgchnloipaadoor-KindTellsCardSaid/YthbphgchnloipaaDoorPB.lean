/-
  The laws KindIn, KindName over what their texts compute: plain Lean, no program's walk in sight.
-/
import Derived.Test.YthbphgchnloipaaDoorQ1
import Derived.Test.YthbphgchnloipaaDoorQ2
namespace Go.Proofs.YthbphgchnloipaaDoor.G
open Go.RowKit Go.Proofs.YthbphgchnloipaaDoor.Q Go.Proofs.YthbphgchnloipaaDoorW.PrintWords Go.Proofs.YthbphgchnloipaaDoorW.PrintLast Go.Proofs.YthbphgchnloipaaDoor.M
set_option linter.unusedVariables false
set_option linter.unusedSimpArgs false

theorem up_of {α : Type} {f : Nat → Option α} (hm : ∀ k, LeO (f k) (f (k + 1))) {n : Nat} {r : α} (h : f n = some r) : ∀ k, n ≤ k → f k = some r := by
  intro k hk
  obtain ⟨d, rfl⟩ : ∃ d, k = n + d := ⟨k - n, by omega⟩
  clear hk
  induction d with
  | zero => exact h
  | succ d ih => exact hm _ _ ih
theorem awake10_at : copperplatelaw10_awake.f 10 = some true := by kernel_rfl
theorem awake10 (k : Nat) (h : 10 ≤ k) : copperplatelaw10_awake.f k = some true := up_of copperplatelaw10_awake.mono awake10_at k h

def isName (te : Int) : Bool := decide (18 ≤ te ∧ te < 31)
def inB (c te : Int) : Bool := if c = 0 then isName te else if c = 1 then isName te && (te != 23) else if c = 2 then decide (te = 19 ∨ te = 20 ∨ te = 21) else false
theorem in_eq (k : Nat) (c te : Int) : kind_In.f (k + 1) c te = some (inB c te) := by
  simp only [kind_In.f, kind_In.j0, inB, isName]
  by_cases h1 : te ≥ 18
  · rw [if_pos h1]
    by_cases h0 : c = 0
    · rw [if_pos h0, if_pos h0]
      congr 1; apply decide_eq_decide.2; omega
    · rw [if_neg h0, if_neg h0]
      by_cases c1 : c = 1
      · rw [if_pos c1, if_pos c1]
        by_cases h2 : te < 31
        · rw [decide_eq_true h2, if_pos rfl, decide_eq_true ⟨h1, h2⟩]; rfl
        · rw [decide_eq_false h2, if_neg (by decide), decide_eq_false (by omega)]; rfl
      · rw [if_neg c1, if_neg c1]
        by_cases c2 : c = 2
        · rw [if_pos c2, if_pos c2]
          by_cases a : te = 19
          · rw [if_pos a, decide_eq_true (.inl a)]
          · rw [if_neg a]
            by_cases b : te = 20
            · rw [if_pos b, decide_eq_true (.inr (.inl b))]
            · rw [if_neg b]
              congr 1
              rw [Bool.eq_iff_iff, beq_iff_eq, decide_eq_true_eq]; omega
        · rw [if_neg c2, if_neg c2]
  · rw [if_neg h1]
    by_cases h0 : c = 0
    · rw [if_pos h0, if_pos h0, decide_eq_false (by omega)]
    · rw [if_neg h0, if_neg h0]
      by_cases c1 : c = 1
      · rw [if_pos c1, if_pos c1, if_neg (by decide), decide_eq_false (by omega)]; rfl
      · rw [if_neg c1, if_neg c1]
        by_cases c2 : c = 2
        · rw [if_pos c2, if_pos c2]
          rw [if_neg (by omega), if_neg (by omega), decide_eq_false (by omega)]
          congr 1
          rw [beq_eq_false_iff_ne]; omega
        · rw [if_neg c2, if_neg c2]

theorem idxFrom_hit {p : ByteArray → Bool} : ∀ (l : List ByteArray) (i : Nat), Lib.idxByFrom (fun _ y => p y) default l i = -1 ∧ (∀ y ∈ l, p y = false) ∨ ∃ j, Lib.idxByFrom (fun _ y => p y) default l i = ((i + j : Nat) : Int) ∧ j < l.length ∧ p (l.getD j ⟨#[]⟩) = true
  | [], i => .inl ⟨rfl, fun y hy => by cases hy⟩
  | y :: l, i => by
    simp only [Lib.idxByFrom]
    by_cases h : p y = true
    · rw [if_pos h]; exact .inr ⟨0, by simp, by simp, by simpa using h⟩
    · rw [if_neg h]
      rcases idxFrom_hit l (i + 1) with ⟨h1, h2⟩ | ⟨j, h1, h2, h3⟩
      · exact .inl ⟨h1, fun z hz => by
          rcases List.mem_cons.1 hz with rfl | hz
          · simpa using h
          · exact h2 z hz⟩
      · exact .inr ⟨j + 1, by rw [h1]; congr 1; omega, by simp; omega, by simpa using h3⟩
theorem kp_iff {s x : ByteArray} : kp s x = true ↔ x.toList = s.toList ∧ s.toList.isEmpty = false := by
  unfold kp; rw [Bool.and_eq_true, beq_iff_eq, Bool.not_eq_true']
theorem kIdx_hit (s : ByteArray) : (kIdx s = -1 ∧ ∀ y ∈ kTexts, kp s y = false) ∨ ∃ j : Nat, kIdx s = j ∧ j < 31 ∧ (kTexts.getD j ⟨#[]⟩).toList = s.toList ∧ s.toList.isEmpty = false := by
  rcases idxFrom_hit (p := kp s) kTexts 0 with h | ⟨j, h1, h2, h3⟩
  · exact .inl h
  · rw [kp_iff] at h3
    exact .inr ⟨j, by rw [Nat.zero_add] at h1; exact h1, by rw [kTexts_len] at h2; exact h2, h3.1, h3.2⟩
theorem kFind_zero (s : ByteArray) : 0 ≤ kFind 0 s ∧ kFind 0 s < 18 := by
  unfold kFind
  have := kIdx_ge s
  by_cases h : 18 ≤ kIdx s
  · rw [if_pos (.inr (by rw [decide_eq_true h]; rfl))]; omega
  · split
    · omega
    · rename_i c; simp only [not_or] at c; omega
/-- A name's terminal. -/
theorem kFind_one (s : ByteArray) : kFind 1 s = 0 ∨ ∃ j : Nat, kFind 1 s = j ∧ 19 ≤ j ∧ j < 31 ∧ (kTexts.getD j ⟨#[]⟩).toList = s.toList ∧ s.toList.isEmpty = false := by
  rcases kIdx_hit s with ⟨h, _⟩ | ⟨j, h1, h2, h3, h4⟩
  · unfold kFind; rw [if_pos (.inl (by omega))]; exact .inl rfl
  · unfold kFind
    rw [h1]
    by_cases h : 18 ≤ j
    · rw [if_neg (by rw [decide_eq_true (by omega)]; simp)]
      refine .inr ⟨j, rfl, ?_, h2, h3, h4⟩
      by_cases e : j = 18
      · subst e
        have e0 : (kTexts.getD 18 ⟨#[]⟩).toList = [] := by rw [Lib.toList_data]; rfl
        rw [e0] at h3
        rw [← h3] at h4
        cases h4
      · omega
    · rw [if_pos (.inr (by rw [decide_eq_false (by omega)]; rfl))]; exact .inl rfl
theorem no_Q : ∀ j : Nat, j < 31 → (kTexts.getD j ⟨#[]⟩).data.toList.getLast? ≠ some 81 := by decide
theorem kFind_Q (s : ByteArray) : kFind 1 (s ++ ⟨#[81]⟩) = 0 := by
  rcases kFind_one (s ++ ⟨#[81]⟩) with h | ⟨j, _, _, h2, h3, _⟩
  · exact h
  · have := no_Q j h2
    rw [← Lib.toList_data, h3, Lib.toList_data] at this
    exact absurd (by simp) this
theorem of_name (s : ByteArray) : 18 ≤ kOf 2 s ∧ kOf 2 s < 31 := by
  unfold kOf
  rw [if_neg (by decide), if_pos rfl]
  rcases kFind_one s with h | ⟨j, h, h1, h2, _⟩
  · rw [if_pos h]; omega
  · rw [h, if_neg (by omega)]; omega
theorem has_range {j : Nat} (h : j < 31) : kHas j = !(kTexts.getD j ⟨#[]⟩).toList.isEmpty := by
  unfold kHas; rw [decide_eq_true (by omega), Int.toNat_natCast]; rfl

theorem kindIn_pure (a0 : Int) : copperplatelaw10_KindIn.f 11 a0 = some true := by
  unfold copperplatelaw10_KindIn.f
  rw [awake10 11 (by omega)]
  simp only [Option.bind_some, in_eq, if_true]
  have e3 : inB 3 a0 = false := by simp [inB]
  have e4 : inB (-1) a0 = false := by simp [inB]
  rw [e3, e4]
  have e0 : inB 0 a0 = isName a0 := rfl
  have e1 : inB 1 a0 = (isName a0 && (a0 != 23)) := rfl
  have e2 : inB 2 a0 = decide (a0 = 19 ∨ a0 = 20 ∨ a0 = 21) := rfl
  rw [e0, e1, e2]
  by_cases hn : 18 ≤ a0 ∧ a0 < 31
  · have h : isName a0 = true := decide_eq_true hn
    rw [h, if_pos rfl]
    simp only [Bool.true_and, beq_self_eq_true, if_true]
    have h18 : a0 ≥ 18 := hn.1
    have h30 : decide (a0 ≤ 30) = true := decide_eq_true (by omega)
    by_cases h23 : a0 = 23
    · subst h23; rfl
    · have hb : (a0 != 23) = true := by simpa using h23
      rw [hb, h30, if_pos h18]
      simp
  · have h : isName a0 = false := decide_eq_false hn
    have ho : decide (a0 = 19 ∨ a0 = 20 ∨ a0 = 21) = false := decide_eq_false (by omega)
    rw [h, ho]
    simp only [Bool.false_and, Bool.false_eq_true, if_false, beq_self_eq_true, if_true]
    by_cases h18 : a0 ≥ 18
    · rw [if_pos h18, decide_eq_false (by omega)]; rfl
    · rw [if_neg h18]

theorem kindName_pure (s : ByteArray) (hs : s.size ≤ 140737488351232) : copperplatelaw10_KindName.f 11 s = some true := by
  unfold copperplatelaw10_KindName.f
  rw [awake10 11 (by omega)]
  simp only [Option.bind_some, if_true, copperplatelaw10_KindName.j0]
  by_cases h600 : (s.size : Int) > 600
  · rw [if_pos (decide_eq_true h600)]
  · rw [if_neg (by simp; omega)]
    have hn := of_name s
    simp only [kind_Of.f, kind_Text.f, Option.bind_some, in_eq]
    rw [if_pos (by omega)]
    have hQ : kOf 2 (s ++ ⟨#[81]⟩) = 18 := by unfold kOf; rw [if_neg (by decide), if_pos rfl, kFind_Q, if_pos rfl]
    have hi : inB 0 (kOf 2 s) = true := decide_eq_true hn
    rw [hQ, hi, if_pos rfl]
    rcases kFind_one s with h | ⟨j, h, h1, h2, h3, h4⟩
    · have e : kOf 2 s = 18 := by unfold kOf; rw [if_neg (by decide), if_pos rfl, if_pos h]
      rw [e]
      have e2 : kHas 18 = false := (has_range (j := 18) (by decide)).trans (by rw [Lib.toList_data]; rfl)
      rw [e2]; rfl
    · have e : kOf 2 s = j := by unfold kOf; rw [if_neg (by decide), if_pos rfl, h, if_neg (by omega)]
      rw [e]
      have e2 : kHas j = true := by rw [has_range h2, h3, h4]; rfl
      have e3 : kText j = kTexts.getD j ⟨#[]⟩ := by unfold kText; rw [if_pos e2, Int.toNat_natCast]
      have e4 : ((j : Int) != 18) = true := by simp; omega
      rw [e2, e4, e3, h3]; simp

theorem copperplatelaw10_KindIn.walk (a0 : Int) (w : World) (w0 : (Lit.int .i64 a0).wf = true) (hL : LW w) :
    Calls Tryd.prog 4 #[.int .i64 a0] w fun e w' => e = .returned (.bool true) ∧ Below w.heap.size w w' :=
  Q.copperplatelaw10_KindIn.calls 11 a0 true w (kindIn_pure a0) hL
theorem copperplatelaw10_KindName.walk (a0 : ByteArray) (w : World) (w0 : a0.size ≤ 140737488351232) (hL : LW w) :
    Calls Tryd.prog 5 #[.string a0] w fun e w' => e = .returned (.bool true) ∧ Below w.heap.size w w' :=
  Q.copperplatelaw10_KindName.calls 11 a0 true w (kindName_pure a0 w0) hL
end Go.Proofs.YthbphgchnloipaaDoor.G
