/-
  kind: 'Of' and 'Text', as the laws' texts call them.
-/
import Derived.Test.YtjgpmfjkcioinaaDoorPKKB1
namespace Go.Proofs.YtjgpmfjkcioinaaDoor.G
open Go.RowKit Go.Shelf Go.Proofs.YtjgpmfjkcioinaaDoorW.PrintWords Go.Proofs.YtjgpmfjkcioinaaDoor.M
set_option linter.unusedVariables false
set_option linter.unusedSimpArgs false
set_option maxHeartbeats 1600000 in
theorem of_any (k : Int) (s : ByteArray) (a b : Int) (w : World) (hL : KW w) :
    Calls Tryd.prog 20 #[.agg #[.int .i64 k, .string s, .int .i64 a, .int .i64 b]] w fun e w' => e = .returned (.int .i64 (kOf k s)) ∧ Below w.heap.size w w' := by
  have hC := fun (so : Int) => find_any so s _ (hL.low ((Below.refl _ w).alloc (Nat.le_refl _) (.cells #[.int .i64 k, .string s, .int .i64 a, .int .i64 b] 28)))
  obtain ⟨f0, hf0⟩ : ∃ x, kFind 0 s = x := ⟨_, rfl⟩
  obtain ⟨f1, hf1⟩ : ∃ x, kFind 1 s = x := ⟨_, rfl⟩
  have hC0 := hC 0
  have hC1 := hC 1
  rw [hf0] at hC0
  rw [hf1] at hC1
  have hO : kOf k s = if k = 1 then f0 else if k = 2 then (if f1 = 0 then 18 else f1) else if k = 3 then 15 else if k = 4 then 16 else if k = 5 then 17 else 0 := by unfold kOf; rw [hf0, hf1]
  have HO := Lib.hid hO
  clear hO hf0 hf1 hC hL
  by_cases h1 : k = 1
  · subst h1
    rw [HO.out, if_pos rfl]
    go_enter Tryd.func20, Tryd.ntmps20
    go_wp2_with (go_at_call 44; refine hC0.mono ?_; rintro e w' ⟨rfl, hb⟩)
    go_ret
    exact ⟨rfl, ((Below.refl _ w).alloc (Nat.le_refl _) _).trans (hb.mono (by simp))⟩
  by_cases h2 : k = 2
  · subst h2
    rw [HO.out, if_neg (by omega), if_pos rfl]
    by_cases h0 : f1 = 0
    · subst h0
      rw [if_pos rfl]
      go_enter Tryd.func20, Tryd.ntmps20
      go_wp2_with (go_at_call 44; refine hC1.mono ?_; rintro e w' ⟨rfl, hb⟩)
      go_ret
      exact ⟨rfl, ((Below.refl _ w).alloc (Nat.le_refl _) _).trans (hb.mono (by simp))⟩
    · rw [if_neg h0]
      have hb0 : (f1 != 0) = true := by simpa using h0
      have hb1 : (f1 == 0) = false := by simpa using h0
      clear h0
      go_enter Tryd.func20, Tryd.ntmps20
      go_wp2_with (go_at_call 44; refine hC1.mono ?_; rintro e w' ⟨rfl, hb⟩)
      go_ret
      exact ⟨rfl, ((Below.refl _ w).alloc (Nat.le_refl _) _).trans (hb.mono (by simp))⟩
  have e1 : (k == 1) = false := by simpa using h1
  have e2 : (k == 2) = false := by simpa using h2
  rw [HO.out, if_neg h1, if_neg h2]
  clear h1 h2 hC0 hC1
  by_cases h3 : k = 3
  · subst h3
    rw [if_pos rfl]
    go_enter Tryd.func20, Tryd.ntmps20
    go_wp2
    go_ret
    exact ⟨rfl, (Below.refl _ w).alloc (Nat.le_refl _) _⟩
  have e3 : (k == 3) = false := by simpa using h3
  rw [if_neg h3]
  clear h3
  by_cases h4 : k = 4
  · subst h4
    rw [if_pos rfl]
    go_enter Tryd.func20, Tryd.ntmps20
    go_wp2
    go_ret
    exact ⟨rfl, (Below.refl _ w).alloc (Nat.le_refl _) _⟩
  have e4 : (k == 4) = false := by simpa using h4
  rw [if_neg h4]
  clear h4
  by_cases h5 : k = 5
  · subst h5
    rw [if_pos rfl]
    go_enter Tryd.func20, Tryd.ntmps20
    go_wp2
    go_ret
    exact ⟨rfl, (Below.refl _ w).alloc (Nat.le_refl _) _⟩
  · have e5 : (k == 5) = false := by simpa using h5
    rw [if_neg h5]
    clear h5
    go_enter Tryd.func20, Tryd.ntmps20
    go_wp2
    go_ret
    exact ⟨rfl, (Below.refl _ w).alloc (Nat.le_refl _) _⟩
set_option maxHeartbeats 800000 in
theorem text_any (te : Int) (w : World) (hL : KW w) :
    Calls Tryd.prog 19 #[.int .i64 te] w fun e w' => e = .returned (.tuple #[.string (kText te), .bool (kHas te)]) ∧ Below w.heap.size w w' := by
  by_cases h0 : 0 ≤ te
  · by_cases h1 : te < 31
    · obtain ⟨n, rfl⟩ : ∃ n : Nat, te = n := ⟨te.toNat, by omega⟩
      have hc := hL.tx n (by omega)
      obtain ⟨x, hx⟩ : ∃ x, kTexts.getD n ⟨#[]⟩ = x := ⟨_, rfl⟩
      have hH : kHas n = !x.toList.isEmpty := by unfold kHas; rw [Int.toNat_natCast, hx, decide_eq_true ⟨h0, h1⟩, Bool.true_and]
      have hT : kText n = if (!x.toList.isEmpty) = true then x else ⟨#[]⟩ := by unfold kText; rw [hH, Int.toNat_natCast, hx]
      rw [hx] at hc
      rw [hT, hH]
      clear hT hH hx hL
      cases he : x.toList.isEmpty with
      | true =>
        go_enter Tryd.func19, Tryd.ntmps19
        go_wp2
        go_ret2
        exact ⟨rfl, Below.refl _ _⟩
      | false =>
        go_enter Tryd.func19, Tryd.ntmps19
        go_wp2
        go_ret2
        exact ⟨rfl, Below.refl _ _⟩
    · have hH : kHas te = false := by unfold kHas; rw [decide_eq_false (by omega)]; rfl
      have hT : kText te = ⟨#[]⟩ := by unfold kText; rw [hH]; rfl
      rw [hT, hH]
      clear hT hH hL
      go_enter Tryd.func19, Tryd.ntmps19
      go_wp2
      go_ret2
      exact ⟨rfl, Below.refl _ _⟩
  · have hH : kHas te = false := by unfold kHas; rw [decide_eq_false (by omega)]; rfl
    have hT : kText te = ⟨#[]⟩ := by unfold kText; rw [hH]; rfl
    rw [hT, hH]
    clear hT hH hL
    go_enter Tryd.func19, Tryd.ntmps19
    go_wp2
    go_ret2
    exact ⟨rfl, Below.refl _ _⟩
end Go.Proofs.YtjgpmfjkcioinaaDoor.G
