/-
  The law KindAll, over what its text computes. (Filled with STEM=J; made of lines of PB, PB3, PB4.)
-/
import Derived.Test.YthbphgchnloipaaDoorJ2
import Derived.Test.YthbphgchnloipaaDoorJ1
namespace Go.Proofs.YthbphgchnloipaaDoor.G
open Go.RowKit Go.Proofs.YthbphgchnloipaaDoor.J Go.Proofs.YthbphgchnloipaaDoorW.PrintWords Go.Proofs.YthbphgchnloipaaDoorW.PrintLast Go.Proofs.YthbphgchnloipaaDoor.M
set_option linter.unusedVariables false
set_option linter.unusedSimpArgs false

theorem up_of {α : Type} {f : Nat → Option α} (hm : ∀ k, LeO (f k) (f (k + 1))) {n : Nat} {r : α} (h : f n = some r) : ∀ k, n ≤ k → f k = some r := by
  intro k hk
  obtain ⟨d, rfl⟩ : ∃ d, k = n + d := ⟨k - n, by omega⟩
  clear hk
  induction d with
  | zero => exact h
  | succ d ih => exact hm _ _ ih
theorem awake10_at : copperplatelaw10_awake.f 10 = some true := by kernel_rfl
theorem awake10 (k : Nat) (h : 10 ≤ k) : copperplatelaw10_awake.f k = some true := up_of copperplatelaw10_awake.mono awake10_at k h

theorem wrap_up {i : Nat} (h : i ≤ 1000000) : wrap64 ((i : Int) + 1) = ((i + 1 : Nat) : Int) := by unfold wrap64; omega
def kAll (l : List S23) : List Int := l.map fun x => kOf x.f0 x.f1
theorem rd_get {l : List S23} {i : Nat} (h : i < l.length) : rd_T23 l (i : Int) = l[i] := by
  unfold rd_T23
  rw [Int.toNat_natCast, List.getD_eq_getElem?_getD, List.getElem?_eq_getElem h]; rfl
theorem all_l0 (l : List S23) (hl : l.length ≤ 1000) : ∀ (d i k : Nat), i + d = l.length → d < k → kind_All.l0 k (kAll (l.take i)) l (l.length : Int) (i : Int) = some (kAll l)
  | 0, i, k, h, hk => by
    obtain ⟨k, rfl⟩ : ∃ m, k = m + 1 := ⟨k - 1, by omega⟩
    simp only [kind_All.l0]
    rw [if_neg (by omega), List.take_of_length_le (by omega)]
  | d + 1, i, k, h, hk => by
    obtain ⟨k, rfl⟩ : ∃ m, k = m + 1 := ⟨k - 1, by omega⟩
    have hi : i < l.length := by omega
    have e : kAll (l.take i) ++ [kOf l[i].f0 l[i].f1] = kAll (l.take (i + 1)) := by
      unfold kAll; rw [List.take_succ_eq_append_getElem hi, List.map_append]; rfl
    have hlen : (kAll (l.take i)).length ≤ 1000 := by unfold kAll; rw [List.length_map, List.length_take]; omega
    simp only [kind_All.l0, kind_Of.f, Option.bind_some]
    rw [if_pos (by omega), if_pos (by omega), if_pos (by omega), rd_get hi, if_pos (by omega), wrap_up (by omega), e]
    exact all_l0 l hl d (i + 1) k (by omega) (by omega)
theorem all_eq (l : List S23) (hl : l.length ≤ 1000) (k : Nat) (hk : l.length < k) : kind_All.f k l = some (kAll l) := by
  have := all_l0 l hl l.length 0 k (by omega) hk
  exact this
theorem ints_l0 (l : List Int) (hl : l.length ≤ 1000) : ∀ (d i k : Nat), i + d = l.length → d < k → copperplateref10_Ints.l0 k l l (i : Int) = some true
  | 0, i, k, h, hk => by
    obtain ⟨k, rfl⟩ : ∃ m, k = m + 1 := ⟨k - 1, by omega⟩
    simp only [copperplateref10_Ints.l0]
    rw [if_neg (by omega)]
  | d + 1, i, k, h, hk => by
    obtain ⟨k, rfl⟩ : ∃ m, k = m + 1 := ⟨k - 1, by omega⟩
    simp only [copperplateref10_Ints.l0]
    rw [if_pos (by omega), if_pos (by omega), if_pos (by omega), if_pos trivial, wrap_up (by omega)]
    exact ints_l0 l hl d (i + 1) k (by omega) (by omega)
theorem ints_eq (l : List Int) (hl : l.length ≤ 1000) (k : Nat) (hk : l.length < k) : copperplateref10_Ints.f k l l = some true := by
  unfold copperplateref10_Ints.f
  rw [if_pos rfl]
  exact ints_l0 l hl l.length 0 k (by omega) hk
theorem kAll_app (a b : List S23) : kAll (a ++ b) = kAll a ++ kAll b := List.map_append
theorem kindAll_pure (a b : List S23) (n : Int) : copperplatelaw10_KindAll.f 400 a b n = some true := by
  unfold copperplatelaw10_KindAll.f
  rw [awake10 400 (by omega)]
  simp only [Option.bind_some, if_true]
  by_cases h1 : (a.length : Int) > 100
  · rw [if_pos h1]; rfl
  rw [if_neg h1]
  by_cases h2 : (b.length : Int) > 100
  · rw [decide_eq_true h2]; rfl
  rw [decide_eq_false h2]
  have la : (kAll a).length = a.length := by unfold kAll; rw [List.length_map]
  have lb : (kAll b).length = b.length := by unfold kAll; rw [List.length_map]
  have lab : (a ++ b).length = a.length + b.length := List.length_append
  have e1 := all_eq a (by omega) 399 (by omega)
  have e2 := all_eq b (by omega) 399 (by omega)
  have e3 := all_eq (a ++ b) (by omega) 399 (by omega)
  have e4 := ints_eq (kAll a ++ kAll b) (by rw [List.length_append]; omega) 399 (by rw [List.length_append]; omega)
  show copperplatelaw10_KindAll.j0 (399 + 1) a b n true false = some true
  rw [copperplatelaw10_KindAll.j0, if_neg (by decide), e1, Option.bind_some, if_pos (by rw [List.length_nil]; omega), List.nil_append, Option.bind_some, if_pos (by omega), e3, Option.bind_some, if_pos (by rw [List.length_nil]; omega), List.nil_append, Option.bind_some, e2, Option.bind_some, if_pos (by omega), kAll_app, e4, Option.bind_some, if_pos rfl, if_pos (by omega)]
  by_cases c1 : n < 0
  · rw [if_pos c1]
  rw [if_neg c1]
  by_cases c2 : n ≥ (a.length : Int)
  · rw [if_pos c2]
  obtain ⟨m, rfl⟩ : ∃ m : Nat, n = m := ⟨n.toNat, by omega⟩
  have hm : m < a.length := by omega
  rw [if_neg c2, if_pos (by omega), if_pos (by omega), if_pos (by omega), rd_get hm]
  have e : rd (kAll a) (m : Int) = kOf a[m].f0 a[m].f1 := by
    unfold rd kAll
    rw [Int.toNat_natCast, List.getD_eq_getElem?_getD, List.getElem?_map, List.getElem?_eq_getElem hm]; rfl
  rw [e]
  show some (kOf a[m].f0 a[m].f1 == kOf a[m].f0 a[m].f1) = _
  rw [beq_self_eq_true]
end Go.Proofs.YthbphgchnloipaaDoor.G
