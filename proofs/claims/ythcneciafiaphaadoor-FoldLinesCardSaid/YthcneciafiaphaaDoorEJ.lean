/-
  The law FoldLines, over what its text computes. (Filled with STEM=J.)
-/
import Derived.Test.YthcneciafiaphaaDoorEP0
import Derived.Test.YthcneciafiaphaaDoorJ2
namespace Go.Proofs.YthcneciafiaphaaDoor.G
open Go.RowKit Go.Proofs.YthcneciafiaphaaDoorW.PrintWords Go.Proofs.YthcneciafiaphaaDoor.M
set_option linter.unusedVariables false
set_option linter.unusedSimpArgs false

theorem awake7_j : J.copperplatelaw07_awake.f = some true := awake7
theorem texts_same_j (l : List ByteArray) (hl : l.length ≤ 10000000) : ∀ (r k K : Nat), k + r = l.length → r + 2 ≤ K → J.copperplateref07_Texts.l0 K l l k = some true := by
  intro r
  induction r with
  | zero =>
    intro k K h hK
    obtain ⟨j, rfl⟩ : ∃ j, K = j + 1 := ⟨K - 1, by omega⟩
    rw [J.copperplateref07_Texts.l0, if_neg (by omega)]
  | succ r ih =>
    intro k K h hK
    obtain ⟨j, rfl⟩ : ∃ j, K = j + 1 := ⟨K - 1, by omega⟩
    rw [J.copperplateref07_Texts.l0, if_pos (by omega), if_pos (by omega), if_pos (by omega), if_pos rfl, w64' (by omega) (by omega)]
    exact ih (k + 1) j (by omega) (by omega)
theorem texts_f_j (l : List ByteArray) (hl : l.length ≤ 10000000) (K : Nat) (hK : l.length + 2 ≤ K) : J.copperplateref07_Texts.f K l l = some true := by
  unfold J.copperplateref07_Texts.f
  rw [if_pos rfl]
  exact texts_same_j l hl l.length 0 K (by omega) (by omega)
theorem fls_ba (s : ByteArray) : fls s = (fl false (by_ s)).map ba := rfl
theorem lines_l0 (a : ByteArray) (ha : a.size ≤ 300) (m : Nat) (hm : m < (fls a).length) : ∀ (r k K : Nat), k + r = (rdOf ByteArray.empty (fls a) m).size → r + 2 ≤ K → J.copperplatelaw07_FoldLines.l0 K m (fls a) k = some true := by
  have g := fls_get a m hm
  have sh := fls_short a m hm
  obtain ⟨y, hy⟩ : ∃ y, rdOf ByteArray.empty (fls a) (m : Int) = y := ⟨_, rfl⟩
  rw [hy] at g sh ⊢
  have hmem := fl_mem false (by_ a) (by_ y) (List.mem_of_getElem? g)
  intro r
  induction r with
  | zero =>
    intro k K h hK
    obtain ⟨j, rfl⟩ : ∃ j, K = j + 1 := ⟨K - 1, by omega⟩
    rw [J.copperplatelaw07_FoldLines.l0, if_pos (by omega), if_pos (by omega), hy, if_neg (by omega)]
  | succ r ih =>
    intro k K h hK
    obtain ⟨j, rfl⟩ : ∃ j, K = j + 1 := ⟨K - 1, by omega⟩
    have hb := noEnd_iff.1 (hmem (bt y k) (List.mem_of_getElem? (bt_by y k (by omega)))).1
    rw [J.copperplatelaw07_FoldLines.l0, if_pos (by omega), if_pos (by omega), hy, if_pos (by omega), if_pos (by omega), if_neg hb.1, if_neg hb.2, w64' (by omega) (by omega)]
    exact ih (k + 1) j (by omega) (by omega)
theorem lines_main (a b : ByteArray) (n : Int) (ha : a.size ≤ 300) (hb : b.size ≤ 300) (hA : (by_ a).getLast? ≠ some 13) (hB : (by_ b).getD 0 0 ≠ 10) : J.copperplatelaw07_FoldLines.j0 3000 a b n true false = some true := by
  have z1 : (a ++ (⟨#[10]⟩ : ByteArray)).size = a.size + 1 := by rw [ByteArray.size_append]; rfl
  have z2 : (a ++ (⟨#[10]⟩ : ByteArray) ++ b).size = a.size + 1 + b.size := by rw [ByteArray.size_append, z1]
  have z3 : (a ++ (⟨#[13, 10]⟩ : ByteArray)).size = a.size + 2 := by rw [ByteArray.size_append]; rfl
  have z4 : (a ++ (⟨#[13, 10]⟩ : ByteArray) ++ b).size = a.size + 2 + b.size := by rw [ByteArray.size_append, z3]
  have z5 : (a ++ (⟨#[13]⟩ : ByteArray)).size = a.size + 1 := by rw [ByteArray.size_append]; rfl
  have z6 : (a ++ (⟨#[13]⟩ : ByteArray) ++ b).size = a.size + 1 + b.size := by rw [ByteArray.size_append, z5]
  have e1 : fls (a ++ (⟨#[10]⟩ : ByteArray) ++ b) = fls a ++ fls b := by
    rw [fls_ba, by_append, by_append, List.append_assoc, show by_ (⟨#[10]⟩ : ByteArray) ++ by_ b = 10 :: by_ b from rfl, fl_join_ten hA, List.map_append]; rfl
  have e2 : fls (a ++ (⟨#[13, 10]⟩ : ByteArray) ++ b) = fls a ++ fls b := by
    rw [fls_ba, by_append, by_append, List.append_assoc, show by_ (⟨#[13, 10]⟩ : ByteArray) ++ by_ b = 13 :: 10 :: by_ b from rfl, fl_join_crlf hA, List.map_append]; rfl
  have e3 : fls (a ++ (⟨#[13]⟩ : ByteArray) ++ b) = fls a ++ fls b := by
    rw [fls_ba, by_append, by_append, List.append_assoc, show by_ (⟨#[13]⟩ : ByteArray) ++ by_ b = 13 :: by_ b from rfl, fl_join_cr hA hB, List.map_append]; rfl
  have la := fls_length a
  have lb := fls_length b
  have lp := fl_pos false (by_ a)
  have ll := fls_len a
  have ht : ∀ K, 1000 ≤ K → J.copperplateref07_Texts.f K (fls a ++ fls b) (fls a ++ fls b) = some true := fun K hK => texts_f_j _ (by rw [List.length_append]; omega) K (by rw [List.length_append]; omega)
  rw [J.copperplatelaw07_FoldLines.j0, if_neg (by decide), f_Lines (by omega), Option.bind_some, f_Lines (by omega), Option.bind_some, if_pos (by rw [List.length_nil]; omega), List.nil_append, Option.bind_some, if_pos (by omega), Option.bind_some, z1, z3, z5,
    if_pos (by omega), if_pos (by omega), f_Lines (by omega), Option.bind_some, e1, ht _ (by omega), Option.bind_some, if_pos (by omega), if_pos (by omega), f_Lines (by omega), Option.bind_some, e2, ht _ (by omega), Option.bind_some, if_pos (by omega), f_Lines (by omega), Option.bind_some, e3, ht _ (by omega), Option.bind_some, if_pos rfl, if_pos rfl, if_pos rfl]
  have e : (((fls a).length : Int) == 0) = false := beq_eq_false_iff_ne.2 (by omega)
  rw [e, J.copperplatelaw07_FoldLines.j1, if_neg (by decide)]
  by_cases c1 : n < 0
  · rw [if_pos c1, J.copperplatelaw07_FoldLines.j2, if_pos rfl]
  rw [if_neg c1, J.copperplatelaw07_FoldLines.j2]
  by_cases c2 : n ≥ ((fls a).length : Int)
  · rw [decide_eq_true c2, if_pos rfl]
  rw [decide_eq_false c2, if_neg (by decide)]
  obtain ⟨m, rfl⟩ : ∃ m : Nat, n = m := ⟨n.toNat, by omega⟩
  have sh := fls_short a m (by omega)
  exact lines_l0 a ha m (by omega) (rdOf ByteArray.empty (fls a) m).size 0 2997 (by omega) (by omega)
theorem j0_true (K : Nat) (a b : ByteArray) (n : Int) : J.copperplatelaw07_FoldLines.j0 (K + 1) a b n true true = some true := by rw [J.copperplatelaw07_FoldLines.j0, if_pos rfl]
theorem foldLines_pure : J.copperplatelaw07_FoldLines.Pure := by
  intro a b n ha hb hn
  refine ⟨3000, ?_⟩
  unfold J.copperplatelaw07_FoldLines.f
  rw [awake7_j]
  simp only [Option.bind_some, if_true]
  by_cases h1 : (a.size : Int) > 300
  · rw [if_pos h1]; exact j0_true 2999 a b n
  rw [if_neg h1]
  by_cases h2 : (b.size : Int) > 300
  · rw [if_pos h2]; exact j0_true 2999 a b n
  rw [if_neg h2]
  have rest : (by_ b).getD 0 0 ≠ 10 → (if (a.size : Int) > 0 then (if 0 ≤ (wrap64 ((a.size : Int) - 1)) then (if (wrap64 ((a.size : Int) - 1)) < (a.size : Int) then (J.copperplatelaw07_FoldLines.j0 3000 a b n true ((bt a (wrap64 ((a.size : Int) - 1))) == 13)) else (none)) else (none)) else (J.copperplatelaw07_FoldLines.j0 3000 a b n true false)) = some true := by
    intro hB
    by_cases c : (a.size : Int) > 0
    · rw [if_pos c, w64' (by omega) (by omega), if_pos (by omega), if_pos (by omega)]
      have hl := last_by a (by omega)
      by_cases c2 : bt a ((a.size : Int) - 1) = 13
      · rw [c2]; exact j0_true 2999 a b n
      · rw [beq_eq_false_iff_ne.2 c2]
        exact lines_main a b n (by omega) (by omega) (by rw [hl]; exact fun e => c2 (Option.some.inj e)) hB
    · rw [if_neg c]
      have hn : by_ a = [] := List.eq_nil_of_length_eq_zero (by rw [by_length]; omega)
      exact lines_main a b n (by omega) (by omega) (by rw [hn]; decide) hB
  by_cases h3 : (b.size : Int) > 0
  · have hg : (by_ b).getD 0 0 = bt b 0 := by
      have := bt_by b 0 (by omega)
      rw [show (0 : Int).toNat = 0 from rfl] at this
      rw [List.getD_eq_getElem?_getD, this]; rfl
    rw [if_pos h3, if_pos (by omega)]
    by_cases h4 : bt b 0 = 10
    · rw [if_pos h4]; exact j0_true 2999 a b n
    · rw [if_neg h4]; exact rest (by rw [hg]; exact h4)
  · rw [if_neg h3]
    have hn : by_ b = [] := List.eq_nil_of_length_eq_zero (by rw [by_length]; omega)
    exact rest (by rw [hn]; decide)
end Go.Proofs.YthcneciafiaphaaDoor.G
