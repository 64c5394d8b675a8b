/-
  The law LinesJoins, over what its text computes. (Filled with STEM=J.)
-/
import Derived.Test.YthjoclmggomhoaaDoorGP3
import Derived.Test.YthjoclmggomhoaaDoorJ1
namespace Go.Proofs.YthjoclmggomhoaaDoor.G
open Go.RowKit Go.Proofs.YthjoclmggomhoaaDoorW.PrintWords Go.Proofs.YthjoclmggomhoaaDoor.M
set_option linter.unusedVariables false
set_option linter.unusedSimpArgs false

theorem awake21_j : J.copperplatelaw21_awake.f = some true := awake21
theorem texts_same_j (l : List ByteArray) (hl : l.length ≤ 10000000) : ∀ (r k K : Nat), k + r = l.length → r + 2 ≤ K → J.copperplateref07_Texts.l0 K l l k = some true := by
  intro r
  induction r with
  | zero =>
    intro k K h hK
    obtain ⟨j, rfl⟩ : ∃ j, K = j + 1 := ⟨K - 1, by omega⟩
    rw [J.copperplateref07_Texts.l0, if_neg (by omega)]
  | succ r ih =>
    intro k K h hK
    obtain ⟨j, rfl⟩ : ∃ j, K = j + 1 := ⟨K - 1, by omega⟩
    rw [J.copperplateref07_Texts.l0, if_pos (by omega), if_pos (by omega), if_pos (by omega), if_pos rfl, w64' (by omega) (by omega)]
    exact ih (k + 1) j (by omega) (by omega)
theorem texts_f_j (l : List ByteArray) (hl : l.length ≤ 10000000) (K : Nat) (hK : l.length + 2 ≤ K) : J.copperplateref07_Texts.f K l l = some true := by
  unfold J.copperplateref07_Texts.f
  rw [if_pos rfl]
  exact texts_same_j l hl l.length 0 K (by omega) (by omega)
theorem linesJoins_pure : J.copperplatelaw21_LinesJoins.Pure := by
  intro a b ha hb
  refine ⟨3000, ?_⟩
  unfold J.copperplatelaw21_LinesJoins.f
  rw [awake21_j]
  simp only [Option.bind_some, if_true]
  by_cases h1 : (a.size : Int) > 300
  · rw [if_pos h1, J.copperplatelaw21_LinesJoins.j0, if_pos rfl]
  rw [if_neg h1, J.copperplatelaw21_LinesJoins.j0]
  by_cases h2 : (b.size : Int) > 300
  · rw [decide_eq_true h2, if_pos rfl]
  rw [decide_eq_false h2, if_neg (by decide)]
  have z1 : (a ++ (⟨#[10]⟩ : ByteArray)).size = a.size + 1 := by rw [ByteArray.size_append]; rfl
  have z2 : (a ++ (⟨#[10]⟩ : ByteArray) ++ b).size = a.size + 1 + b.size := by rw [ByteArray.size_append, z1]
  have z3 : ((⟨#[32, 32]⟩ : ByteArray) ++ a).size = 2 + a.size := by rw [ByteArray.size_append]; rfl
  have hs : by_ (a ++ (⟨#[10]⟩ : ByteArray) ++ b) = by_ a ++ 10 :: by_ b := by rw [by_append, by_append, List.append_assoc]; rfl
  have hs2 : by_ ((⟨#[32, 32]⟩ : ByteArray) ++ a) = 32 :: 32 :: by_ a := by rw [by_append]; rfl
  have hl : lns (a ++ (⟨#[10]⟩ : ByteArray) ++ b) = lns a ++ lns b := by rw [lns_ba, hs, spl_join, List.map_append, ← lns_ba, ← lns_ba]
  have la := lns_len a
  have lb := lns_len b
  have la2 := spl_length (by_ a)
  have lb2 := spl_length (by_ b)
  rw [by_length] at la2 lb2
  have hm2 : marg (by_ a) ≤ a.size := by have := cnt_le isSp (by_ a); rw [by_length] at this; exact this
  rw [z1, if_pos (by omega), if_pos (by omega), f_Lines (by omega), Option.bind_some, f_Lines (by omega), Option.bind_some, if_pos (by rw [List.length_nil]; omega), List.nil_append, Option.bind_some, f_Lines (by omega), Option.bind_some, if_pos (by omega), hl,
    texts_f_j _ (by rw [List.length_append]; omega) _ (by rw [List.length_append]; omega), Option.bind_some, f_Widest (by omega), Option.bind_some, f_Widest (by omega), Option.bind_some]
  have tail : ∀ m : Int, m = ((max (widest (by_ a)) (widest (by_ b)) : Nat) : Int) → J.copperplatelaw21_LinesJoins.j1 2999 a b (a ++ (⟨#[10]⟩ : ByteArray) ++ b) true m = some true := by
    intro m hm
    have last : (if 2 + a.size ≤ 9223372036854775807 then ((lines_Margin.f ((⟨#[32, 32]⟩ : ByteArray) ++ a)).bind fun t137 => ((lines_Margin.f a).bind fun t138 => (some (t137 == (wrap64 (t138 + 2)))))) else (none)) = some true := by
      rw [if_pos (by omega), f_Margin (by omega), Option.bind_some, f_Margin (by omega), Option.bind_some, hs2, marg_two, w64' (by omega) (by omega)]
      simp
    have hc : lines_Clean.f (a ++ (⟨#[10]⟩ : ByteArray) ++ b) = some (clean (by_ a) && clean (by_ b)) := by rw [f_Clean (by omega), hs, clean_join]
    have hw : lines_Widest.f (a ++ (⟨#[10]⟩ : ByteArray) ++ b) = some m := by rw [f_Widest (by omega), hs, widest_join, hm]
    rw [J.copperplatelaw21_LinesJoins.j1, if_pos rfl, hc, Option.bind_some, f_Clean (by omega), Option.bind_some]
    cases clean (by_ a) with
    | true =>
      rw [if_pos rfl, f_Clean (by omega), Option.bind_some, Bool.true_and, if_pos (by simp), hw, Option.bind_some, if_pos rfl]
      exact last
    | false =>
      rw [if_neg (by decide), Bool.false_and, if_pos (by rfl), hw, Option.bind_some, if_pos rfl]
      exact last
  split
  · rw [Option.bind_some]
    exact tail _ (by omega)
  · exact tail _ (by omega)
end Go.Proofs.YthjoclmggomhoaaDoor.G
