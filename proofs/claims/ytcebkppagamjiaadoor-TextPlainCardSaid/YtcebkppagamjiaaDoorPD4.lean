/-
  The law TextPlain, over what its text computes.
-/
import Derived.Test.YtcebkppagamjiaaDoorPD1
import Derived.Test.YtcebkppagamjiaaDoorQ6
namespace Go.Proofs.YtcebkppagamjiaaDoor.G
open Go.RowKit Go.Proofs.YtcebkppagamjiaaDoor.Q Go.Proofs.YtcebkppagamjiaaDoorW.PrintWords Go.Proofs.YtcebkppagamjiaaDoor.M
set_option linter.unusedVariables false
set_option linter.unusedSimpArgs false

def Pl4 (c : Int) : Prop := c ≠ 34 ∧ c ≠ 92 ∧ c ≠ 10 ∧ c ≠ 13
theorem str_plain {l : List Int} (h : mayp isc l = true) (hp : ∀ c ∈ l, Pl4 c) : Str l l := by
  obtain ⟨rs, h1, h2⟩ := mayp_runes h
  rw [h2] at hp ⊢
  clear h h2
  induction rs with
  | nil => exact .nil
  | cons r rs ih =>
    rw [List.flatMap_cons] at hp ⊢
    have hr : Pl4 r := by
      by_cases q : r < 128
      · exact hp r (by rw [enc_low q]; simp)
      · unfold Pl4; omega
    exact .cons (.plain r (h1 r (by simp)) hr.2.2.1 hr.2.2.2 hr.1 hr.2.1) (ih (fun c hc => hp c (by simp only [List.mem_append]; exact .inr hc)) (fun x hx => h1 x (by simp [hx])))
theorem strB_ten (m : List Int) : strB (10 :: m) = (false, [], 0) :=
  strB_plainno (by simp) (by rw [List.getD_cons_zero]; decide) (by rw [List.getD_cons_zero]; decide) (.inr (.inl (by rw [nxp_low (by decide)]; rfl)))
theorem plain_end (a b : ByteArray) (k : Nat) (ha : a.size ≤ 300) (hb : b.size ≤ 300) (hm : mayp isc (by_ a) = true) (hp : ∀ c ∈ by_ a, Pl4 c) : copperplatelaw06_TextPlain.l0 (k + 1) a b (a.size : Int) = some true := by
  have hS := str_plain hm hp
  have e34 : by_ (⟨#[34]⟩ : ByteArray) = [34] := rfl
  have e10 : by_ (⟨#[10]⟩ : ByteArray) = [10] := rfl
  have z34 : (⟨#[34]⟩ : ByteArray).size = 1 := rfl
  have z10 : (⟨#[10]⟩ : ByteArray).size = 1 := rfl
  have r1 : strAt ((((⟨#[34]⟩ : ByteArray) ++ a) ++ (⟨#[34]⟩ : ByteArray)) ++ b) 0 = (true, by_ a, ((a.size + 2 : Nat) : Int)) := by
    rw [strAt_zero, by_append, by_append, by_append, e34, show ([34] ++ by_ a ++ [34] ++ by_ b : List Int) = 34 :: (by_ a ++ 34 :: by_ b) by simp, sL_done hS, by_length]
  have r2 : strAt ((((⟨#[34]⟩ : ByteArray) ++ a) ++ (⟨#[10]⟩ : ByteArray)) ++ b) 0 = (false, [], ((a.size + 1 : Nat) : Int)) := by
    rw [strAt_zero, by_append, by_append, by_append, e34, e10, show ([34] ++ by_ a ++ [10] ++ by_ b : List Int) = 34 :: (by_ a ++ 10 :: by_ b) by simp, sL_quote, strB_str hS, strB_ten]
    unfold sadd
    rw [by_length]
    show (false, [], ((1 + (a.size + 0) : Nat) : Int)) = _
    rw [show 1 + (a.size + 0) = a.size + 1 by omega]
  have r3 : strAt ((⟨#[34]⟩ : ByteArray) ++ a) 0 = (false, [], ((a.size + 1 : Nat) : Int)) := by
    have hx := strB_str hS []
    rw [List.append_nil, strB_nil] at hx
    rw [strAt_zero, by_append, e34, show ([34] ++ by_ a : List Int) = 34 :: by_ a by simp, sL_quote, hx]
    unfold sadd
    rw [by_length]
    show (false, [], ((1 + (a.size + 0) : Nat) : Int)) = _
    rw [show 1 + (a.size + 0) = a.size + 1 by omega]
  have s1 : ((⟨#[34]⟩ : ByteArray) ++ a).size = a.size + 1 := by rw [ByteArray.size_append, z34]; omega
  have s2 : (((⟨#[34]⟩ : ByteArray) ++ a) ++ (⟨#[34]⟩ : ByteArray)).size = a.size + 2 := by rw [ByteArray.size_append, s1, z34]
  have s3 : (((⟨#[34]⟩ : ByteArray) ++ a) ++ (⟨#[10]⟩ : ByteArray)).size = a.size + 2 := by rw [ByteArray.size_append, s1, z10]
  rw [copperplatelaw06_TextPlain.l0, if_neg (by omega), if_pos (by omega), if_pos (by omega), if_pos (by omega), f_String (by rw [ByteArray.size_append, s2]; omega)]
  simp only [Option.bind_some]
  rw [if_pos (by omega), f_String (by rw [ByteArray.size_append, s3]; omega), f_String (by omega)]
  simp only [Option.bind_some]
  have w2 : wrap64 ((a.size : Int) + 2) = ((a.size + 2 : Nat) : Int) := by rw [IntWalk.wrap64_in _ (by omega)]; rfl
  have w1 : wrap64 ((a.size : Int) + 1) = ((a.size + 1 : Nat) : Int) := by rw [IntWalk.wrap64_in _ (by omega)]; rfl
  unfold StB StT StI
  rw [r1, r2, r3, w1, w2]
  simp only [Bool.false_eq_true, if_false, if_true]
  rw [ba_by, if_pos rfl, beq_self_eq_true]
theorem plain_loop (a b : ByteArray) (ha : a.size ≤ 300) (hb : b.size ≤ 300) (hm : mayp isc (by_ a) = true) : ∀ (n m k : Nat), m + n = a.size → n < k → (∀ j : Nat, j < m → Pl4 (bt a j)) → copperplatelaw06_TextPlain.l0 k a b (m : Int) = some true
  | 0, m, k, h, hk, hp => by
    obtain ⟨k, rfl⟩ : ∃ j, k = j + 1 := ⟨k - 1, by omega⟩
    obtain rfl : m = a.size := by omega
    refine plain_end a b k ha hb hm fun c hc => ?_
    obtain ⟨j, hj, rfl⟩ := List.getElem_of_mem hc
    have hj' : j < a.size := by rw [by_length] at hj; exact hj
    have := bt_by a j (by omega)
    rw [Int.toNat_natCast, List.getElem?_eq_getElem hj] at this
    rw [Option.some.inj this]
    exact hp j hj'
  | n + 1, m, k, h, hk, hp => by
    obtain ⟨k, rfl⟩ : ∃ j, k = j + 1 := ⟨k - 1, by omega⟩
    rw [copperplatelaw06_TextPlain.l0, if_pos (by omega), if_pos (by omega)]
    by_cases c1 : bt a m = 34
    · rw [if_pos c1]
    by_cases c2 : bt a m = 92
    · rw [if_neg c1, if_pos c2]
    by_cases c3 : bt a m = 10
    · rw [if_neg c1, if_neg c2, if_pos c3]
    by_cases c4 : bt a m = 13
    · rw [if_neg c1, if_neg c2, if_neg c3, if_pos c4]
    rw [if_neg c1, if_neg c2, if_neg c3, if_neg c4]
    have w1 : wrap64 ((m : Int) + 1) = ((m + 1 : Nat) : Int) := by rw [IntWalk.wrap64_in _ (by omega)]; rfl
    rw [w1]
    refine plain_loop a b ha hb hm n (m + 1) k (by omega) (by omega) fun j hj => ?_
    by_cases q : j = m
    · subst q; exact ⟨c1, c2, c3, c4⟩
    · exact hp j (by omega)
theorem textPlain_pure : copperplatelaw06_TextPlain.Pure := by
  intro a b ha hb
  refine ⟨(a.size + 1) + 1, ?_⟩
  unfold copperplatelaw06_TextPlain.f
  rw [awake6]
  simp only [Option.bind_some, if_true]
  by_cases h1 : (a.size : Int) > 300
  · rw [if_pos h1, copperplatelaw06_TextPlain.j0, if_pos rfl]
  by_cases h2 : (b.size : Int) > 300
  · rw [if_neg h1, if_pos h2, copperplatelaw06_TextPlain.j0, if_pos rfl]
  rw [if_neg h1, if_neg h2, f_May (by omega)]
  simp only [Option.bind_some]
  rw [copperplatelaw06_TextPlain.j0]
  cases hm : mayp isc (by_ a) with
  | false => rfl
  | true =>
    rw [if_neg (by decide)]
    exact plain_loop a b (by omega) (by omega) hm a.size 0 (a.size + 1) (by omega) (by omega) (fun j hj => by omega)
end Go.Proofs.YtcebkppagamjiaaDoor.G
