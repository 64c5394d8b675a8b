/-
  The law TextEnds, over what its text computes.
-/
import Derived.Test.YtcebkppagamjiaaDoorPD0
import Derived.Test.YtcebkppagamjiaaDoorQ1
namespace Go.Proofs.YtcebkppagamjiaaDoor.G
open Go.RowKit Go.Proofs.YtcebkppagamjiaaDoor.Q Go.Proofs.YtcebkppagamjiaaDoorW.PrintWords Go.Proofs.YtcebkppagamjiaaDoor.M
set_option linter.unusedVariables false
set_option linter.unusedSimpArgs false

theorem own_by (s : ByteArray) (n K : Nat) : by_ (s.extract n (n + K)) = (at_ s n).take K := by
  rw [by_extract]
  unfold at_
  rw [Int.toNat_natCast, List.drop_take, Nat.add_sub_cancel_left]
theorem by_lit (l : List UInt8) : by_ (⟨l.toArray⟩ : ByteArray) = l.map fun b => (b.toNat : Int) := by_mk l
theorem toList_nil : (⟨#[]⟩ : ByteArray).toList = [] := by rw [Lib.toList_data]
theorem str_open {b t : List Int} (h : Str b t) : (strB b).1 = false := by
  have := strB_str h []
  rw [List.append_nil, strB_nil] at this
  rw [this]; rfl
theorem bt_head (s : ByteArray) (c : Int) (l : List Int) (h : by_ s = c :: l) : bt s 0 = c := by
  have hs : 0 < s.size := by rw [← by_length, h]; simp
  have := bt_by s 0 hs
  rw [h] at this
  simpa using this.symm
theorem bt_last (s : ByteArray) (c : Int) (l : List Int) (h : by_ s = l ++ [c]) : bt s ((s.size : Int) - 1) = c := by
  have hs : s.size = l.length + 1 := by rw [← by_length, h]; simp
  have := bt_by s ((s.size : Int) - 1) (by omega)
  rw [h, show ((s.size : Int) - 1).toNat = l.length by omega] at this
  simpa using this.symm

theorem textEnds_pure : copperplatelaw06_TextEnds.Pure := by
  intro s i b hs hi hb
  refine ⟨2, ?_⟩
  unfold copperplatelaw06_TextEnds.f
  rw [awake6]
  simp only [Option.bind_some, if_true]
  by_cases h1 : (s.size : Int) > 300
  · rw [if_pos h1]; rfl
  by_cases h2 : (b.size : Int) > 300
  · rw [if_neg h1, decide_eq_true h2]; rfl
  rw [if_neg h1, decide_eq_false h2]
  rw [copperplatelaw06_TextEnds.j0, f_String (by omega)]
  simp only [Option.bind_some, Bool.false_eq_true, if_false]
  cases hB : StB s i with
  | false =>
    simp only [Bool.false_eq_true, if_false]
    rw [StT_no hB, toList_nil, if_pos rfl]
    by_cases he : StI s i = i
    · rw [if_pos he]
    rw [if_neg he]
    by_cases h0 : i < 0
    · exact absurd (by unfold StI; rw [strAt_neg h0]) he
    obtain ⟨n, rfl⟩ : ∃ n : Nat, i = n := ⟨i.toNat, by omega⟩
    unfold StI StB at *
    rw [strAt_nat] at *
    simp only at *
    have hle := sL_le _ hB
    by_cases hn : n ≤ s.size
    · have hl := at_length s n (by omega) (by omega)
      rw [if_pos (by omega), decide_eq_true (by omega)]
    · rw [at_nil s n (by omega)] at hle he
      exact absurd (by have : (sL []).2.2 = 0 := by rw [at_nil s n (by omega)] at hB; simpa using hle
                       omega) he
  | true =>
    simp only [if_true]
    by_cases h0 : i < 0
    · unfold StB at hB; rw [strAt_neg h0] at hB; cases hB
    obtain ⟨n, rfl⟩ : ∃ n : Nat, i = n := ⟨i.toNat, by omega⟩
    have hB' : (sL (at_ s n)).1 = true := by unfold StB at hB; rw [strAt_nat] at hB; exact hB
    obtain ⟨b', m, hS, hl, hn⟩ := sL_tells hB'
    have hne : n ≤ s.size := by
      by_cases q : n ≤ s.size
      · exact q
      · rw [at_nil s n (by omega)] at hl; cases hl
    have hlen := at_length s n (by omega) (by omega)
    rw [hl] at hlen
    simp only [List.length_cons, List.length_append] at hlen
    have hI : StI s n = ((n + (b'.length + 2) : Nat) : Int) := by
      unfold StI; rw [strAt_nat, hn]; show (n : Int) + ((b'.length + 2 : Nat) : Int) = _; omega
    have hT : StT s n = ba (sL (at_ s n)).2.1 := by unfold StT; rw [strAt_nat]
    rw [hT, hI]
    obtain ⟨t, ht⟩ : ∃ t, (sL (at_ s n)).2.1 = t := ⟨_, rfl⟩
    rw [ht] at hS ⊢
    have hw : wrap64 ((n : Int) + 2) = (n : Int) + 2 := IntWalk.wrap64_in _ (by omega)
    rw [if_neg h0, if_neg (by omega), hw, decide_eq_false (by omega), copperplatelaw06_TextEnds.j1]
    simp only [Bool.false_eq_true, if_false, Int.toNat_natCast]
    obtain ⟨own, ho⟩ : ∃ o, s.extract n (n + (b'.length + 2)) = o := ⟨_, rfl⟩
    have hob : by_ own = 34 :: (b' ++ [34]) := by
      rw [← ho, own_by, hl, show (34 :: (b' ++ 34 :: m) : List Int) = (34 :: (b' ++ [34])) ++ m by simp]
      rw [List.take_left' (by simp)]
    have hosz : own.size = b'.length + 2 := by rw [← by_length, hob]; simp
    rw [ho, if_pos (by omega), if_pos (by omega), if_pos (by omega), if_pos (by omega)]
    have hws : wrap64 ((own.size : Int) - 1) = (own.size : Int) - 1 := IntWalk.wrap64_in _ (by omega)
    have hx : (own.extract 0 ((own.size : Int) - 1).toNat) = own.extract 0 (0 + (b'.length + 1)) := by rw [show ((own.size : Int) - 1).toNat = 0 + (b'.length + 1) by omega]
    have hxb : by_ (own.extract 0 (0 + (b'.length + 1))) = 34 :: b' := by
      have := own_by own 0 (b'.length + 1)
      rw [show ((0 : Nat) : Int) = 0 from rfl, at_zero, hob] at this
      rw [this, show (34 :: (b' ++ [34]) : List Int) = (34 :: b') ++ [34] by simp, List.take_left' (by simp)]
    rw [hws, hx]
    rw [f_String (by rw [ByteArray.size_append]; omega), f_String (by rw [ByteArray.size_extract]; omega)]
    simp only [Option.bind_some]
    rw [if_pos (by omega), if_pos (by omega)]
    have r1 : strAt (own ++ b) 0 = (true, t, ((b'.length + 2 : Nat) : Int)) := by
      rw [strAt_zero, by_append, hob, show (34 :: (b' ++ [34]) : List Int) ++ by_ b = 34 :: (b' ++ 34 :: by_ b) by simp, sL_done hS]
    have r2 : (strAt (own.extract 0 (0 + (b'.length + 1))) 0).1 = false := by
      rw [strAt_zero, hxb, sL_quote]; exact str_open hS
    unfold StB StT StI
    rw [r1, r2]
    simp only [if_true, Bool.false_eq_true, if_false]
    rw [if_pos (by omega), if_pos (by omega), if_pos (bt_head own 34 _ hob), if_pos (by omega), bt_last own 34 (34 :: b') (by rw [hob]; simp)]
    rfl
end Go.Proofs.YtcebkppagamjiaaDoor.G
