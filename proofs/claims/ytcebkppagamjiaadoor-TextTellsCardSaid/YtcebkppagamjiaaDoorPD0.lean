/-
  The laws over text, over what their texts compute: what they share. Plain Lean, no program's walk in sight.
-/
import Derived.Test.YtcebkppagamjiaaDoorQ1
import Derived.IntWalk
namespace Go.Proofs.YtcebkppagamjiaaDoor.G
open Go.RowKit Go.Proofs.YtcebkppagamjiaaDoor.Q Go.Proofs.YtcebkppagamjiaaDoorW.PrintWords Go.Proofs.YtcebkppagamjiaaDoor.M
set_option linter.unusedVariables false
set_option linter.unusedSimpArgs false

/-- A string at the head of a text. -/
def sL (l : List Int) : Bool × List Int × Nat := if l.getD 0 0 = 34 then ((strB (l.drop 1)).1, (strB (l.drop 1)).2.1, 1 + (strB (l.drop 1)).2.2) else (false, [], 0)
theorem sL_no {l : List Int} (h : (sL l).1 = false) : (sL l).2.1 = [] := by
  unfold sL at *
  split
  · rename_i q; rw [if_pos q] at h; exact strB_no _ h
  · rfl
theorem sL_quote (m : List Int) : sL (34 :: m) = ((strB m).1, (strB m).2.1, 1 + (strB m).2.2) := by
  unfold sL; rw [if_pos (show (34 :: m : List Int).getD 0 0 = 34 from rfl)]; rfl
theorem sL_done {b t : List Int} (h : Str b t) (m : List Int) : sL (34 :: (b ++ 34 :: m)) = (true, t, b.length + 2) := by
  rw [sL_quote, strB_done h]; show (true, t, 1 + (b.length + 1)) = _; rw [show 1 + (b.length + 1) = b.length + 2 by omega]
/-- A string that ends: what stands before the place, the string, and whatever behind. -/
theorem sL_tells {l : List Int} (h : (sL l).1 = true) : ∃ b m, Str b (sL l).2.1 ∧ l = 34 :: (b ++ 34 :: m) ∧ (sL l).2.2 = b.length + 2 := by
  unfold sL at *
  split at h
  · rename_i q
    rw [if_pos q]
    obtain ⟨b, m, h1, h2, h3⟩ := (strB_tells (l.drop 1).length (l.drop 1) (Nat.le_refl _)).1 h
    refine ⟨b, m, h1, ?_, ?_⟩
    · match l, q with
      | c :: k, q =>
        rw [List.getD_cons_zero] at q
        rw [q, ← h2]; rfl
    · show 1 + _ = _; rw [h3]; omega
  · cases h
theorem sL_le (l : List Int) : (sL l).1 = false → (sL l).2.2 ≤ l.length := by
  intro h
  unfold sL at *
  split
  · rename_i q
    rw [if_pos q] at h
    have := (strB_tells (l.drop 1).length (l.drop 1) (Nat.le_refl _)).2 h
    have hl : l ≠ [] := fun e => by rw [e] at q; exact absurd q (by decide)
    have := List.length_pos_iff.2 hl
    rw [List.length_drop] at *
    show 1 + _ ≤ _
    omega
  · exact Nat.zero_le _
theorem strAt_nat (s : ByteArray) (n : Nat) : strAt s n = ((sL (at_ s n)).1, (sL (at_ s n)).2.1, (n : Int) + (sL (at_ s n)).2.2) := by
  unfold strAt sL
  rw [hasB_head (by omega)]
  have e : (at_ s n).drop 1 = at_ s ((n : Int) + 1) := by rw [at_drop]; rfl
  by_cases q : (at_ s n).getD 0 0 = 34
  · rw [if_pos (decide_eq_true q), if_pos q, e]
    show (_, _, _) = (_, _, _)
    simp only [Prod.mk.injEq, true_and]
    omega
  · rw [if_neg (by simpa using q), if_neg q]
    show (_, _, _) = (_, _, _)
    simp
theorem strAt_neg {s : ByteArray} {i : Int} (h : i < 0) : strAt s i = (false, [], i) := by
  unfold strAt
  rw [if_neg (by unfold hasB; rw [decide_eq_false (by omega)]; decide)]
theorem strAt_zero (s : ByteArray) : strAt s 0 = ((sL (by_ s)).1, (sL (by_ s)).2.1, ((sL (by_ s)).2.2 : Int)) := by
  have := strAt_nat s 0
  rw [show ((0 : Nat) : Int) = 0 from rfl, at_zero, Int.zero_add] at this
  exact this
theorem escAt_zero' (s : ByteArray) : escAt s 0 = esc (by_ s) := by
  unfold escAt; rw [if_neg (by omega), at_zero]
theorem f_String {s : ByteArray} (h : s.size ≤ 1000000) (i : Int) : text_String.f s i = some (StT s i, StI s i, StB s i) := if_pos h
theorem f_Escape {s : ByteArray} (h : s.size ≤ 1000000) (i : Int) : text_Escape.f s i = some (EsT s i, EsI s i, EsB s i) := if_pos h
theorem f_Hex {s : ByteArray} (h : s.size ≤ 1000000) (i : Int) : text_Hex.f s i = some (hexN s i, hexOk s i) := if_pos h
theorem f_Next {s : ByteArray} (h : s.size ≤ 1000000) (i : Int) : utf_Next.f s i = some (nxr s i, nxn s i) := if_pos h
theorem f_May {s : ByteArray} (h : s.size ≤ 1000000) : utf_May.f s = some (mayp isc (by_ s)) := if_pos h
theorem by_ba_nums (l : List Int) (h : ∀ c ∈ l, 0 ≤ c ∧ c ≤ 255) : by_ (strOfNums l) = l := by_ba h
theorem by_ext (s : ByteArray) (l : List UInt8) (h : s.data.toList = l) : by_ s = l.map fun b => (b.toNat : Int) := by unfold by_; rw [h]
theorem awake6 : copperplatelaw06_awake.f = some true := by
  have a1 : by_ (⟨#[34, 97, 92, 110, 92, 34, 34, 98]⟩ : ByteArray) = [34, 97, 92, 110, 92, 34, 34, 98] := rfl
  have s1 : Str [97, 92, 110, 92, 34] [97, 10, 34] := by
    have i1 : It [97] [97] := It.plain 97 (by decide) (by decide) (by decide) (by decide) (by decide)
    have i2 : It [92, 110] [10] := It.esc [92, 110] (by decide) (by decide)
    have i3 : It [92, 34] [34] := It.esc [92, 34] (by decide) (by decide)
    exact .cons (b := [92, 110, 92, 34]) (x := [10, 34]) i1 (.cons (b := [92, 34]) (x := [34]) i2 (.cons (b := []) (x := []) i3 .nil))
  have r1 : strAt (⟨#[34, 97, 92, 110, 92, 34, 34, 98]⟩ : ByteArray) 0 = (true, [97, 10, 34], 7) := by
    rw [strAt_zero, a1, show ([34, 97, 92, 110, 92, 34, 34, 98] : List Int) = 34 :: ([97, 92, 110, 92, 34] ++ 34 :: [98]) from rfl, sL_done s1]; rfl
  have a2 : by_ (⟨#[48, 48, 101, 70]⟩ : ByteArray) = [48, 48, 101, 70] := rfl
  have r2 : hexAt (⟨#[48, 48, 101, 70]⟩ : ByteArray) 0 = 239 := by
    unfold hexAt; rw [if_neg (by omega), at_zero, a2]; decide
  have a3 : by_ (⟨#[92, 117, 48, 48, 101, 57]⟩ : ByteArray) = [92, 117, 48, 48, 101, 57] := rfl
  have r3 : escAt (⟨#[92, 117, 48, 48, 101, 57]⟩ : ByteArray) 0 = ([195, 169], 6) := by
    rw [escAt_zero', a3]; decide
  unfold copperplatelaw06_awake.f
  rw [f_String (by decide), f_Hex (by decide), f_Escape (by decide)]
  unfold StT StI StB hexN hexOk EsT EsI EsB
  rw [r1, r2, r3]
  simp only [Option.bind_some, Lib.toList_data]
  rfl
end Go.Proofs.YtcebkppagamjiaaDoor.G
