/-
  lines: the library's cut of a text at one byte is the plain one.
-/
import Derived.Test.YthjoclmggomhoaaDoorS1
import Derived.Lib.SplitLaws
import Derived.Lib.IndexBytes
namespace Go.Proofs.YthjoclmggomhoaaDoor.M
open Go.Proofs.YthjoclmggomhoaaDoorW.PrintWords
set_option linter.unusedVariables false
set_option linter.unusedSimpArgs false

def sp8 : List UInt8 → List (List UInt8)
  | [] => [[]]
  | c :: l => if c = 10 then [] :: sp8 l else (c :: (sp8 l).headD []) :: (sp8 l).tail
theorem sp8_ne (l : List UInt8) : sp8 l ≠ [] := by
  cases l with
  | nil => simp [sp8]
  | cons c l => rw [sp8]; split <;> simp
theorem sp8_plain : ∀ {l : List UInt8}, l.count 10 = 0 → sp8 l = [l]
  | [], _ => rfl
  | c :: l, h => by
    have hc : c ≠ 10 := fun e => by subst e; simp at h
    have hl : l.count 10 = 0 := by rw [List.count_cons_of_ne (by simpa using hc)] at h; exact h
    rw [sp8, if_neg hc, sp8_plain hl]; rfl
theorem splitK_sp : ∀ l : List UInt8, Lib.splitK [10] 0 (Lib.count l [10]) l = sp8 l
  | [] => by rw [Lib.count_one]; rfl
  | b :: l => by
    have ih := splitK_sp l
    by_cases h : b = 10
    · subst h
      have hix : Lib.index (10 :: l) [10] = 0 := by rw [Lib.index]; simp [List.isPrefixOf]
      rw [Lib.count_cons_eq, show 1 + Lib.count l [10] = Lib.count l [10] + 1 by omega, Lib.splitK, hix, if_neg (by decide), sp8, if_pos rfl]
      show [] :: Lib.splitK [10] 0 (Lib.count l [10]) (List.drop (0 + 1) (10 :: l)) = _
      rw [show List.drop (0 + 1) (10 :: l) = l from rfl, ih]
    · rw [Lib.count_cons_ne b 10 l h]
      cases hk : Lib.count l [10] with
      | zero =>
        have h0 : l.count 10 = 0 := by rw [← Lib.count_one, hk]
        rw [sp8_plain (l := b :: l) (by rw [List.count_cons_of_ne (by simpa using h)]; exact h0)]; rfl
      | succ k =>
        rw [hk] at ih
        have hp : ([10] : List UInt8).isPrefixOf (b :: l) = false := by simp [List.isPrefixOf, Ne.symm h]
        have hix : Lib.index (b :: l) [10] = if Lib.index l [10] == -1 then -1 else Lib.index l [10] + 1 := by rw [Lib.index, hp]; simp
        have hm : ¬ Lib.index l [10] = -1 := fun e => by rw [Lib.count_miss e] at hk; cases hk
        have hge := Lib.index_ge l [10]
        obtain ⟨j, hj⟩ : ∃ j : Nat, Lib.index l [10] = j := ⟨(Lib.index l [10]).toNat, by omega⟩
        have hm' : (Lib.index l [10] == -1) = false := by simpa using hm
        rw [hm', hj] at hix
        have hix' : Lib.index (b :: l) [10] = ((j + 1 : Nat) : Int) := by rw [hix, if_neg (by decide)]; omega
        rw [Lib.splitK, hj, if_neg (by simp)] at ih
        rw [Lib.splitK, hix', if_neg (by simp; omega), sp8, if_neg h, ← ih]
        simp only [Int.toNat_natCast, Nat.add_zero, List.take_succ_cons, List.headD_cons, List.tail_cons, List.length_cons, List.length_nil]
        rfl
theorem count_by (c : UInt8) (l : List UInt8) : (sp8 l).map (List.map fun b : UInt8 => (b.toNat : Int)) = spl (l.map fun b => (b.toNat : Int)) := by
  induction l with
  | nil => rfl
  | cons b l ih =>
    rw [List.map_cons]
    by_cases h : b = 10
    · subst h
      rw [sp8, if_pos rfl, List.map_cons, ih]
      exact (spl_ten _).symm
    · have hb : (b.toNat : Int) ≠ 10 := fun e => h (UInt8.toNat_inj.1 (by show b.toNat = 10; omega))
      rw [sp8, if_neg h, spl_other hb, ← ih]
      cases hs : sp8 l with
      | nil => exact absurd hs (sp8_ne l)
      | cons x r => rfl
def TEN : ByteArray := ⟨#[10]⟩
/-- The library's pieces. -/
theorem pieces (s : ByteArray) : (Lib.splitB TEN 0 (Lib.countB s TEN) s).map by_ = spl (by_ s) := by
  have h1 := Lib.splitB_data TEN 0 (Lib.countB s TEN) s
  have h2 : (Lib.splitB TEN 0 (Lib.countB s TEN) s).map by_ = ((Lib.splitB TEN 0 (Lib.countB s TEN) s).map (·.data.toList)).map (List.map fun b : UInt8 => (b.toNat : Int)) := by
    rw [List.map_map]; rfl
  rw [h2, h1]
  show (Lib.splitK [10] 0 (Lib.count s.data.toList [10]) s.data.toList).map _ = _
  rw [splitK_sp, count_by 10]
  rfl
end Go.Proofs.YthjoclmggomhoaaDoor.M
