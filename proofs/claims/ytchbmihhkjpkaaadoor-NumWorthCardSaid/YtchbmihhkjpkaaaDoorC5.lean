/-
  'real.Real': what it answers.
-/
import Derived.Test.YtchbmihhkjpkaaaDoorC3
import Derived.Test.YtchbmihhkjpkaaaDoorC4
namespace Go.Proofs.YtchbmihhkjpkaaaDoor.G
open Go.RowKit Go.Proofs.YtchbmihhkjpkaaaDoorW.PrintWords Go.Proofs.YtchbmihhkjpkaaaDoor.M
set_option linter.unusedVariables false
set_option linter.unusedSimpArgs false

theorem cut_real (l : List UInt8) : sgv (rval (by_ (⟨(Lib.trimPrefix l [45]).toArray⟩ : ByteArray))) (Lib.hasPrefix l [45]) = realF (l.map fun b => (b.toNat : Int)) := by
  rw [by_mk]
  unfold realF
  cases l with
  | nil => rfl
  | cons a r =>
    by_cases h : a = 45
    · subst h
      rw [if_pos (by rfl)]
      simp [Lib.trimPrefix, Lib.hasPrefix]
    · have h2 : ¬ ((a :: r).map fun b => (b.toNat : Int)).head? = some 45 := fun q => h (UInt8.toNat_inj.1 (by have q2 : some (a.toNat : Int) = some 45 := q; have q3 := Option.some.inj q2; have : (45 : UInt8).toNat = 45 := rfl; omega))
      rw [if_neg h2]
      have h3 : ¬ (45 : UInt8) = a := fun q => h q.symm
      have h4 : Lib.hasPrefix (a :: r) [45] = false := by simp [Lib.hasPrefix, List.isPrefixOf, h3]
      unfold Lib.trimPrefix
      rw [h4, if_neg (by decide)]
theorem trim_le (l : List UInt8) : (Lib.trimPrefix l [45]).length ≤ l.length := by
  unfold Lib.trimPrefix
  split
  · rw [List.length_drop]; omega
  · exact Nat.le_refl _
theorem real_any (s : ByteArray) (w : World) (hs : s.size ≤ 140737488351232) : Calls Tryd.prog 12 #[.string s] w fun e w' => e = .returned (.float .f64 (realF (by_ s))) ∧ Below w.heap.size w w' := by
  have hl : (⟨(Lib.trimPrefix s.data.toList [45]).toArray⟩ : ByteArray).size ≤ s.size := by
    have := trim_le s.data.toList
    have e : s.data.toList.length = s.size := by simp
    rw [e] at this
    show (Lib.trimPrefix s.data.toList [45]).toArray.size ≤ s.size
    rw [List.size_toArray]; exact this
  have := real_in s _ _ w hs hl (fun W => Tryd.strings_CutPrefix s ⟨#[45]⟩ W)
  rw [stageA_eq] at this
  have e := cut_real s.data.toList
  have e2 : sgv (rval (by_ (⟨(Lib.trimPrefix s.data.toList (⟨#[45]⟩ : ByteArray).data.toList).toArray⟩ : ByteArray))) (Lib.hasPrefix s.data.toList (⟨#[45]⟩ : ByteArray).data.toList) = realF (by_ s) := e
  rw [e2] at this
  exact this
end Go.Proofs.YtchbmihhkjpkaaaDoor.G
