/-
  A slice of strings that came in: what it reads as.
-/
import Derived.ChangeArms
import Derived.WideShapes
import Derived.ChangeSlices
import Derived.Test.YthcneciafiaphaaDoorWWords
import Derived.Test.YthcneciafiaphaaDoorBA
namespace Go.Proofs.YthcneciafiaphaaDoor.G
open Go.RowKit Go.Proofs.YthcneciafiaphaaDoorW.PrintWords
set_option linter.unusedVariables false
set_option linter.unusedSimpArgs false

theorem open_strs {H : Type} {enc : TypeId × Value → H} {W : World} {b0 : Nat} {v : Value} {d : DataW H} {ps : List MemPlace} (hv : Value.okWide Tryd.prog W .any b0 22 v)
    (h : DataW.Trod enc Tryd.prog W 0 (fun _ => true) true 22 v d ps) : ∃ (A : Option Addr) (c : Nat) (l : List ByteArray), v = .slice A l.length c ∧ l.length ≤ c ∧ Kd.C Kd.string W A l.length l := by
  obtain ⟨a0, len0, cap0, rfl⟩ := Go.WideShapes.okWide_slice Tryd.underlying22 hv
  obtain ⟨fuel, hf⟩ := h
  have hf' : DataW.trod enc Tryd.prog W 0 (fun _ => true) true fuel 22 [.slice a0 len0 cap0] = some (d, ps) := hf
  have hC : Tryd.prog.cellsOf 9 = 1 := by kernel_rfl
  rcases DataW.trod_slice Tryd.underlying22 hf' with ⟨hcs, _⟩ | ⟨a, len, cap, elems, rest, n, _, hcs, _, _, hlc, hcm, hel, hE, _⟩
  · cases hcs
    exact ⟨none, 0, [], rfl, Nat.le_refl _, rfl, by decide, fun h => by cases h⟩
  · simp only [List.cons.injEq, Value.slice.injEq, and_true] at hcs
    obtain ⟨rfl, rfl, rfl⟩ := hcs
    have key : ∀ i, ∃ x : ByteArray, i < len0 → W.cell? (a.add i) = some (.string x) := by
      intro i
      by_cases hi : i < len0
      · have hx := hE i hi
        rw [hC, List.getElem?_eq_getElem (by omega)] at hx
        cases hcl : W.cells? 0 (a.add (i * 1)) 1 with
        | none => rw [hcl] at hx; cases hx
        | some cs =>
          rw [hcl] at hx
          have hs := World.cells?_some hcl
          obtain ⟨c, rfl⟩ : ∃ c, cs = [c] := by
            have h1 := hs.2.1
            match cs, h1 with
            | [c], _ => exact ⟨c, rfl⟩
          obtain ⟨x, hx2, _⟩ := DataW.trod_string Tryd.underlying9 (show DataW.trod enc Tryd.prog W 0 (fun _ => true) true n 9 [c] = some _ from hx)
          refine ⟨x, fun _ => ?_⟩
          have h0 := hs.2.2 0 (by decide)
          rw [Nat.mul_one] at h0
          have e0 : (a.add i).add 0 = a.add i := by unfold Addr.add; simp
          rw [e0] at h0
          rw [h0, show ([c] : List Value)[0]? = some c from rfl]
          cases hx2; rfl
      · exact ⟨⟨#[]⟩, fun h => absurd h hi⟩
    obtain ⟨f, hf2⟩ := Classical.axiomOfChoice key
    have hlen : ((List.range len0).map f).length = len0 := by simp
    refine ⟨some a, cap0, (List.range len0).map f, by rw [hlen], by rw [hlen]; exact hlc, rfl, by rw [hlen]; unfold maxLen at hcm; omega, fun _ => ⟨a, rfl, fun j p hp => ?_⟩⟩
    have hj : j < len0 := by have := (List.getElem?_eq_some_iff.1 hp).1; rw [hlen] at this; exact this
    have hpe : p = f j := by
      rw [List.getElem?_map, List.getElem?_range hj] at hp
      exact (Option.some.inj hp).symm
    subst hpe
    refine ⟨[.string (f j)], rfl, rfl, fun i u hu => ?_⟩
    cases i with
    | zero =>
      cases hu
      have := hf2 j hj
      have e0 : a.add (j * 1 + 0) = a.add j := by rw [Nat.mul_one, Nat.add_zero]
      first
        | exact (congrArg W.cell? e0).trans this
        | exact this
    | succ i => cases hu
end Go.Proofs.YthcneciafiaphaaDoor.G
