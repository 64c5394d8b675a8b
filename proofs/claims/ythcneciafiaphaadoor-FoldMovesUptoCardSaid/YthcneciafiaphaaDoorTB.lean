/-
  A slice of strings that came in, with the bound on what it holds (lines of the given lemmas for a bound, turned to this claim).
-/
import Derived.Test.YthcneciafiaphaaDoorRows
import Derived.Test.YthcneciafiaphaaDoorTS
namespace Go.Proofs.YthcneciafiaphaaDoor.G
open Go.RowKit Go.Proofs.YthcneciafiaphaaDoorW.PrintWords
set_option linter.unusedVariables false
set_option linter.unusedSimpArgs false

theorem bulk_part {H : Type} {d : DataW H} {l : List (DataW H)} (h : d ∈ l) : Rows.uptoBulk d ≤ Rows.uptoBulkAll l := by
  induction l with
  | nil => cases h
  | cons x r ih =>
    simp only [Rows.uptoBulkAll]
    cases List.mem_cons.1 h with
    | inl e => subst e; omega
    | inr e => have := ih e; omega
theorem bulk_elems {H : Type} (elems spare : List (DataW H)) : Rows.uptoBulkAll elems + 1 ≤ Rows.uptoBulk (.slice elems spare) := by
  simp only [Rows.uptoBulk]; omega
theorem bulk_string {H : Type} (bytes : List UInt8) : Rows.uptoBulk (DataW.lit (H := H) (.string bytes)) = bytes.length + 1 := by simp [Rows.uptoBulk]
theorem bulk_bound {H : Type} {l : List (DataW H)} (hk : Rows.uptoSmall H l = true) : Rows.uptoBulkAll l ≤ 1048576 := of_decide_eq_true hk
theorem open_strs_small {H : Type} {enc : TypeId × Value → H} {W : World} {b0 : Nat} {v : Value} {d : DataW H} {ps : List MemPlace} (hv : Value.okWide Tryd.prog W .any b0 22 v)
    (h : DataW.Trod enc Tryd.prog W 0 (fun _ => true) true 22 v d ps) : ∃ (A : Option Addr) (c : Nat) (l : List ByteArray), v = .slice A l.length c ∧ l.length ≤ c ∧ Kd.C Kd.string W A l.length l ∧ ∀ x ∈ l, x.size ≤ Rows.uptoBulk d := by
  obtain ⟨a0, len0, cap0, rfl⟩ := Go.WideShapes.okWide_slice Tryd.underlying22 hv
  obtain ⟨fuel, hf⟩ := h
  have hf' : DataW.trod enc Tryd.prog W 0 (fun _ => true) true fuel 22 [.slice a0 len0 cap0] = some (d, ps) := hf
  have hC : Tryd.prog.cellsOf 9 = 1 := by kernel_rfl
  rcases DataW.trod_slice Tryd.underlying22 hf' with ⟨hcs, _⟩ | ⟨a, len, cap, elems, rest, n, _, hcs, hd, _, hlc, hcm, hel, hE, _⟩
  · cases hcs
    exact ⟨none, 0, [], rfl, Nat.le_refl _, ⟨rfl, by decide, fun h => by cases h⟩, fun x hx => by cases hx⟩
  · simp only [List.cons.injEq, Value.slice.injEq, and_true] at hcs
    obtain ⟨rfl, rfl, rfl⟩ := hcs
    have hdd : d = .slice (elems.map (·.1)) (rest.map (·.1)) := congrArg Prod.fst hd
    have key : ∀ i, ∃ x : ByteArray, i < len0 → W.cell? (a.add i) = some (.string x) ∧ x.size ≤ Rows.uptoBulk d := by
      intro i
      by_cases hi : i < len0
      · have hx := hE i hi
        rw [hC, List.getElem?_eq_getElem (by omega)] at hx
        cases hcl : W.cells? 0 (a.add (i * 1)) 1 with
        | none => rw [hcl] at hx; cases hx
        | some cs =>
          rw [hcl] at hx
          have hs := World.cells?_some hcl
          obtain ⟨c, rfl⟩ : ∃ c, cs = [c] := by
            have h1 := hs.2.1
            match cs, h1 with
            | [c], _ => exact ⟨c, rfl⟩
          obtain ⟨x, hx2, hx3, _⟩ := DataW.trod_string Tryd.underlying9 (show DataW.trod enc Tryd.prog W 0 (fun _ => true) true n 9 [c] = some _ from hx)
          refine ⟨x, fun _ => ⟨?_, ?_⟩⟩
          · have h0 := hs.2.2 0 (by decide)
            rw [Nat.mul_one] at h0
            have e0 : (a.add i).add 0 = a.add i := by unfold Addr.add; simp
            rw [e0] at h0
            rw [h0, show ([c] : List Value)[0]? = some c from rfl]
            cases hx2; rfl
          · have hm : (DataW.lit (H := H) (.string x.data.toList)) ∈ elems.map (·.1) :=
              List.mem_map.2 ⟨elems[i], List.getElem_mem _, by rw [hx3]⟩
            have b1 := bulk_part hm
            have b2 := bulk_elems (elems.map (·.1)) (rest.map (·.1))
            rw [bulk_string] at b1
            rw [hdd]
            have e : x.data.toList.length = x.size := by simp
            omega
      · exact ⟨⟨#[]⟩, fun h => absurd h hi⟩
    obtain ⟨f, hf2⟩ := Classical.axiomOfChoice key
    have hlen : ((List.range len0).map f).length = len0 := by simp
    refine ⟨some a, cap0, (List.range len0).map f, by rw [hlen], by rw [hlen]; exact hlc, ⟨rfl, by rw [hlen]; unfold maxLen at hcm; omega, fun _ => ⟨a, rfl, fun j p hp => ?_⟩⟩, ?_⟩
    · have hj : j < len0 := by have := (List.getElem?_eq_some_iff.1 hp).1; rw [hlen] at this; exact this
      have hpe : p = f j := by
        rw [List.getElem?_map, List.getElem?_range hj] at hp
        exact (Option.some.inj hp).symm
      subst hpe
      refine ⟨[.string (f j)], rfl, rfl, fun i u hu => ?_⟩
      cases i with
      | zero =>
        cases hu
        have := (hf2 j hj).1
        have e0 : a.add (j * 1 + 0) = a.add j := by rw [Nat.mul_one, Nat.add_zero]
        first
          | exact (congrArg W.cell? e0).trans this
          | exact this
      | succ i => cases hu
    · intro x hx
      obtain ⟨j, hj, rfl⟩ := List.mem_map.1 hx
      exact (hf2 j (List.mem_range.1 hj)).2
end Go.Proofs.YthcneciafiaphaaDoor.G
