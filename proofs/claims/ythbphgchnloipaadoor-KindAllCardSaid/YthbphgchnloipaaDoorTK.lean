/-
  A slice of tokens that came in: what it reads as.
-/
import Derived.ChangeArms
import Derived.WideShapes
import Derived.ChangeSlices
import Derived.Lib.SmallJoins
import Derived.Test.YthbphgchnloipaaDoorJ0
namespace Go.Proofs.YthbphgchnloipaaDoor.G
open Go.RowKit Go.Proofs.YthbphgchnloipaaDoor.J Go.Proofs.YthbphgchnloipaaDoorW.PrintWords Go.Proofs.YthbphgchnloipaaDoorW.PrintLast
set_option linter.unusedVariables false
set_option linter.unusedSimpArgs false

theorem add_add_ (a : Addr) (i j : Nat) : (a.add i).add j = a.add (i + j) := by
  unfold Addr.add
  by_cases hi : i = 0 <;> by_cases hj : j = 0 <;> simp [*, Nat.add_assoc]
theorem four_of {H : Type} {enc : TypeId × Value → H} {W : World} {b : Nat} {sp : Nat → Bool} {held : Bool} {n : Nat} {cs : List Value} {y : DataW H × List MemPlace} (hl : cs.length = 4)
    (h : DataW.trod enc Tryd.prog W b sp held n 23 cs = some y) : ∃ x : S23, cs = [.int .i64 x.f0, .string x.f1, .int .i64 x.f2, .int .i64 x.f3] := by
  obtain ⟨c0, c1, c2, c3, rfl⟩ : ∃ c0 c1 c2 c3, cs = [c0, c1, c2, c3] := by
    match cs, hl with
    | [a, b, c, d], _ => exact ⟨a, b, c, d, rfl⟩
  obtain ⟨y0, y1, y2, y3, m, hx, _, h0, h1, h2, h3⟩ := Joins.trod_struct4 Tryd.underlying23 h
  have h0' : DataW.trod enc Tryd.prog W b sp held m 3 [c0] = some y0 := by
    have e : Tryd.prog.cellsOf 3 = 1 := by kernel_rfl
    simpa [e] using h0
  have h1' : DataW.trod enc Tryd.prog W b sp held m 9 [c1] = some y1 := by
    have e : Tryd.prog.cellsOf 9 = 1 := by kernel_rfl
    simpa [e] using h1
  have h2' : DataW.trod enc Tryd.prog W b sp held m 3 [c2] = some y2 := by
    have e : Tryd.prog.cellsOf 3 = 1 := by kernel_rfl
    simpa [e] using h2
  have h3' : DataW.trod enc Tryd.prog W b sp held m 3 [c3] = some y3 := by
    have e : Tryd.prog.cellsOf 3 = 1 := by kernel_rfl
    simpa [e] using h3
  obtain ⟨x0, e0, _⟩ := DataW.trod_int Tryd.underlying3 h0'
  obtain ⟨x1, e1, _⟩ := DataW.trod_string Tryd.underlying9 h1'
  obtain ⟨x2, e2, _⟩ := DataW.trod_int Tryd.underlying3 h2'
  obtain ⟨x3, e3, _⟩ := DataW.trod_int Tryd.underlying3 h3'
  cases e0; cases e1; cases e2; cases e3
  exact ⟨⟨x0, x1, x2, x3⟩, rfl⟩
theorem open_toks {H : Type} {enc : TypeId × Value → H} {W : World} {b0 : Nat} {v : Value} {d : DataW H} {ps : List MemPlace} (hv : Value.okWide Tryd.prog W .any b0 24 v)
    (h : DataW.Trod enc Tryd.prog W 0 (fun _ => true) true 24 v d ps) : ∃ (A : Option Addr) (c : Nat) (l : List S23), v = .slice A l.length c ∧ l.length ≤ c ∧ Kd.C k23 W A l.length l := by
  obtain ⟨a0, len0, cap0, rfl⟩ := Go.WideShapes.okWide_slice Tryd.underlying24 hv
  obtain ⟨fuel, hf⟩ := h
  have hf' : DataW.trod enc Tryd.prog W 0 (fun _ => true) true fuel 24 [.slice a0 len0 cap0] = some (d, ps) := hf
  have hC : Tryd.prog.cellsOf 23 = 4 := by kernel_rfl
  rcases DataW.trod_slice Tryd.underlying24 hf' with ⟨hcs, _⟩ | ⟨a, len, cap, elems, rest, n, _, hcs, _, _, hlc, hcm, hel, hE, _⟩
  · cases hcs
    exact ⟨none, 0, [], rfl, Nat.le_refl _, rfl, by decide, fun h => by cases h⟩
  · simp only [List.cons.injEq, Value.slice.injEq, and_true] at hcs
    obtain ⟨rfl, rfl, rfl⟩ := hcs
    have key : ∀ i, ∃ x : S23, i < len0 → ∀ j u, ([.int .i64 x.f0, .string x.f1, .int .i64 x.f2, .int .i64 x.f3] : List Value)[j]? = some u → W.cell? (a.add (i * 4 + j)) = some u := by
      intro i
      by_cases hi : i < len0
      · have hx := hE i hi
        rw [hC, List.getElem?_eq_getElem (by omega)] at hx
        cases hcl : W.cells? 0 (a.add (i * 4)) 4 with
        | none => rw [hcl] at hx; cases hx
        | some cs =>
          rw [hcl] at hx
          have hs := World.cells?_some hcl
          obtain ⟨x, hx2⟩ := four_of (hs.2.1) (show DataW.trod enc Tryd.prog W 0 (fun _ => true) true n 23 cs = some _ from hx)
          refine ⟨x, fun _ j u hj => ?_⟩
          rw [← hx2] at hj
          have hj4 : j < 4 := by have := (List.getElem?_eq_some_iff.1 hj).1; have := hs.2.1; omega
          rw [← add_add_, hs.2.2 j hj4, hj]
      · exact ⟨⟨0, ⟨#[]⟩, 0, 0⟩, fun h => absurd h hi⟩
    obtain ⟨f, hf2⟩ := Classical.axiomOfChoice key
    have hlen : ((List.range len0).map f).length = len0 := by simp
    refine ⟨some a, cap0, (List.range len0).map f, by rw [hlen], by rw [hlen]; exact hlc, rfl, by rw [hlen]; unfold maxLen at hcm; omega, fun _ => ⟨a, rfl, fun j p hp => ?_⟩⟩
    have hj : j < len0 := by have := (List.getElem?_eq_some_iff.1 hp).1; rw [hlen] at this; exact this
    have hpe : p = f j := by
      rw [List.getElem?_map, List.getElem?_range hj] at hp
      exact (Option.some.inj hp).symm
    subst hpe
    exact ⟨[.int .i64 (f j).f0, .string (f j).f1, .int .i64 (f j).f2, .int .i64 (f j).f3], rfl, ⟨_, _, rfl, rfl, ⟨_, _, rfl, rfl, ⟨_, _, rfl, rfl, rfl⟩⟩⟩, fun i u hu => hf2 j hj i u hu⟩
end Go.Proofs.YthbphgchnloipaaDoor.G
