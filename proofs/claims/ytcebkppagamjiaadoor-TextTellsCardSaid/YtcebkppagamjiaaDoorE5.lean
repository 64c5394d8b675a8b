/-
  'text.Escape': that of what begins with a backslash.
-/
import Derived.Test.YtcebkppagamjiaaDoorE4
import Derived.OwnWalk
namespace Go.Proofs.YtcebkppagamjiaaDoor.G
open Go.RowKit Go.Proofs.YtcebkppagamjiaaDoorW.PrintWords Go.Proofs.YtcebkppagamjiaaDoor.M
set_option linter.unusedVariables false
set_option linter.unusedSimpArgs false
attribute [local irreducible] Utf8.encode Utf8.decode

/-- What 'text.Escape' tells. -/
def EsT (s : ByteArray) (i : Int) : ByteArray := ba (escAt s i).1
def EsI (s : ByteArray) (i : Int) : Int := i + (escAt s i).2
def EsB (s : ByteArray) (i : Int) : Bool := decide ((escAt s i).2 ≠ 0)
theorem escAt_zero {s : ByteArray} {i : Int} (h : (escAt s i).2 = 0) : escAt s i = ([], 0) := by
  unfold escAt at h ⊢
  split
  · rfl
  · rename_i q; rw [if_neg q] at h; exact esc_zero h
set_option maxHeartbeats 400000 in
theorem escape1_yes (a b : Nat) (s : ByteArray) (i : Int) (w : World) (hs : s.size ≤ 1000000) (hT : TE w) (c0 : w.cell? ⟨a, 0, none⟩ = some (.string s)) (c1 : w.cell? ⟨b, 0, none⟩ = some (.int .i64 i)) (h : (escAt s i).2 ≠ 0) :
    Calls Tryd.prog 38 #[.pointer (some ⟨a, 0, none⟩), .pointer (some ⟨b, 0, none⟩)] w fun e w' => e = .returned (.tuple #[.string (EsT s i), .int .i64 (EsI s i)]) ∧ Below w.heap.size w w' := by
  have hE : escE s i = .returned (.tuple #[.string (EsT s i), .int .i64 (EsI s i)]) := if_neg h
  go_enter Tryd.func38, Tryd.ntmps38
  go_wp2_with (go_at_call 36; refine (esc_any s i w hs hT).mono ?_; rw [hE]; rintro e w1 ⟨rfl, hb1⟩)
  go_ret2
  exact ⟨rfl, hb1⟩
set_option maxHeartbeats 400000 in
theorem escape1_no (a b : Nat) (s : ByteArray) (i : Int) (w : World) (hs : s.size ≤ 1000000) (hT : TE w) (c0 : w.cell? ⟨a, 0, none⟩ = some (.string s)) (c1 : w.cell? ⟨b, 0, none⟩ = some (.int .i64 i)) (h : (escAt s i).2 = 0) :
    Calls Tryd.prog 38 #[.pointer (some ⟨a, 0, none⟩), .pointer (some ⟨b, 0, none⟩)] w fun e w' => e = Wrong i ∧ Below w.heap.size w w' := by
  have hE : escE s i = Wrong i := if_pos h
  go_enter Tryd.func38, Tryd.ntmps38
  go_wp2_with (go_at_call 36; refine (esc_any s i w hs hT).mono ?_; rw [hE]; rintro e w1 ⟨rfl, hb1⟩; unfold Wrong)
  exact ⟨rfl, rfl, hb1⟩
/-- The two boxes. -/
def WB (w : World) (s : ByteArray) (i : Int) : World := (w.alloc (.cells #[.string s] 9)).alloc (.cells #[.int .i64 i] 3)
theorem WB_is (w : World) (s : ByteArray) (i : Int) : (WB w s i).cell? ⟨w.heap.size, 0, none⟩ = some (.string s) ∧ (WB w s i).cell? ⟨w.heap.size + 1, 0, none⟩ = some (.int .i64 i) ∧ Below w.heap.size w (WB w s i) ∧ (WB w s i).heap.size = w.heap.size + 2 := by
  refine ⟨?_, ?_, ?_, ?_⟩
  · unfold WB; go_simp
  · unfold WB; go_simp
  · exact ((Below.refl _ w).alloc (Nat.le_refl _) _).alloc (by simp) _
  · simp [WB]
set_option maxHeartbeats 400000 in
theorem Escape_any (s : ByteArray) (i : Int) (w : World) (hs : s.size ≤ 1000000) (hT : TE w) :
    Calls Tryd.prog 19 #[.string s, .int .i64 i] w fun e w' => e = .returned (.tuple #[.string (EsT s i), .int .i64 (EsI s i), .bool (EsB s i)]) ∧ Below w.heap.size w w' := by
  have hmf : ∀ (fn : Fn) (first cap : Array Value) (w : World), (Instr.makeFunc fn first cap).run Tryd.prog w = .ok (.func fn first cap) w := fun _ _ _ _ => rfl
  obtain ⟨k0, k1, hb0, hz⟩ := WB_is w s i
  have key : Calls Tryd.prog 32 #[.func (.func 38) #[] #[.pointer (some ⟨w.heap.size, 0, none⟩), .pointer (some ⟨w.heap.size + 1, 0, none⟩)]] (WB w s i) fun e w' => e = .returned (.tuple #[.string (EsT s i), .int .i64 (EsI s i), .bool (EsB s i)]) ∧ Below (WB w s i).heap.size (WB w s i) w' := by
    by_cases h : (escAt s i).2 = 0
    · have e0 := escAt_zero h
      have e1 : EsT s i = ⟨#[]⟩ := by unfold EsT; rw [e0]; rfl
      have e2 : EsI s i = i := by unfold EsI; rw [e0]; exact Int.add_zero i
      have e3 : EsB s i = false := by unfold EsB; rw [e0]; rfl
      rw [e1, e2, e3]
      exact tried_no_e _ _ i _ fun W hW => escape1_no w.heap.size (w.heap.size + 1) s i W hs (hT.low (hb0.trans (hW.mono (by omega)))) ((hW.cell (by show w.heap.size < _; omega)).trans k0) ((hW.cell (by show w.heap.size + 1 < _; omega)).trans k1) h
    · have e3 : EsB s i = true := decide_eq_true h
      rw [e3]
      exact tried_yes_e _ _ _ _ _ fun W hW => escape1_yes w.heap.size (w.heap.size + 1) s i W hs (hT.low (hb0.trans (hW.mono (by omega)))) ((hW.cell (by show w.heap.size < _; omega)).trans k0) ((hW.cell (by show w.heap.size + 1 < _; omega)).trans k1) h
  go_enter Tryd.func19, Tryd.ntmps19
  go_wp2_with (go_at_call 32; refine key.mono ?_; rintro e w1 ⟨rfl, hb1⟩)
  go_ret3
  exact ⟨rfl, hb0.trans (hb1.mono (by omega))⟩
end Go.Proofs.YtcebkppagamjiaaDoor.G
