/-
  'text.tried': what some way tells, or where it goes wrong.
-/
import Derived.Test.YtjgpmfjkcioinaaDoorPTE3
import Derived.Defers
import Derived.Recover
import Derived.Tactics2
import Derived.RegionTactic
import Derived.ChangeAlike
namespace Go.Proofs.YtjgpmfjkcioinaaDoor.G
open Go.RowKit Go.Proofs.YtjgpmfjkcioinaaDoorW.PrintWords Go.Proofs.YtjgpmfjkcioinaaDoor.M
set_option linter.unusedVariables false
set_option linter.unusedSimpArgs false
attribute [local irreducible] Utf8.encode Utf8.decode
theorem wrong_assert (i : Int) (w : World) : Sem.run Tryd.prog (Instr.typeAssert (.iface 94 (.int .i64 i)) 20 94 false) w = .ok (.int .i64 i) w := by
  first | kernel_rfl | rfl
set_option maxHeartbeats 1000000 in
theorem catch_yes (B : Nat) (t : ByteArray) (a i : Int) (b : Bool) (older : List PanicEntry) (w : World)
    (h0 : w.cell? ⟨B, 0, none⟩ = some (.string t)) (h1 : w.cell? ⟨B + 1, 0, none⟩ = some (.int .i64 a)) (h2 : w.cell? ⟨B + 2, 0, none⟩ = some (.bool b))
    (z0 : w.frozen? ⟨B, 0, none⟩ = false) (z1 : w.frozen? ⟨B + 1, 0, none⟩ = false) (z2 : w.frozen? ⟨B + 2, 0, none⟩ = false) :
    CallsD Tryd.prog 86 #[.pointer (some ⟨B, 0, none⟩), .pointer (some ⟨B + 1, 0, none⟩), .pointer (some ⟨B + 2, 0, none⟩)] (.panicking ({ v := .iface 94 (.int .i64 i), recovered := false } :: older)) w fun e u' w' =>
      e = .returned (.tuple #[]) ∧ u' = .panicking ({ v := .iface 94 (.int .i64 i), recovered := true } :: older) ∧
      w'.cell? ⟨B, 0, none⟩ = some (.string ⟨#[]⟩) ∧ w'.cell? ⟨B + 1, 0, none⟩ = some (.int .i64 i) ∧ w'.cell? ⟨B + 2, 0, none⟩ = some (.bool false) ∧ Below B w w' := by
  have hta := wrong_assert i
  have q0 : (w.setCell ⟨B, 0, none⟩ (.string ⟨#[]⟩)).cell? ⟨B, 0, none⟩ = some (.string ⟨#[]⟩) := World.cell?_setCell_same _ _ _ h0
  have q1 : ((w.setCell ⟨B, 0, none⟩ (.string ⟨#[]⟩)).setCell ⟨B + 1, 0, none⟩ (.int .i64 i)).cell? ⟨B + 1, 0, none⟩ = some (.int .i64 i) := World.cell?_setCell_same _ _ _ (by rw [World.cell?_setCell_other _ _ _ _ (by simp)]; exact h1)
  have q2 : (((w.setCell ⟨B, 0, none⟩ (.string ⟨#[]⟩)).setCell ⟨B + 1, 0, none⟩ (.int .i64 i)).setCell ⟨B + 2, 0, none⟩ (.bool false)).cell? ⟨B + 2, 0, none⟩ = some (.bool false) := World.cell?_setCell_same _ _ _ (by rw [World.cell?_setCell_other _ _ _ _ (by simp), World.cell?_setCell_other _ _ _ _ (by simp)]; exact h2)
  have q3 : Below B w (((w.setCell ⟨B, 0, none⟩ (.string ⟨#[]⟩)).setCell ⟨B + 1, 0, none⟩ (.int .i64 i)).setCell ⟨B + 2, 0, none⟩ (.bool false)).drew :=
    ((((Below.refl _ w).setCell (p := ⟨B, 0, none⟩) (Nat.le_refl _) _).setCell (p := ⟨B + 1, 0, none⟩) (by show B ≤ B + 1; omega) _).setCell (p := ⟨B + 2, 0, none⟩) (by show B ≤ B + 2; omega) _).drew
  refine callsD_of_wpS Tryd.func86 rfl fun c₀ cs hu => ?_
  apply wpS_seq
  apply wpS_region
  simp [wpOpsS, go_sem, recoverD, hu, Tryd.ntmps86, Exit.thenS]
  apply wpS_seq
  apply wpS_region
  simp [wpOpsS, go_sem, Exit.thenS]
  refine wpS_cond (t := true) (by simp [Act.eval, Array.replicate]) ?_
  simp only [if_true]
  refine wpS_of_wp ?_
  go_region
  all_goals simp [bodyPostS, results, Tryd.results86, go_sem]
  all_goals exact ⟨q0, q1, q2, q3⟩
set_option maxHeartbeats 400000 in
theorem catch_no (args : Array Value) (w : World) (p q r : Value) :
    CallsD Tryd.prog 86 #[p, q, r] .returning w fun e u' w' => e = .returned (.tuple #[]) ∧ u' = .returning ∧ w' = w := by
  refine callsD_of_wpS Tryd.func86 rfl fun c₀ cs hu => ?_
  apply wpS_seq
  apply wpS_region
  simp [wpOpsS, go_sem, recoverD, hu, Tryd.ntmps86, Exit.thenS]
  apply wpS_seq
  apply wpS_region
  simp [wpOpsS, go_sem, Exit.thenS]
  refine wpS_cond (t := false) (by simp [Act.eval, Array.replicate]) ?_
  simp only [Bool.false_eq_true, if_false]
  refine wpS_of_wp (wp_skip ?_)
  cases c₀
  simp_all [bodyPostS, results, Tryd.results86]
def W3 (w : World) : World := ((w.alloc (.cells #[.string ⟨#[]⟩] 9)).alloc (.cells #[.int .i64 0] 3)).alloc (.cells #[.bool false] 4)
structure Three (B : Nat) (W : World) : Prop where
  c0 : W.cell? ⟨B, 0, none⟩ = some (.string ⟨#[]⟩)
  c1 : W.cell? ⟨B + 1, 0, none⟩ = some (.int .i64 0)
  c2 : W.cell? ⟨B + 1 + 1, 0, none⟩ = some (.bool false)
  z0 : W.frozen? ⟨B, 0, none⟩ = false
  z1 : W.frozen? ⟨B + 1, 0, none⟩ = false
  z2 : W.frozen? ⟨B + 1 + 1, 0, none⟩ = false
theorem W3_is (w : World) : Three w.heap.size (W3 w) ∧ Below w.heap.size w (W3 w) ∧ (W3 w).heap.size = w.heap.size + 3 := by
  refine ⟨⟨?_, ?_, ?_, ?_, ?_, ?_⟩, ?_, ?_⟩
  · unfold W3; go_simp
  · unfold W3; go_simp
  · unfold W3; go_simp
  · unfold W3; go_simp
  · unfold W3; go_simp
  · unfold W3; go_simp
  · exact (((Below.refl _ w).alloc (Nat.le_refl _) _).alloc (by simp) _).alloc (by simp; omega) _
  · simp [W3]
theorem Three.low {B : Nat} {W W' : World} (h : Three B W) (hb : Below (B + 3) W W') : Three B W' :=
  ⟨(hb.cell (p := ⟨B, 0, none⟩) (by show B < B + 3; omega)).trans h.c0, (hb.cell (p := ⟨B + 1, 0, none⟩) (by show B + 1 < B + 3; omega)).trans h.c1, (hb.cell (p := ⟨B + 1 + 1, 0, none⟩) (by show B + 1 + 1 < B + 3; omega)).trans h.c2,
   (hb.frozen (p := ⟨B, 0, none⟩) (by show B < B + 3; omega)).trans h.z0, (hb.frozen (p := ⟨B + 1, 0, none⟩) (by show B + 1 < B + 3; omega)).trans h.z1, (hb.frozen (p := ⟨B + 1 + 1, 0, none⟩) (by show B + 1 + 1 < B + 3; omega)).trans h.z2⟩
def W5 (W1 : World) (B : Nat) (T : ByteArray) (I : Int) : World := (((((W1.setCell ⟨B, 0, none⟩ (.string T)).setCell ⟨B + 1, 0, none⟩ (.int .i64 I)).setCell ⟨B, 0, none⟩ (.string T)).setCell ⟨B + 1, 0, none⟩ (.int .i64 I)).setCell ⟨B + 1 + 1, 0, none⟩ (.bool true)).drew
theorem W5_is {W1 : World} {B : Nat} (T : ByteArray) (I : Int) {v0 v1 v2 : Value} (c0 : W1.cell? ⟨B, 0, none⟩ = some v0) (c1 : W1.cell? ⟨B + 1, 0, none⟩ = some v1) (c2 : W1.cell? ⟨B + 1 + 1, 0, none⟩ = some v2) :
    (W5 W1 B T I).cell? ⟨B, 0, none⟩ = some (.string T) ∧ (W5 W1 B T I).cell? ⟨B + 1, 0, none⟩ = some (.int .i64 I) ∧ (W5 W1 B T I).cell? ⟨B + 1 + 1, 0, none⟩ = some (.bool true) ∧ Below B W1 (W5 W1 B T I) := by
  have s : ∀ (W : World) (a : Addr) (v u : Value), W.cell? a = some u → (W.setCell a v).cell? a = some v := fun W a v u h => World.cell?_setCell_same W a v h
  have o : ∀ (W : World) (a b : Addr) (v : Value), a ≠ b → (W.setCell a v).cell? b = W.cell? b := fun W a b v h => World.cell?_setCell_other W a b v h
  have d : ∀ (W : World) (a : Addr), W.drew.cell? a = W.cell? a := fun _ _ => rfl
  have n01 : (⟨B, 0, none⟩ : Addr) ≠ ⟨B + 1, 0, none⟩ := by simp
  have n10 : (⟨B + 1, 0, none⟩ : Addr) ≠ ⟨B, 0, none⟩ := by simp
  have n02 : (⟨B, 0, none⟩ : Addr) ≠ ⟨B + 1 + 1, 0, none⟩ := by simp
  have n20 : (⟨B + 1 + 1, 0, none⟩ : Addr) ≠ ⟨B, 0, none⟩ := by simp
  have n12 : (⟨B + 1, 0, none⟩ : Addr) ≠ ⟨B + 1 + 1, 0, none⟩ := by simp
  have n21 : (⟨B + 1 + 1, 0, none⟩ : Addr) ≠ ⟨B + 1, 0, none⟩ := by simp
  refine ⟨?_, ?_, ?_, ?_⟩
  · unfold W5
    rw [d, o _ _ _ _ n20, o _ _ _ _ n10]
    exact s _ _ _ (.string T) (by rw [o _ _ _ _ n10]; exact s _ _ _ _ c0)
  · unfold W5
    rw [d, o _ _ _ _ n21]
    exact s _ _ _ (.int .i64 I) (by rw [o _ _ _ _ n01]; exact s _ _ _ _ (by rw [o _ _ _ _ n01]; exact c1))
  · unfold W5
    rw [d]
    exact s _ _ _ v2 (by rw [o _ _ _ _ n12, o _ _ _ _ n02, o _ _ _ _ n12, o _ _ _ _ n02]; exact c2)
  · exact ((((((Below.refl B W1).setCell (p := ⟨B, 0, none⟩) (Nat.le_refl _) _).setCell (p := ⟨B + 1, 0, none⟩) (by show B ≤ B + 1; omega) _).setCell (p := ⟨B, 0, none⟩) (Nat.le_refl _) _).setCell (p := ⟨B + 1, 0, none⟩) (by show B ≤ B + 1; omega) _).setCell (p := ⟨B + 1 + 1, 0, none⟩) (by show B ≤ B + 1 + 1; omega) _).drew
set_option maxHeartbeats 1000000 in
theorem tried_yes_s (p q : Value) (T : ByteArray) (I : Int) (w : World)
    (hway : ∀ W, Below w.heap.size w W → Calls Tryd.prog 67 #[p, q] W fun e w' => e = .returned (.tuple #[.string T, .int .i64 I]) ∧ Below W.heap.size W w') :
    Calls Tryd.prog 66 #[.func (.func 67) #[] #[p, q]] w fun e w' => e = .returned (.tuple #[.string T, .int .i64 I, .bool true]) ∧ Below w.heap.size w w' := by
  have hmf : ∀ (fn : Fn) (first cap : Array Value) (w : World), (Instr.makeFunc fn first cap).run Tryd.prog w = .ok (.func fn first cap) w := fun _ _ _ _ => rfl
  obtain ⟨h3, hb0, hz0⟩ := W3_is w
  go_enter_defers Tryd.func66, Tryd.ntmps66
  go_wp2_with (go_at_call 67; refine (hway (W3 w) hb0).mono ?_; rintro e W1 ⟨rfl, hb1⟩; have h4 := h3.low (by rw [← hz0]; exact hb1); have hb2 := hb0.trans (hb1.mono (by omega)); obtain ⟨c0, c1, c2, z0, z1, z2⟩ := h4; clear hb1 hb0)
  go_region
  all_goals go_wp2
  all_goals obtain ⟨k0, k1, k2, k3⟩ := W5_is T I c0 c1 c2
  all_goals refine leaves_cons (f := 86) (args := #[.pointer (some ⟨w.heap.size, 0, none⟩), .pointer (some ⟨w.heap.size + 1, 0, none⟩), .pointer (some ⟨w.heap.size + 1 + 1, 0, none⟩)]) (by simp) (by simp [go_sem]) ?_
  all_goals refine (catch_no #[] _ _ _ _).mono ?_
  all_goals rintro e u' w'' ⟨rfl, rfl, h5⟩
  all_goals change w'' = W5 W1 w.heap.size T I at h5
  all_goals subst h5
  all_goals simp [Leaves, settle, results, Tryd.results66, go_sem, k0, k1, k2]
  all_goals exact hb2.trans k3
set_option maxHeartbeats 1000000 in
theorem tried_no_s (p q : Value) (I : Int) (w : World)
    (hway : ∀ W, Below w.heap.size w W → Calls Tryd.prog 67 #[p, q] W fun e w' => e = Wrong I ∧ Below W.heap.size W w') :
    Calls Tryd.prog 66 #[.func (.func 67) #[] #[p, q]] w fun e w' => e = .returned (.tuple #[.string ⟨#[]⟩, .int .i64 I, .bool false]) ∧ Below w.heap.size w w' := by
  have hmf : ∀ (fn : Fn) (first cap : Array Value) (w : World), (Instr.makeFunc fn first cap).run Tryd.prog w = .ok (.func fn first cap) w := fun _ _ _ _ => rfl
  obtain ⟨h3, hb0, hz0⟩ := W3_is w
  go_enter_defers Tryd.func66, Tryd.ntmps66
  go_wp2_with (go_at_call 67; refine (hway (W3 w) hb0).mono ?_; rintro e W1 ⟨rfl, hb1⟩; have h4 := h3.low (by rw [← hz0]; exact hb1); have hb2 := hb0.trans (hb1.mono (by omega)); obtain ⟨c0, c1, c2, z0, z1, z2⟩ := h4; clear hb1 hb0; unfold Wrong)
  refine leaves_cons (f := 86) (args := #[.pointer (some ⟨w.heap.size, 0, none⟩), .pointer (some ⟨w.heap.size + 1, 0, none⟩), .pointer (some ⟨w.heap.size + 1 + 1, 0, none⟩)]) (by simp) (by simp [go_sem]) ?_
  refine (catch_yes w.heap.size _ _ I _ [] W1 c0 c1 c2 z0 z1 z2).mono ?_
  rintro e u' w'' ⟨rfl, rfl, k0, k1, k2, k3⟩
  simp [Leaves, settle, results, Tryd.results66, go_sem, k0, k1, k2]
  exact hb2.trans k3
end Go.Proofs.YtjgpmfjkcioinaaDoor.G
