/-
  A range over an iterator whose element is laid in a block of its own each round (block nb); a round may leave.
-/
import Derived.RangeFuncFrom
import Derived.RangeFuncWrites
import Derived.Test.YtjgpmfjkcioinaaDoorPTK1
import Derived.Test.YtjgpmfjkcioinaaDoorPTV3
namespace Go.Proofs.YtjgpmfjkcioinaaDoor.G
open Go.RowKit
set_option linter.unusedVariables false
set_option linter.unusedSimpArgs false
theorem range_new {α : Type} {F : Fence} {n : Nat} {P : Program} {g : Operand} {ps : Array Tmp} {assign body : Code} {Q : Exit → Act → World → Prop} {a : Act} {w : World}
    (hro : F.round = none) (h1 : 1 ≤ n) {gf : Nat} {lb : Array Value} (hg : a.eval g = .func (.func gf) #[] lb) (hFg : F.fn gf) (eg : ∀ args w, (callFunc gf args).run P w = .ok (.enter gf args) w)
    {encs : α → Array Value} {Kp : World → World → Prop} {S Sp : List α → Prop} {N : Nat} (hseq : SeqStopsK F (n - 1) P gf lb encs Kp S Sp N w)
    (hKt : ∀ {A B C : World}, Kp A B → Kp B C → Kp A C) (hKb : ∀ (W : World) (l : Nat) (o o' : Obj), w.heap.size ≤ l → W.heap[l]? = some o → o.isCells = false → o.isWalk = false → Kp W (W.putObj l o'))
    (hKa : ∀ (W : World) (o : Obj), w.heap.size ≤ W.heap.size → Kp W (W.alloc o)) (hps : ∀ x, (encs x).size = ps.size)
    (I : List α → World → Prop) (Ix : Code → List α → World → Prop) (hI : OwnFrom w.heap.size I) (hIx : ∀ c, OwnFrom w.heap.size (Ix c)) (h0 : I [] w) (oX : α → Obj) (a₁ : Nat → α → Act)
    (hassign : ∀ (l : Nat) (x : α) (W : World) (K : Act → World → Prop), K (a₁ W.heap.size x) (W.alloc (oX x)) →
      assign.wpIn (F.inRound l) (n - 1 - 1) P (Exit.then K (fun _ _ _ => False)) { tmps := (ps.zip (encs x)).foldl (fun t (p, v) => t.setIfInBounds p v) a.tmps, defers := [] } W)
    (hbody : ∀ (l : Nat) (pre : List α) (x : α) (W : World) (nb : Nat), I pre W → pre.length < N → w.heap.size ≤ nb → W.heap[nb]? = some (oX x) → body.wpIn (F.inRound l) (n - 1 - 1) P (ownPostG w.heap.size Kp I Ix (pre ++ [x]) W) (a₁ nb x) W)
    (hdone : ∀ (D : Nat) (xs : List α) (W : World), w.heap.size ≤ D → S xs → I xs W → W.heap[D]? = some (.deferred (some [])) → Q .normal { a with defers := { target := .collected D, args := #[] } :: a.defers } W)
    (hstop : ∀ (D : Nat) (c : Code) (pre : List α) (W : World), w.heap.size ≤ D → Sp pre → Ix c pre W → W.heap[D]? = some (.deferred (some [])) → c.wpIn F n P Q { a with defers := { target := .collected D, args := #[] } :: a.defers } W) :
    (Code.rangeFunc g ps assign body).wpIn F n P Q a w := by
  obtain ⟨D, hD⟩ : ∃ D, w.heap.size = D := ⟨_, rfl⟩
  refine wpIn_rangeFunc fun fn hfn => ?_
  rw [hro]
  obtain ⟨lp, hlp⟩ : ∃ lp : LoopState → Option Code → Loop, lp = fun st pe => { state := st, pending := pe, fn, tmps := a.tmps, params := ps, assign, body, defers := D } := ⟨_, rfl⟩
  obtain ⟨V, hV⟩ : ∃ V, (w.alloc (.deferred (some []))).alloc (.loop (lp .ready none)) = V := ⟨_, rfl⟩
  have vsz : V.heap.size = D + 2 := by rw [← hV]; simp [hD]
  have v0 : V.heap[D]? = some (.deferred (some [])) := by
    rw [← hV, ← hD]; exact (Below.heap_alloc _ _ _ (by simp)).trans (World.alloc_heap_new w _)
  have v1 : V.heap[D + 1]? = some (.loop (lp .ready none)) := by
    have := World.alloc_heap_new (w.alloc (.deferred (some []))) (.loop (lp .ready none))
    rw [World.size_alloc, hD, hV] at this; exact this
  have vI : I [] V := by rw [← hV]; exact hI.alloc _ (hI.alloc _ h0)
  have vB : Below w.heap.size w V := by rw [← hV]; exact ((Below.refl _ w).alloc (Nat.le_refl _) _).alloc (by simp) _
  rw [hD] at hKb hKa hI hIx hbody hdone hstop
  have walks : ∀ {A : World} {row : Option Nat}, (∀ r, row = some r → V.heap.size ≤ r ∧ ∃ o : Obj, A.heap[r]? = some o ∧ o.isWalk = true) → (∀ r, row = some r → D ≤ r ∧ ∃ o : Obj, A.heap[r]? = some o ∧ o.isCells = false) := by
    intro A row h r e
    obtain ⟨q1, o, q2, q3⟩ := h r e
    exact ⟨by omega, o, q2, Obj.not_cells_of_walk q3⟩
  refine ⟨D + 1, [{ target := .collected D, args := #[] }], V, { target := .fn (.func gf) lb, args := #[.func (.yield (D + 1)) #[] #[]] }, V, gf, #[.func (.yield (D + 1)) #[] #[]] ++ lb, V, ?_, ?_, ?_, ?_, fun _ => h1, ?_⟩
  · have := run_enterLoop_outer (P := P) (w := w) fn a.tmps ps assign body
    rw [hD] at this
    rw [← hV, hlp]; exact this
  · simp only [resolve, hg]; simp [go_sem]
  · intro f' hf'; simp [Target.leads] at hf'; subst hf'; exact hFg
  · simp [invoke, go_sem, eg]
  refine (hseq (D + 1) (fun pre W => I pre W ∧ W.heap[D + 1]? = some (.loop (lp .ready none)) ∧ W.heap[D]? = some (.deferred (some [])))
    (fun pre W => ∃ c, Ix c pre W ∧ W.heap[D + 1]? = some (.loop (lp .done (some c))) ∧ W.heap[D]? = some (.deferred (some []))) V vB ?_ ?_ ?_ ⟨vI, v1, v0⟩).mono ?_
  · rintro s A A' row ⟨q1, q2, q3⟩ hgr hr
    exact ⟨hI s A A' row q1 hgr (walks hr), (grownBy_keeps hgr (fun r e => (hr r e).2) q2 rfl).trans q2, (grownBy_keeps hgr (fun r e => (hr r e).2) q3 rfl).trans q3⟩
  · rintro s A A' row ⟨c, q1, q2, q3⟩ hgr hr
    exact ⟨c, hIx c s A A' row q1 hgr (walks hr), (grownBy_keeps hgr (fun r e => (hr r e).2) q2 rfl).trans q2, (grownBy_keeps hgr (fun r e => (hr r e).2) q3 rfl).trans q3⟩
  · rintro pre x W ⟨q1, q2, q3⟩ hlen
    have lt := (Array.getElem?_eq_some_iff.1 q2).1
    have hy := run_yield (P := P) (args := encs x) q2 (by rw [hlp]; exact hps x)
    rw [hlp] at hy
    obtain ⟨Wa, hWa⟩ : ∃ Wa, W.alloc (oX x) = Wa := ⟨_, rfl⟩
    have e1 : Wa.heap[D + 1]? = some (.loop (lp .ready none)) := by rw [← hWa]; exact (Below.heap_alloc W _ _ lt).trans q2
    have e0 : Wa.heap[D]? = some (.deferred (some [])) := by rw [← hWa]; exact (Below.heap_alloc W _ _ (by omega)).trans q3
    have ex : Wa.heap[W.heap.size]? = some (oX x) := by rw [← hWa]; exact World.alloc_heap_new W _
    have eI : I pre Wa := by rw [← hWa]; exact hI.alloc _ q1
    have eK : Kp W Wa := by rw [← hWa]; exact hKa W _ (by omega)
    have lta : D + 1 < Wa.heap.size := (Array.getElem?_eq_some_iff.1 e1).1
    obtain ⟨W2, hW2⟩ : ∃ W2, Wa.putObj (D + 1) (.loop { lp .ready none with state := .busy }) = W2 := ⟨_, rfl⟩
    have b1 : W2.heap[D + 1]? = some (.loop { lp .ready none with state := .busy }) := by rw [← hW2]; exact World.putObj_heap_same lta
    have b0 : W2.heap[D]? = some (.deferred (some [])) := by rw [← hW2]; exact (World.putObj_heap_other (by omega)).trans e0
    have bx : W2.heap[W.heap.size]? = some (oX x) := by rw [← hW2]; exact (World.putObj_heap_other (by omega)).trans ex
    have bI : I pre W2 := by rw [← hW2]; exact hI.putObj _ eI (by omega) e1 rfl
    have bK : Kp W W2 := by rw [← hW2]; exact hKt eK (hKb _ _ _ _ (by omega) e1 rfl rfl)
    have ends : ∀ (jump : Option Code) (W3 : World), KeepsFrom D W2 W3 → ∃ W4, (Instr.endRound (D + 1) jump).run P W3 = .ok (.bool jump.isNone) W4 ∧ W3.putObj (D + 1) (.loop (lp (if jump.isNone then .ready else .done) jump)) = W4 ∧
        W3.heap[D + 1]? = some (.loop { lp .ready none with state := .busy }) ∧ W4.heap[D + 1]? = some (.loop (lp (if jump.isNone then .ready else .done) jump)) ∧ W4.heap[D]? = some (.deferred (some [])) := by
      intro jump W3 k
      have c1 := k.same _ _ (by omega) b1 rfl
      have c0 := k.same _ _ (Nat.le_refl _) b0 rfl
      have hr := run_endRound (P := P) jump c1
      rw [hlp] at hr
      refine ⟨W3.putObj (D + 1) (.loop (lp (if jump.isNone then .ready else .done) jump)), by rw [hlp]; exact hr, rfl, c1, ?_, ?_⟩
      · rw [World.putObj_heap_same (Array.getElem?_eq_some_iff.1 c1).1]
      · exact (World.putObj_heap_other (by omega)).trans c0
    refine ⟨fn, _, assign, body, hy, roundIn_of_wpIn hfn (hassign _ x W _ ?_)⟩
    rw [hWa]
    refine ⟨W2, by rw [← hW2]; exact run_beginRound e1 (by rw [hlp]), wpIn_mono (hbody _ pre x W2 _ bI hlen (by omega) bx) ?_⟩
    rintro e a3 W3 hp
    cases e with
    | normal =>
      obtain ⟨k1, k2, k3⟩ := hp
      obtain ⟨W4, r1, r2, r3, r4, r5⟩ := ends none W3 k1
      refine ⟨_, _, r1, .inl ⟨rfl, ⟨?_, r4, r5⟩, hKt (hKt bK k2) ?_⟩⟩
      · rw [← r2]; exact hI.putObj _ k3 (by omega) r3 rfl
      · rw [← r2]; exact hKb _ _ _ _ (by omega) r3 rfl rfl
    | ret =>
      obtain ⟨k1, k3⟩ := hp
      obtain ⟨W4, r1, r2, r3, r4, r5⟩ := ends (some .ret) W3 k1
      exact ⟨_, _, r1, .inr ⟨rfl, .ret, by rw [← r2]; exact (hIx _).putObj _ k3 (by omega) r3 rfl, r4, r5⟩⟩
    | exit id =>
      obtain ⟨k1, k3⟩ := hp
      obtain ⟨W4, r1, r2, r3, r4, r5⟩ := ends (some (.exit id)) W3 k1
      exact ⟨_, _, r1, .inr ⟨rfl, .exit id, by rw [← r2]; exact (hIx _).putObj _ k3 (by omega) r3 rfl, r4, r5⟩⟩
    | goto t =>
      obtain ⟨k1, k3⟩ := hp
      obtain ⟨W4, r1, r2, r3, r4, r5⟩ := ends (some (.goto t)) W3 k1
      exact ⟨_, _, r1, .inr ⟨rfl, .goto t, by rw [← r2]; exact (hIx _).putObj _ k3 (by omega) r3 rfl, r4, r5⟩⟩
    | panic ch => exact hp.elim
    | outgrown => exact hp.elim
  · rintro e W2 ⟨⟨v, rfl⟩, (⟨xs, hS, q1, q2, q3⟩ | ⟨pre, hSp, c, q1, q2, q3⟩)⟩
    · exact ⟨none, _, by have := run_endLoop (P := P) q2 (by rw [hlp]; simp); rw [hlp] at this; exact this, hdone D xs _ (Nat.le_refl _) hS (hI.putObj _ q1 (by omega) q2 rfl) ((World.putObj_heap_other (by omega)).trans q3)⟩
    · exact ⟨some c, _, by have := run_endLoop (P := P) q2 (by rw [hlp]; simp); rw [hlp] at this; exact this, hstop D c pre _ (Nat.le_refl _) hSp ((hIx c).putObj _ q1 (by omega) q2 rfl) ((World.putObj_heap_other (by omega)).trans q3)⟩
end Go.Proofs.YtjgpmfjkcioinaaDoor.G
