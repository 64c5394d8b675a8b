/-
  A range over an iterator that stores into a cell of its own (block b): every element comes, no round leaves.
-/
import Derived.RangeFuncNested
import Derived.RangeFuncBound
import Derived.RangeFuncCalls
import Derived.RangeFuncLeaves
import Derived.RangeFuncFrom
import Derived.RangeFuncWrites
import Derived.Test.YtjgpmfjkcioinaaDoorPTK1
namespace Go.Proofs.YtjgpmfjkcioinaaDoor.G
open Go.RowKit
set_option linter.unusedVariables false
set_option linter.unusedSimpArgs false
def Bears (B b : Nat) {α : Type} (J : List α → World → Prop) : Prop := AbidesFrom B J ∧ ∀ s W v, J s W → J s (W.setCell ⟨b, 0, none⟩ v)
def HandsOn {α : Type} (F : Fence) (n : Nat) (P : Program) (g : Nat) (lb : Array Value) (encs : α → Array Value) (b : Nat) (xs : List α) (w : World) : Prop :=
  ∀ (l : Nat) (J : List α → World → Prop) (W : World), Below w.heap.size w W → Bears W.heap.size b J →
    (∀ pre x W1, J pre W1 → pre.length < xs.length → YieldAt F (n - 1) P l (encs x) W1 fun e W' => e = .returned (.bool true) ∧ J (pre ++ [x]) W' ∧ W'.heap[b]? = W1.heap[b]?) →
    J [] W → CallsIn F n P g (#[.func (.yield l) #[] #[]] ++ lb) W fun e W' => (∃ v, e = .returned v) ∧ J xs W'
def roundEnds {α : Type} (B b : Nat) (I : List α → World → Prop) (xs : List α) (W : World) : Exit → Act → World → Prop
  | .normal, _, W' => KeepsFrom B W W' ∧ W'.heap[b]? = W.heap[b]? ∧ I xs W'
  | _, _, _ => False
theorem range_all {α : Type} {F : Fence} {n : Nat} {P : Program} {g : Operand} {ps : Array Tmp} {assign body : Code} {Q : Exit → Act → World → Prop} {a : Act} {w : World}
    (hro : F.round = none) (h1 : 1 ≤ n) {gf : Nat} {lb : Array Value} (hg : a.eval g = .func (.func gf) #[] lb) (hFg : F.fn gf) (eg : ∀ args w, (callFunc gf args).run P w = .ok (.enter gf args) w)
    {encs : α → Array Value} {b : Nat} {xs : List α} (hseq : HandsOn F (n - 1) P gf lb encs b xs w) (hbw : b < w.heap.size) (hps : ∀ x, (encs x).size = ps.size)
    (I : List α → World → Prop) (hI : OwnFrom w.heap.size I) (hIb : ∀ s W v, I s W → I s (W.setCell ⟨b, 0, none⟩ v)) (h0 : I [] w) (a₁ : α → Act)
    (hassign : ∀ (l : Nat) (x : α) (W : World) (K : Act → World → Prop), K (a₁ x) W →
      assign.wpIn (F.inRound l) (n - 1 - 1) P (Exit.then K (fun _ _ _ => False)) { tmps := (ps.zip (encs x)).foldl (fun t (p, v) => t.setIfInBounds p v) a.tmps, defers := [] } W)
    (hbody : ∀ (l : Nat) (pre : List α) (x : α) (W : World), I pre W → pre.length < xs.length → body.wpIn (F.inRound l) (n - 1 - 1) P (roundEnds w.heap.size b I (pre ++ [x]) W) (a₁ x) W)
    (hdone : ∀ (D : Nat) (W : World), w.heap.size ≤ D → I xs W → W.heap[D]? = some (.deferred (some [])) → Q .normal { a with defers := { target := .collected D, args := #[] } :: a.defers } W) :
    (Code.rangeFunc g ps assign body).wpIn F n P Q a w := by
  obtain ⟨D, hD⟩ : ∃ D, w.heap.size = D := ⟨_, rfl⟩
  rw [hD] at hbw hI hbody hdone
  refine wpIn_rangeFunc fun fn hfn => ?_
  rw [hro]
  obtain ⟨lp, hlp⟩ : ∃ lp : LoopState → Option Code → Loop, lp = fun st pe => { state := st, pending := pe, fn, tmps := a.tmps, params := ps, assign, body, defers := D } := ⟨_, rfl⟩
  obtain ⟨V, hV⟩ : ∃ V, (w.alloc (.deferred (some []))).alloc (.loop (lp .ready none)) = V := ⟨_, rfl⟩
  have vsz : V.heap.size = D + 2 := by rw [← hV]; simp [hD]
  have v0 : V.heap[D]? = some (.deferred (some [])) := by
    rw [← hV, ← hD]; exact (Below.heap_alloc _ _ _ (by simp)).trans (World.alloc_heap_new w _)
  have v1 : V.heap[D + 1]? = some (.loop (lp .ready none)) := by
    have := World.alloc_heap_new (w.alloc (.deferred (some []))) (.loop (lp .ready none))
    rw [World.size_alloc, hD, hV] at this; exact this
  have vI : I [] V := by rw [← hV]; exact hI.alloc _ (hI.alloc _ h0)
  have vB : Below w.heap.size w V := by rw [← hV]; exact ((Below.refl _ w).alloc (Nat.le_refl _) _).alloc (by simp) _
  have far : ∀ (W : World) (k : Nat) (v : Value), D ≤ k → (W.setCell ⟨b, 0, none⟩ v).heap[k]? = W.heap[k]? := fun W k v h => Below.heap_setCell W ⟨b, 0, none⟩ v k (by show k ≠ b; omega)
  have walks : ∀ {A : World} {row : Option Nat}, (∀ r, row = some r → V.heap.size ≤ r ∧ ∃ o : Obj, A.heap[r]? = some o ∧ o.isWalk = true) → (∀ r, row = some r → D ≤ r ∧ ∃ o : Obj, A.heap[r]? = some o ∧ o.isCells = false) := by
    intro A row h r e
    obtain ⟨q1, o, q2, q3⟩ := h r e
    exact ⟨by omega, o, q2, Obj.not_cells_of_walk q3⟩
  refine ⟨D + 1, [{ target := .collected D, args := #[] }], V, { target := .fn (.func gf) lb, args := #[.func (.yield (D + 1)) #[] #[]] }, V, gf, #[.func (.yield (D + 1)) #[] #[]] ++ lb, V, ?_, ?_, ?_, ?_, fun _ => h1, ?_⟩
  · have := run_enterLoop_outer (P := P) (w := w) fn a.tmps ps assign body
    rw [hD] at this
    rw [← hV, hlp]; exact this
  · simp only [resolve, hg]; simp [go_sem]
  · intro f' hf'; simp [Target.leads] at hf'; subst hf'; exact hFg
  · simp [invoke, go_sem, eg]
  refine (hseq (D + 1) (fun pre W => I pre W ∧ W.heap[D + 1]? = some (.loop (lp .ready none)) ∧ W.heap[D]? = some (.deferred (some []))) V vB ⟨?_, ?_⟩ ?_ ⟨vI, v1, v0⟩).mono ?_
  · rintro s A A' row ⟨q1, q2, q3⟩ hgr hr
    exact ⟨hI s A A' row q1 hgr (walks hr), (grownBy_keeps hgr (fun r e => (hr r e).2) q2 rfl).trans q2, (grownBy_keeps hgr (fun r e => (hr r e).2) q3 rfl).trans q3⟩
  · rintro s A v ⟨q1, q2, q3⟩
    exact ⟨hIb s A v q1, (far A _ v (by omega)).trans q2, (far A _ v (Nat.le_refl _)).trans q3⟩
  · rintro pre x W ⟨q1, q2, q3⟩ hlen
    have lt := (Array.getElem?_eq_some_iff.1 q2).1
    have hy := run_yield (P := P) (args := encs x) q2 (by rw [hlp]; exact hps x)
    rw [hlp] at hy
    obtain ⟨W2, hW2⟩ : ∃ W2, W.putObj (D + 1) (.loop { lp .ready none with state := .busy }) = W2 := ⟨_, rfl⟩
    have b1 : W2.heap[D + 1]? = some (.loop { lp .ready none with state := .busy }) := by rw [← hW2]; exact World.putObj_heap_same lt
    have b0 : W2.heap[D]? = some (.deferred (some [])) := by rw [← hW2]; exact (World.putObj_heap_other (by omega)).trans q3
    have bb : W2.heap[b]? = W.heap[b]? := by rw [← hW2]; exact World.putObj_heap_other (by omega)
    have bI : I pre W2 := by rw [← hW2]; exact hI.putObj _ q1 (by omega) q2 rfl
    refine ⟨fn, _, assign, body, hy, roundIn_of_wpIn hfn (hassign _ x W _ ⟨W2, by rw [← hW2]; exact run_beginRound q2 (by rw [hlp]), wpIn_mono (hbody _ pre x W2 bI hlen) ?_⟩)⟩
    rintro e a3 W3 hp
    cases e with
    | normal =>
      obtain ⟨k1, k2, k3⟩ := hp
      have c1 := k1.same _ _ (by omega) b1 rfl
      have c0 := k1.same _ _ (Nat.le_refl _) b0 rfl
      have hr := run_endRound (P := P) none c1
      refine ⟨_, _, hr, rfl, ⟨hI.putObj _ k3 (by omega) c1 rfl, ?_, (World.putObj_heap_other (by omega)).trans c0⟩, ?_⟩
      · rw [World.putObj_heap_same (Array.getElem?_eq_some_iff.1 c1).1, hlp]; rfl
      · rw [World.putObj_heap_other (by omega), k2, bb]
    | ret => exact hp.elim
    | exit id => exact hp.elim
    | goto t => exact hp.elim
    | panic ch => exact hp.elim
    | outgrown => exact hp.elim
  · rintro e W2 ⟨⟨v, rfl⟩, q1, q2, q3⟩
    refine ⟨none, _, by have := run_endLoop (P := P) q2 (by rw [hlp]; simp); rw [hlp] at this; exact this, hdone D _ (Nat.le_refl _) (hI.putObj _ q1 (by omega) q2 rfl) ((World.putObj_heap_other (by omega)).trans q3)⟩
end Go.Proofs.YtjgpmfjkcioinaaDoor.G
