/-
  'utf.Bad' and 'utf.May': where a text is not made of characters, by a range over a function.
-/
import Derived.RangeFuncNested
import Derived.RangeFuncBound
import Derived.RangeFuncCalls
import Derived.RangeFuncLeaves
import Derived.RangeFuncFrom
import Derived.Shelf.Abstract
import Derived.Shelf.RegionOpen
import Derived.OwnWalkIn
import Derived.TacticsInMore
import Derived.LoopNIn
import Derived.LoopIn
import Derived.Test.YtjgpmfjkcioinaaDoorPTV2
namespace Go.Proofs.YtjgpmfjkcioinaaDoor.G
open Go.RowKit Go.Shelf Go.Proofs.YtjgpmfjkcioinaaDoorW.PrintWords Go.Proofs.YtjgpmfjkcioinaaDoor.M
set_option linter.unusedVariables false
set_option linter.unusedSimpArgs false
attribute [local go_sem] Oper.semAt_some
def places (l : List Int) (k : Int) : List (Int × Bool) :=
  if hl : l = [] then [] else if hn : (nxp isc l).2 = 0 then [(k, false)] else (k, true) :: places (l.drop (nxp isc l).2) (k + (nxp isc l).2)
termination_by l.length
decreasing_by
  have := List.length_pos_iff.2 hl
  rw [List.length_drop]; omega
theorem places_nil (k : Int) : places [] k = [] := by rw [places]; rfl
theorem places_not {l : List Int} (k : Int) (hl : l ≠ []) (h : (nxp isc l).2 = 0) : places l k = [(k, false)] := by rw [places, dif_neg hl, dif_pos h]
theorem places_step {l : List Int} (k : Int) (h : (nxp isc l).2 ≠ 0) : places l k = (k, true) :: places (l.drop (nxp isc l).2) (k + (nxp isc l).2) := by
  conv => lhs; rw [places]
  rw [dif_neg (nxp_ne h), dif_neg h]
theorem places_bd (l : List Int) : ∀ k, (∀ x ∈ places l k, x.2 = false → 0 ≤ bd l ∧ x.1 = k + bd l) ∧ ((∀ x ∈ places l k, x.2 = true) → bd l = -1) := by
  refine chars_rec isc (P := fun l => ∀ k, (∀ x ∈ places l k, x.2 = false → 0 ≤ bd l ∧ x.1 = k + bd l) ∧ ((∀ x ∈ places l k, x.2 = true) → bd l = -1)) l ?_ ?_ ?_
  · intro k
    rw [places_nil, bd_nil]
    exact ⟨fun x hx => by simp at hx, fun _ => rfl⟩
  · intro l hl hn k
    rw [places_not k hl hn, bd_not hl hn]
    refine ⟨fun x hx _ => ?_, fun h => ?_⟩
    · have : x = (k, false) := by simpa using hx
      rw [this]; exact ⟨Int.le_refl _, by simp⟩
    · have := h (k, false) (by simp)
      cases this
  · intro l hn ih k
    obtain ⟨i1, i2⟩ := ih (k + (nxp isc l).2)
    rw [places_step k hn, bd_step hn]
    refine ⟨fun x hx hf => ?_, fun h => ?_⟩
    · rcases List.mem_cons.1 hx with rfl | hx
      · cases hf
      · have := i1 x hx hf
        rw [if_neg (by omega)]; omega
    · have := i2 (fun x hx => h x (List.mem_cons.2 (.inr hx)))
      rw [if_pos (by omega)]
theorem grown_of_below {W W' : World} (h : Below W.heap.size W W') : W.grownBy W' none := ⟨h.os, h.tape, h.output, h.size, fun k hk _ => h.block k hk⟩
theorem cell_of_box {W : World} {B : Nat} {v : Value} {t : TypeId} (h : W.heap[B]? = some (.cells #[v] t (0, 0))) : W.cell? ⟨B, 0, none⟩ = some v ∧ W.frozen? ⟨B, 0, none⟩ = false := by
  constructor <;> simp [World.cell?, World.frozen?, h]
theorem cell_new_l (W : World) (v : Value) (t : TypeId) : (W.alloc (.cells #[v] t)).cell? ⟨W.heap.size, 0, none⟩ = some v ∧ (W.alloc (.cells #[v] t)).frozen? ⟨W.heap.size, 0, none⟩ = false :=
  cell_of_box (World.alloc_heap_new W _)
theorem cell_alloc_l {W : World} {a : Addr} {v : Value} (o : Obj) (h : W.cell? a = some v) : (W.alloc o).cell? a = some v := cell_kept h (World.grownBy_alloc W o none) (fun r e => by cases e)
theorem frozen_alloc_l {W : World} {a : Addr} {v : Value} (o : Obj) (h : W.cell? a = some v) (hf : W.frozen? a = false) : (W.alloc o).frozen? a = false := (frozen_kept h (World.grownBy_alloc W o none) (fun r e => by cases e)).trans hf
set_option maxRecDepth 100000 in
set_option maxHeartbeats 2000000 in
theorem places1_in (n : Nat) (l Bs n₀ : Nat) (s : ByteArray) (hn : 1 ≤ n) (hs : s.size ≤ 1000000) (hb : Bs < n₀) (J Jx : List (Int × Bool) → World → Prop) (W : World) (hJ : AbidesFrom W.heap.size J)
    (hY : ∀ pre x W, J pre W → pre.length < (places (by_ s) 0).length → YieldAt Fence.wide (n - 1) Tryd.prog l #[.int .i64 x.1, .bool x.2] W fun e W' =>
      (e = .returned (.bool true) ∧ J (pre ++ [x]) W' ∧ Below n₀ W W') ∨ (e = .returned (.bool false) ∧ Jx (pre ++ [x]) W'))
    (hBs : W.cell? ⟨Bs, 0, none⟩ = some (.string s)) (h0 : J [] W) (hn₀ : n₀ ≤ W.heap.size) :
    CallsIn Fence.wide n Tryd.prog 75 #[.func (.yield l) #[] #[], .pointer (some ⟨Bs, 0, none⟩)] W fun e W' => (∃ v, e = .returned v) ∧
      ((∃ ys, ys = places (by_ s) 0 ∧ J ys W') ∨ (∃ pre, pre <+: places (by_ s) 0 ∧ Jx pre W')) := by
  refine callsIn_of_wp Tryd.func75 rfl trivial ?_ rfl
  simp only [Tryd.ntmps75, List.size_toArray, List.length_cons, List.length_nil, Nat.reduceAdd, Nat.reduceSub, Array.replicate_succ, Array.replicate_zero, List.push_toArray, List.append_toArray, List.nil_append, List.cons_append]
  gi_wp2
  gi_loopw [3] (fun i wr => ∃ (pre : List (Int × Bool)) (k : Nat), i = .int .i64 k ∧ k ≤ s.size ∧ Hid (pre ++ places (at_ s k) k = places (by_ s) 0) ∧ J pre wr ∧ Below n₀ W wr)
    (fun i _ => s.size - (intOf i).toNat)
  case atStart => exact ⟨[], 0, rfl, Nat.zero_le _, by rw [show ((0 : Nat) : Int) = 0 from rfl, at_zero]; rfl, h0, Below.refl _ _⟩
  case round =>
    obtain ⟨pre, k, rfl, hk, hpre, hJs, hbw⟩ := hrel
    have hcx : wr.cell? ⟨Bs, 0, none⟩ = some (.string s) := (hbw.cell (p := ⟨Bs, 0, none⟩) hb).trans hBs
    by_cases hlt : k < s.size
    · have hnr := nxn_range s k
      have hnl := nxn_le s k (by omega) (by omega)
      have hne : at_ s k ≠ [] := fun e => by have := at_length s k (by omega) (by omega); rw [e] at this; simp at this; omega
      have e2 : nxn s k = ((nxp isc (at_ s k)).2 : Int) := by unfold nxn; rw [if_neg (by omega)]
      have hC := fun (W : World) => next_any s k W (by omega)
      obtain ⟨R, hR⟩ : ∃ R, nxr s k = R := ⟨_, rfl⟩
      obtain ⟨N, hN⟩ : ∃ N, (nxp isc (at_ s k)).2 = N := ⟨_, rfl⟩
      rw [hR, e2, hN] at hC
      rw [e2, hN] at hnl
      by_cases hz : N = 0
      · subst hz
        have hp2 : pre ++ [((k : Int), false)] = places (by_ s) 0 := by rw [← hpre.out, places_not _ hne hN]
        have hY' := fun (Wy : World) (hj : J pre Wy) => hY pre ((k : Int), false) Wy hj (by rw [← hp2]; simp)
        have HP := Lib.hid hp2
        clear hp2 hpre hY hN hR e2 hne
        gi_wp2_with (first
          | (refine ⟨trivial, ?_⟩; gi_at_call 59; refine (callsIn_wide.2 (hC _)).mono ?_; rintro e w' ⟨rfl, hbn⟩; have hJ2 := hJ pre wr w' none hJs (grown_of_below hbn) (fun r e => by cases e); have hbw2 := hbw.trans (hbn.mono (by have := hbw.size; omega)); obtain ⟨fn, tmps, assign, body, hy, hRR⟩ := hY' w' hJ2; dsimp only at hy))
        refine hRR.mono ?_
        rintro e W3 (⟨rfl, hJ3, hk3⟩ | ⟨rfl, hJx3⟩)
        · gi_wp2
          refine bodyPost_ret (results_none rfl _ _ _) rfl ?_
          exact ⟨⟨_, rfl⟩, .inl ⟨_, HP.out, hJ3⟩⟩
        · gi_wp2
          refine bodyPost_ret (results_none rfl _ _ _) rfl ?_
          exact ⟨⟨_, rfl⟩, .inr ⟨_, ⟨[], by rw [List.append_nil]; exact HP.out⟩, hJx3⟩⟩
      · have hpos : 0 < N := by omega
        have hN0 : ((N : Int) == 0) = false := beq_eq_false_iff_ne.2 (by omega)
        have hat : at_ s ((k + N : Nat) : Int) = (at_ s k).drop N := by
          have := at_add s k N (by omega)
          rw [← this]; congr 1
        have hp2 : pre ++ [((k : Int), true)] ++ places (at_ s ((k + N : Nat) : Int)) ((k + N : Nat) : Int) = places (by_ s) 0 := by
          rw [← hpre.out, places_step (l := at_ s k) _ (by rw [hN]; exact hz), hN, hat, List.append_assoc]; rfl
        have hY' := fun (Wy : World) (hj : J pre Wy) => hY pre ((k : Int), true) Wy hj (by rw [← hp2]; simp)
        have HP := Lib.hid hp2
        clear hp2 hpre hY hN hR e2 hne hz hat
        gi_wp2_with (first
          | (refine ⟨trivial, ?_⟩; gi_at_call 59; refine (callsIn_wide.2 (hC _)).mono ?_; rintro e w' ⟨rfl, hbn⟩; have hJ2 := hJ pre wr w' none hJs (grown_of_below hbn) (fun r e => by cases e); have hbw2 := hbw.trans (hbn.mono (by have := hbw.size; omega)); obtain ⟨fn, tmps, assign, body, hy, hRR⟩ := hY' w' hJ2; dsimp only at hy))
        refine hRR.mono ?_
        rintro e W3 (⟨rfl, hJ3, hk3⟩ | ⟨rfl, hJx3⟩)
        · gi_wp2
          go_roundw
          case rel => exact ⟨_, k + N, by go_num, by omega, HP, hJ3, hbw2.trans hk3⟩
          case measure => simp [intOf]; omega
        · gi_wp2
          refine bodyPost_ret (results_none rfl _ _ _) rfl ?_
          exact ⟨⟨_, rfl⟩, .inr ⟨_, ⟨_, HP.out⟩, hJx3⟩⟩
    · obtain rfl : k = s.size := by omega
      have hp2 : pre = places (by_ s) 0 := by rw [← hpre.out, at_nil s _ (by omega), places_nil, List.append_nil]
      have HP := Lib.hid hp2
      clear hp2 hpre hY
      gi_wp2
      go_end0
      exact ⟨⟨_, rfl⟩, .inl ⟨_, HP.out, hJs⟩⟩
theorem places_stops (n Bs n₀ : Nat) (s : ByteArray) (hn : 1 ≤ n) (hs : s.size ≤ 1000000) (w : World) (hb : Bs < n₀) (hn₀ : n₀ ≤ w.heap.size) (hc : w.cell? ⟨Bs, 0, none⟩ = some (.string s)) :
    SeqStopsK Fence.wide n Tryd.prog 75 #[.pointer (some ⟨Bs, 0, none⟩)] (fun x : Int × Bool => #[Value.int .i64 x.1, Value.bool x.2]) (Below n₀) (fun ys => ys = places (by_ s) 0) (fun pre => pre <+: places (by_ s) 0) (places (by_ s) 0).length w :=
  fun l J Jx W hW hJ _ hY h0 => places1_in n l Bs n₀ s hn hs hb J Jx W hJ hY ((hW.cell (p := ⟨Bs, 0, none⟩) (show Bs < w.heap.size by omega)).trans hc) h0 (by have := hW.size; omega)
theorem places_in (n : Nat) (s : ByteArray) (w : World) :
    CallsIn Fence.wide n Tryd.prog 47 #[.string s] w fun e w' => e = .returned (.func (.func 75) #[] #[.pointer (some ⟨w.heap.size, 0, none⟩)]) ∧ w' = w.alloc (.cells #[.string s] 9) := by
  refine callsIn_of_wp Tryd.func47 rfl trivial ?_ rfl
  simp only [Tryd.ntmps47, List.size_toArray, List.length_cons, List.length_nil, Nat.reduceAdd, Nat.reduceSub, Array.replicate_succ, Array.replicate_zero, List.push_toArray, List.append_toArray, List.nil_append, List.cons_append]
  gi_wp2
  go_ret
  exact ⟨rfl, rfl⟩
set_option maxRecDepth 100000 in
set_option maxHeartbeats 2000000 in
theorem bad_in (s : ByteArray) (w : World) (hs : s.size ≤ 1000000) :
    CallsIn Fence.wide 9 Tryd.prog 23 #[.string s] w fun e W' => e = .returned (.int .i64 (bd (by_ s))) ∧ Below w.heap.size w W' := by
  have HB := Lib.hid (places_bd (by_ s) 0)
  refine callsIn_of_wp_marks Tryd.func23 rfl trivial ?_ rfl
  simp only [Tryd.ntmps23, List.size_toArray, List.length_cons, List.length_nil, Nat.reduceAdd, Nat.reduceSub, Array.replicate_succ, Array.replicate_zero, List.push_toArray, List.append_toArray, List.nil_append, List.cons_append]
  gi_wp2_with (refine ⟨trivial, ?_⟩; gi_at_call 47; refine (places_in _ s _).mono ?_; rintro e w' ⟨rfl, rfl⟩)
  have c0 := cell_new_l w (.int .i64 0) 3
  have c1 := cell_new_l (w.alloc (.cells #[.int .i64 0] 3)) (.string s) 9
  simp only [World.size_alloc] at c1
  have hB0 : Below w.heap.size w ((w.alloc (.cells #[.int .i64 0] 3)).alloc (.cells #[.string s] 9)) := ((Below.refl _ w).alloc (Nat.le_refl _) _).alloc (by simp) _
  refine wpIn_rangeFunc_ownF rfl (by omega) (gf := 75) (lb := #[.pointer (some ⟨w.heap.size + 1, 0, none⟩)]) rfl trivial (enters_of Tryd.func75 (by kernel_rfl) rfl)
    (places_stops 8 (w.heap.size + 1) (w.heap.size + 2) s (by omega) hs _ (by omega) (by simp) c1.1) belowK_t (belowK_b (by simp)) (Below.refl _ _) (fun _ => rfl)
    (fun pre W => ((∀ y ∈ pre, y.2 = true) ∧ W.cell? ⟨w.heap.size, 0, none⟩ = some (.int .i64 0) ∧ W.frozen? ⟨w.heap.size, 0, none⟩ = false) ∧ Below w.heap.size w W)
    (fun c pre W => (c = .ret ∧ ∃ k, (k, false) ∈ pre ∧ W.cell? ⟨w.heap.size, 0, none⟩ = some (.int .i64 k)) ∧ Below w.heap.size w W)
    (OwnFrom.and (Own.from (fun s A B row hs hg hr => ⟨hs.1, cell_kept hs.2.1 hg hr, (frozen_kept hs.2.1 hg hr).trans hs.2.2⟩) _) (ownFrom_below (Nat.le_refl _) (by simp; omega)))
    (fun c => OwnFrom.and (Own.from (fun s A B row hs hg hr => ⟨hs.1, hs.2.choose, hs.2.choose_spec.1, cell_kept hs.2.choose_spec.2 hg hr⟩) _) (ownFrom_below (Nat.le_refl _) (by simp; omega)))
    ⟨⟨by simp, cell_alloc_l _ c0.1, frozen_alloc_l _ c0.1 c0.2⟩, hB0⟩
    (fun x => { tmps := #[.string s, undef, .pointer (some ⟨w.heap.size, 0, none⟩), .int .i64 x.1, .bool x.2, .string s, .func (.func 75) #[] #[.pointer (some ⟨w.heap.size + 1, 0, none⟩)], .int .i64 x.1, .bool x.2, undef, undef, undef], defers := [] }) ?assign ?body ?done ?stop
  case assign =>
    intro l x W K hK
    gi_wp2
    exact hK
  case body =>
    rintro l pre ⟨k, fine⟩ W ⟨⟨hp, hcr, hfr⟩, hB⟩ _
    cases fine with
    | true =>
      gi_wp2
      exact ⟨KeepsOthers.refl _, Below.refl _ _, ⟨fun y hy => (List.mem_append.1 hy).elim (hp y) (fun e => by simp at e; subst e; rfl), hcr, hfr⟩, hB⟩
    | false =>
      gi_wp2
      exact ⟨KeepsOthers.setCell _ _ _, ⟨rfl, k, List.mem_append.2 (.inr (by simp)), World.cell?_setCell_same' _ _ _ (by rw [hcr]; rfl)⟩, hB.setCell (p := ⟨w.heap.size, 0, none⟩) (Nat.le_refl _) _⟩
  case done =>
    rintro D ys W hD rfl ⟨⟨hall, hcr, hfr⟩, hB⟩ hK
    gi_wp2
    have hK' := (KeepsOthers.setCell W ⟨w.heap.size, 0, none⟩ (.int .i64 (-1))).same D _ hK rfl
    refine ⟨by simp, .inl ⟨_, _, rfl, run_takeDeferred hK', ?_⟩⟩
    have hc5 := cell_kept (World.cell?_setCell_same' W ⟨w.heap.size, 0, none⟩ (.int .i64 (-1)) (by rw [hcr]; rfl)) (grownBy_putObj' _ D (.deferred none)) (fun r e => by cases e; exact ⟨_, hK', rfl⟩)
    refine ⟨.int .i64 (-1), ?_, by rw [HB.out.2 hall], (hB.setCell (p := ⟨w.heap.size, 0, none⟩) (Nat.le_refl _) _).trans (belowK_b (w := w) (Nat.le_refl _) _ D _ _ (by simp at hD; omega) hK' rfl rfl)⟩
    simp [results, Tryd.f23, go_sem, hc5]
  case stop =>
    rintro D c pre W hD hpre ⟨⟨rfl, k, hin, hcr⟩, hB⟩ hK
    gi_wp2
    refine ⟨by simp, .inl ⟨_, _, rfl, run_takeDeferred hK, ?_⟩⟩
    have hc5 := cell_kept hcr (grownBy_putObj' _ D (.deferred none)) (fun r e => by cases e; exact ⟨_, hK, rfl⟩)
    have hbd := HB.out.1 (k, false) (hpre.subset hin) rfl
    refine ⟨.int .i64 k, ?_, by rw [show bd (by_ s) = k by have := hbd.2; simp at this; omega], hB.trans (belowK_b (w := w) (Nat.le_refl _) W D _ _ (by simp at hD; omega) hK rfl rfl)⟩
    simp [results, Tryd.f23, go_sem, hc5]
theorem bad_any (s : ByteArray) (w : World) (hs : s.size ≤ 1000000) :
    Calls Tryd.prog 23 #[.string s] w fun e W' => e = .returned (.int .i64 (bd (by_ s))) ∧ Below w.heap.size w W' := callsIn_wide.1 (bad_in s w hs)
theorem bd_iff (l : List Int) : decide (bd l < 0) = mayp isc l := by
  have h := bd_may l
  cases q : mayp isc l with
  | true => rw [h.1 q]; rfl
  | false => have := h.2 q; exact decide_eq_false (by omega)
set_option maxHeartbeats 400000 in
theorem may_any (s : ByteArray) (w : World) (hs : s.size ≤ 1000000) :
    Calls Tryd.prog 14 #[.string s] w fun e W' => e = .returned (.bool (mayp isc (by_ s))) ∧ Below w.heap.size w W' := by
  have hC := fun (W : World) => bad_any s W hs
  have HI := Lib.hid (bd_iff (by_ s))
  obtain ⟨b, hb⟩ : ∃ b, bd (by_ s) = b := ⟨_, rfl⟩
  rw [hb] at hC HI
  clear hb
  go_enter Tryd.func14, Tryd.ntmps14
  go_wp2_with (go_at_call 23; refine (hC _).mono ?_; rintro e w' ⟨rfl, hb⟩)
  go_ret
  exact ⟨ret_bool HI.out, hb⟩
end Go.Proofs.YtjgpmfjkcioinaaDoor.G
