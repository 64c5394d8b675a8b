-- Printed for this seat by a program of this session (qprint.py), out of the translation; Lean checks it.
import Derived.Test.YthcneciafiaphaaDoorQ0
import Derived.Test.YthcneciafiaphaaDoorQ1
import Derived.Test.YthcneciafiaphaaDoorQ2
import Derived.Test.YthcneciafiaphaaDoorQ3
import Derived.Test.YthcneciafiaphaaDoorQ4
namespace Go.Proofs.YthcneciafiaphaaDoor.Q
open Go.Proofs.YthcneciafiaphaaDoor.G
open Go.RowKit Go.Proofs.YthcneciafiaphaaDoorW.PrintWords Go.Proofs.YthcneciafiaphaaDoorW.PrintLast Go.Proofs.YthcneciafiaphaaDoorW.PrintMore
attribute [local go_sem] max2_int min2_int max_two min_two max_three min_three max_four min_four   -- for this text's walks alone
set_option linter.unusedVariables false
set_option linter.unusedSimpArgs false

/-! ### copperplatelaw07_FoldTells: function 3 -/
mutual
def copperplatelaw07_FoldTells.j0 : Nat → ByteArray → Int → List ByteArray → Bool → Bool → Option (Bool)
  | 0, _, _, _, _, _ => none
  | k + 1, x0, x1, x2, x7, x28 => if x28 = true then (some x7) else (copperplatelaw07_FoldTells.l0 k x0 x1 x2 0)
def copperplatelaw07_FoldTells.l0 : Nat → ByteArray → Int → List ByteArray → Int → Option (Bool)
  | 0, _, _, _, _ => none
  | k + 1, x0, x1, x2, x8 => if x8 < (x2.length : Int) then (if 0 ≤ x8 then (if ((rdOf ByteArray.empty x2 x8).size : Int) > 600 then (some true) else (copperplatelaw07_FoldTells.l0 k x0 x1 x2 (wrap64 (x8 + 1)))) else (none)) else ((fold_Raw.f x0 x1).bind fun bt177 => ((copperplateref07_Raw.f k x0 x1).bind fun bt180 => ((fold_Lines.f x0).bind fun t183 => ((copperplateref07_Lines.f k x0).bind fun t186 => ((copperplateref07_Texts.f k t183 t186).bind fun t189 => (if bt177.1.toList = bt180.1.toList then (if bt177.2.1 = bt180.2.1 then (if (bt177.2.2 == bt180.2.2) = true then (if t189 = true then ((fold_Indent.f x2).bind fun t190 => ((copperplateref07_Indent.f k x2).bind fun t191 => (if t190 = t191 then ((fold_Fold.f x0).bind fun t192 => ((copperplateref07_Fold.f k x0).bind fun t193 => (some (t192.toList == t193.toList)))) else (some false)))) else (some false)) else (some false)) else (some false)) else (some false)))))))
end
def copperplatelaw07_FoldTells.f (k : Nat) (a0 : ByteArray) (a1 : Int) (l2 : List ByteArray) : Option (Bool) := (copperplatelaw07_awake.f).bind fun t175 => (if t175 = true then (if (a0.size : Int) > 600 then (copperplatelaw07_FoldTells.j0 k a0 a1 l2 t175 true) else (copperplatelaw07_FoldTells.j0 k a0 a1 l2 t175 (decide ((l2.length : Int) > 60)))) else (copperplatelaw07_FoldTells.j0 k a0 a1 l2 t175 true))
theorem copperplatelaw07_FoldTells.mono_l : ∀ k, (∀ y0 y1 y2 y3 y4, LeO (copperplatelaw07_FoldTells.j0 k y0 y1 y2 y3 y4) (copperplatelaw07_FoldTells.j0 (k + 1) y0 y1 y2 y3 y4)) ∧ (∀ y0 y1 y2 y3, LeO (copperplatelaw07_FoldTells.l0 k y0 y1 y2 y3) (copperplatelaw07_FoldTells.l0 (k + 1) y0 y1 y2 y3))
  | 0 => ⟨fun _ _ _ _ _ r h => by simp [copperplatelaw07_FoldTells.j0] at h, fun _ _ _ _ r h => by simp [copperplatelaw07_FoldTells.l0] at h⟩
  | k + 1 => by
    obtain ⟨ih0, ih1⟩ := copperplatelaw07_FoldTells.mono_l k
    refine ⟨?_, ?_⟩
    · intro y0 y1 y2 y3 y4
      unfold copperplatelaw07_FoldTells.j0
      repeat' first
      | (with_reducible exact ih0 _ _ _ _ _)
      | (with_reducible exact ih1 _ _ _ _)
      | (with_reducible exact copperplateref07_Fold.mono _ _)
      | (with_reducible exact copperplateref07_Indent.mono _ _)
      | (with_reducible exact copperplateref07_Lines.mono _ _)
      | (with_reducible exact copperplateref07_Raw.mono _ _ _)
      | (with_reducible exact copperplateref07_Texts.mono _ _ _)
      | (with_reducible exact LeO.refl _)
      | (with_reducible exact LeO.none _)
      | (with_reducible refine LeO.ite ?_ ?_)
      | (with_reducible refine LeO.bind ?_ (fun _ => ?_))
      | exact ih0 _ _ _ _ _
      | exact ih1 _ _ _ _
      | exact copperplateref07_Fold.mono _ _
      | exact copperplateref07_Indent.mono _ _
      | exact copperplateref07_Lines.mono _ _
      | exact copperplateref07_Raw.mono _ _ _
      | exact copperplateref07_Texts.mono _ _ _
      | exact LeO.none _
      | refine LeO.ite ?_ ?_
      | refine LeO.bind ?_ (fun _ => ?_)
    · intro y0 y1 y2 y3
      unfold copperplatelaw07_FoldTells.l0
      repeat' first
      | (with_reducible exact ih0 _ _ _ _ _)
      | (with_reducible exact ih1 _ _ _ _)
      | (with_reducible exact copperplateref07_Fold.mono _ _)
      | (with_reducible exact copperplateref07_Indent.mono _ _)
      | (with_reducible exact copperplateref07_Lines.mono _ _)
      | (with_reducible exact copperplateref07_Raw.mono _ _ _)
      | (with_reducible exact copperplateref07_Texts.mono _ _ _)
      | (with_reducible exact LeO.refl _)
      | (with_reducible exact LeO.none _)
      | (with_reducible refine LeO.ite ?_ ?_)
      | (with_reducible refine LeO.bind ?_ (fun _ => ?_))
      | exact ih0 _ _ _ _ _
      | exact ih1 _ _ _ _
      | exact copperplateref07_Fold.mono _ _
      | exact copperplateref07_Indent.mono _ _
      | exact copperplateref07_Lines.mono _ _
      | exact copperplateref07_Raw.mono _ _ _
      | exact copperplateref07_Texts.mono _ _ _
      | exact LeO.none _
      | refine LeO.ite ?_ ?_
      | refine LeO.bind ?_ (fun _ => ?_)
theorem copperplatelaw07_FoldTells.mono : ∀ a0 a1 a2 k, LeO (copperplatelaw07_FoldTells.f k a0 a1 a2) (copperplatelaw07_FoldTells.f (k + 1) a0 a1 a2) := by
  intro a0 a1 a2 k
  obtain ⟨ih0, ih1⟩ := copperplatelaw07_FoldTells.mono_l k
  unfold copperplatelaw07_FoldTells.f
  repeat' first
      | (with_reducible exact ih0 _ _ _ _ _)
      | (with_reducible exact ih1 _ _ _ _)
      | (with_reducible exact copperplateref07_Fold.mono _ _)
      | (with_reducible exact copperplateref07_Indent.mono _ _)
      | (with_reducible exact copperplateref07_Lines.mono _ _)
      | (with_reducible exact copperplateref07_Raw.mono _ _ _)
      | (with_reducible exact copperplateref07_Texts.mono _ _ _)
      | (with_reducible exact LeO.refl _)
      | (with_reducible exact LeO.none _)
      | (with_reducible refine LeO.ite ?_ ?_)
      | (with_reducible refine LeO.bind ?_ (fun _ => ?_))
      | exact ih0 _ _ _ _ _
      | exact ih1 _ _ _ _
      | exact copperplateref07_Fold.mono _ _
      | exact copperplateref07_Indent.mono _ _
      | exact copperplateref07_Lines.mono _ _
      | exact copperplateref07_Raw.mono _ _ _
      | exact copperplateref07_Texts.mono _ _ _
      | exact LeO.none _
      | refine LeO.ite ?_ ?_
      | refine LeO.bind ?_ (fun _ => ?_)
set_option maxHeartbeats 8000000 in
set_option maxRecDepth 100000 in
theorem copperplatelaw07_FoldTells.calls (k : Nat) (a0 : ByteArray) (a1 : Int) (A2 : Option Addr) (c2 : Nat) (l2 : List ByteArray) (r : Bool) (w : World) (hr2 : Kd.C Kd.string w A2 l2.length l2) (hc2 : l2.length ≤ c2) (h : copperplatelaw07_FoldTells.f k a0 a1 l2 = some r) :
    Calls Tryd.prog 3 #[.string a0, .int .i64 a1, .slice A2 l2.length c2] w fun e w' => e = .returned (.bool r) ∧ Below w.heap.size w w' := by
  have HR2 := Aside0.mk hr2
  have HC2 := Aside0.mk hc2
  clear hr2 hc2
  have HB := Aside0.mk (Below.refl w.heap.size w)
  have H : ((copperplatelaw07_awake.f).bind fun t175 => (if t175 = true then (if (a0.size : Int) > 600 then (copperplatelaw07_FoldTells.j0 k a0 a1 l2 t175 true) else (copperplatelaw07_FoldTells.j0 k a0 a1 l2 t175 (decide ((l2.length : Int) > 60)))) else (copperplatelaw07_FoldTells.j0 k a0 a1 l2 t175 true))) = some r := h
  clear h
  replace H := Option.bind_eq_some_iff.mp H
  obtain ⟨t175, A40, H⟩ := H
  replace H : (if t175 = true then (if (a0.size : Int) > 600 then (copperplatelaw07_FoldTells.j0 k a0 a1 l2 t175 true) else (copperplatelaw07_FoldTells.j0 k a0 a1 l2 t175 (decide ((l2.length : Int) > 60)))) else (copperplatelaw07_FoldTells.j0 k a0 a1 l2 t175 true)) = some r := H
  have A4 := Aside0.mk A40
  clear A40
  have HC5 := Aside0.mk H
  clear H
  go_enter Tryd.func3, Tryd.ntmps3
  go_upto_region 2 with (first | ((with_reducible refine gate_callee (f := 10) rfl ?_); refine goesL_ (some 16) rfl rfl Tryd.func10 (by kernel_rfl) rfl #[] rfl (by (try simp only [List.map_toArray, List.map_cons, List.map_nil]); first | done | rfl | (simp only [List.length_drop, List.length_take]; rfl)) ?_; (with_reducible refine (copperplatelaw07_awake.calls  t175 _ A4.out).mono ?_); rintro e w6 ⟨rfl, hb⟩; refine ⟨_, rfl, ?_⟩; have n0_ := Aside0.mk (below_step (by repeat (first | (with_reducible first | exact HB.out | apply below_alloc | apply pw_below_drewN | apply below_drew1) | exact HB.out)) hb); clear HB; have HB := n0_; clear n0_; (try clear hb); (try clear hb2); (try clear hk); (try clear hi)))
  (try simp only [Act.put, List.setIfInBounds_toArray, List.set_cons_zero, List.set_cons_succ])
  go_cut [28] (fun v28 wc => ∃ (kq : Nat) (x28_4 : Bool), v28 = .bool x28_4 ∧ Aside0 (copperplatelaw07_FoldTells.j0 kq a0 a1 l2 t175 x28_4 = some r) ∧ Aside0 (kq ≤ k) ∧ Aside0 (Below w.heap.size w wc))
  case first =>
    have H := HC5.out
    clear HC5
    by_cases c7 : t175 = true
    · subst c7
      have H1 : (if (a0.size : Int) > 600 then (copperplatelaw07_FoldTells.j0 k a0 a1 l2 true true) else (copperplatelaw07_FoldTells.j0 k a0 a1 l2 true (decide ((l2.length : Int) > 60)))) = some r := by rw [if_pos rfl] at H; exact H
      clear H
      have H := H1
      clear H1
      by_cases c8 : (a0.size : Int) > 600
      · rw [if_pos c8] at H
        have c8b0 : decide (600 < (a0.size : Int)) = true := decide_eq_true c8
        have c8b1 : decide (600 < a0.size) = true := decide_eq_true (by omega)
        clear c8
        (first | rw [c8b0] | (simp only [i64_w, i32_w]; rw [c8b0]) | skip)
        have H' := Aside0.mk H
        clear H
        go_wp2
        go_meet
        case rel => exact ⟨_, (true), (by first | rfl | (simp; done) | (simp [*]; done)), H', ⟨by first | omega | exact Nat.le_refl _⟩, ⟨by repeat (first | (with_reducible first | exact HB.out | apply below_alloc | apply pw_below_drewN | apply below_drew1) | exact HB.out)⟩⟩
      · rw [if_neg c8] at H
        have c8b0 : decide (600 < (a0.size : Int)) = false := decide_eq_false c8
        have c8b1 : decide (600 < a0.size) = false := decide_eq_false (by omega)
        clear c8
        (first | rw [c8b0] | (simp only [i64_w, i32_w]; rw [c8b0]) | skip)
        have H' := Aside0.mk H
        clear H
        go_wp2
        go_meet
        case rel => exact ⟨_, (decide ((l2.length : Int) > 60)), (by first | rfl | (simp; done) | (simp [*]; done)), H', ⟨by first | omega | exact Nat.le_refl _⟩, ⟨by repeat (first | (with_reducible first | exact HB.out | apply below_alloc | apply pw_below_drewN | apply below_drew1) | exact HB.out)⟩⟩
    · replace c7 := Bool.eq_false_iff.mpr c7
      subst c7
      have H1 : (copperplatelaw07_FoldTells.j0 k a0 a1 l2 false true) = some r := by rw [if_neg (show ¬ (false = true) by decide)] at H; exact H
      clear H
      have H := H1
      clear H1
      have H' := Aside0.mk H
      clear H
      go_wp2
      go_meet
      case rel => exact ⟨_, (true), (by first | rfl | (simp; done) | (simp [*]; done)), H', ⟨by first | omega | exact Nat.le_refl _⟩, ⟨by repeat (first | (with_reducible first | exact HB.out | apply below_alloc | apply pw_below_drewN | apply below_drew1) | exact HB.out)⟩⟩
  case rest =>
    clear HC5
    try clear c1
    try clear c2
    try clear p2
    try clear c3
    try clear c7
    try clear c8
    try clear c8b0
    try clear c8b1
    obtain ⟨kq, x28_4, rfl, HA, HJ4, HB⟩ := hcut
    cases kq with
    | zero => exact absurd HA.out (by simp [copperplatelaw07_FoldTells.j0])
    | succ kj4 =>
      have H := HA.out
      clear HA
      simp only [copperplatelaw07_FoldTells.j0] at H
      by_cases c9 : x28_4 = true
      · subst c9
        have H1 : (some t175) = some r := by rw [if_pos rfl] at H; exact H
        clear H
        have H := H1
        clear H1
        obtain rfl := Option.some.inj H
        go_wp2
        go_ret
        exact ⟨by first | rfl | (simp [errW_none, errW_some] <;> rfl) | (simp [*, errW_none, errW_some] <;> rfl), by repeat (first | (with_reducible first | exact HB.out | apply below_alloc | apply pw_below_drewN | apply below_drew1) | exact HB.out)⟩
      · replace c9 := Bool.eq_false_iff.mpr c9
        subst c9
        have H1 : (copperplatelaw07_FoldTells.l0 kj4 a0 a1 l2 0) = some r := by rw [if_neg (show ¬ (false = true) by decide)] at H; exact H
        clear H
        have H := H1
        clear H1
        have H' := Aside0.mk H
        clear H
        go_wp2
        go_loopg [8] kj4 (fun kq v8 w' => ∃ (x8_2 : Int), v8 = .int .i64 x8_2 ∧ Aside0 (copperplatelaw07_FoldTells.l0 kq a0 a1 l2 x8_2 = some r) ∧ Aside0 (kq ≤ kj4) ∧ Aside0 (Below w.heap.size w w'))
        case atStart => exact ⟨(0), (by first | rfl | (simp; done) | (simp [*]; done)), H', ⟨Nat.le_refl _⟩, ⟨by repeat (first | (with_reducible first | exact HB.out | apply below_alloc | apply pw_below_drewN | apply below_drew1) | exact HB.out)⟩⟩
        case round =>
          clear H'
          try clear c1
          try clear c2
          try clear p2
          try clear c3
          try clear c7
          try clear c8
          try clear c8b0
          try clear c8b1
          try clear c9
          try clear p2
          obtain ⟨x8_2, rfl, HA, HK2, HB⟩ := hrel
          cases gk with
          | zero => exact absurd HA.out (by simp [copperplatelaw07_FoldTells.l0])
          | succ k2 =>
            have H := HA.out
            clear HA
            simp only [copperplatelaw07_FoldTells.l0] at H
            by_cases c10 : x8_2 < (l2.length : Int)
            · rw [if_pos c10] at H
              have c10b0 : decide (x8_2 < (l2.length : Int)) = true := decide_eq_true c10
              clear c10
              by_cases c11 : 0 ≤ x8_2
              · rw [if_pos c11] at H
                have c11b0 : decide (0 ≤ x8_2) = true := decide_eq_true c11
                clear c11
                by_cases c12 : ((rdOf ByteArray.empty l2 x8_2).size : Int) > 600
                · rw [if_pos c12] at H
                  have c12b0 : decide (600 < ((rdOf ByteArray.empty l2 x8_2).size : Int)) = true := decide_eq_true c12
                  have c12b1 : decide (600 < (rdOf ByteArray.empty l2 x8_2).size) = true := decide_eq_true (by omega)
                  clear c12
                  obtain rfl := Option.some.inj H
                  have p176 : 0 ≤ (x8_2 : Int) := of_decide_eq_true (by first | (with_reducible assumption) | assumption)
                  have q176 : x8_2 < (l2.length : Int) := of_decide_eq_true (by first | (with_reducible assumption) | assumption)
                  obtain ⟨ad176, e176, hx176_0⟩ := Kd.at_string HR2.out x8_2 p176 q176
                  cases e176
                  replace hx176_0 := (HB.out.cell (World.block_lt_of_cell? w _ hx176_0)).trans hx176_0
                  replace p176 := eq_true p176
                  replace q176 := eq_true q176
                  go_wp2
                  go_ret
                  exact ⟨by first | rfl | (simp [errW_none, errW_some] <;> rfl) | (simp [*, errW_none, errW_some] <;> rfl), by repeat (first | (with_reducible first | exact HB.out | apply below_alloc | apply pw_below_drewN | apply below_drew1) | exact HB.out)⟩
                · rw [if_neg c12] at H
                  have c12b0 : decide (600 < ((rdOf ByteArray.empty l2 x8_2).size : Int)) = false := decide_eq_false c12
                  have c12b1 : decide (600 < (rdOf ByteArray.empty l2 x8_2).size) = false := decide_eq_false (by omega)
                  clear c12
                  have H' := Aside0.mk H
                  clear H
                  have p176 : 0 ≤ (x8_2 : Int) := of_decide_eq_true (by first | (with_reducible assumption) | assumption)
                  have q176 : x8_2 < (l2.length : Int) := of_decide_eq_true (by first | (with_reducible assumption) | assumption)
                  obtain ⟨ad176, e176, hx176_0⟩ := Kd.at_string HR2.out x8_2 p176 q176
                  cases e176
                  replace hx176_0 := (HB.out.cell (World.block_lt_of_cell? w _ hx176_0)).trans hx176_0
                  replace p176 := eq_true p176
                  replace q176 := eq_true q176
                  go_wp2
                  go_roundg k2
                  case measure => have := HJ4.out; have := HK2.out; omega
                  case rel => exact ⟨(wrap64 (x8_2 + 1)), (by first | rfl | (simp; done) | (simp [*]; done)), H', ⟨by have := HJ4.out; have := HK2.out; omega⟩, ⟨by repeat (first | (with_reducible first | exact HB.out | apply below_alloc | apply pw_below_drewN | apply below_drew1) | exact HB.out)⟩⟩
              · rw [if_neg c11] at H
                exact absurd H (by simp)
            · rw [if_neg c10] at H
              have c10b0 : decide (x8_2 < (l2.length : Int)) = false := decide_eq_false c10
              clear c10
              replace H := Option.bind_eq_some_iff.mp H
              obtain ⟨⟨t177, t178, t179⟩, A130, H⟩ := H
              replace H : ((copperplateref07_Raw.f k2 a0 a1).bind fun bt180 => ((fold_Lines.f a0).bind fun t183 => ((copperplateref07_Lines.f k2 a0).bind fun t186 => ((copperplateref07_Texts.f k2 t183 t186).bind fun t189 => (if t177.toList = bt180.1.toList then (if t178 = bt180.2.1 then (if (t179 == bt180.2.2) = true then (if t189 = true then ((fold_Indent.f l2).bind fun t190 => ((copperplateref07_Indent.f k2 l2).bind fun t191 => (if t190 = t191 then ((fold_Fold.f a0).bind fun t192 => ((copperplateref07_Fold.f k2 a0).bind fun t193 => (some (t192.toList == t193.toList)))) else (some false)))) else (some false)) else (some false)) else (some false)) else (some false)))))) = some r := H
              have A13 := Aside0.mk A130
              clear A130
              replace H := Option.bind_eq_some_iff.mp H
              obtain ⟨⟨t180, t181, t182⟩, A140, H⟩ := H
              replace H : ((fold_Lines.f a0).bind fun t183 => ((copperplateref07_Lines.f k2 a0).bind fun t186 => ((copperplateref07_Texts.f k2 t183 t186).bind fun t189 => (if t177.toList = t180.toList then (if t178 = t181 then (if (t179 == t182) = true then (if t189 = true then ((fold_Indent.f l2).bind fun t190 => ((copperplateref07_Indent.f k2 l2).bind fun t191 => (if t190 = t191 then ((fold_Fold.f a0).bind fun t192 => ((copperplateref07_Fold.f k2 a0).bind fun t193 => (some (t192.toList == t193.toList)))) else (some false)))) else (some false)) else (some false)) else (some false)) else (some false))))) = some r := H
              have A14 := Aside0.mk A140
              clear A140
              replace H := Option.bind_eq_some_iff.mp H
              obtain ⟨t183, A150, H⟩ := H
              replace H : ((copperplateref07_Lines.f k2 a0).bind fun t186 => ((copperplateref07_Texts.f k2 t183 t186).bind fun t189 => (if t177.toList = t180.toList then (if t178 = t181 then (if (t179 == t182) = true then (if t189 = true then ((fold_Indent.f l2).bind fun t190 => ((copperplateref07_Indent.f k2 l2).bind fun t191 => (if t190 = t191 then ((fold_Fold.f a0).bind fun t192 => ((copperplateref07_Fold.f k2 a0).bind fun t193 => (some (t192.toList == t193.toList)))) else (some false)))) else (some false)) else (some false)) else (some false)) else (some false)))) = some r := H
              have A15 := Aside0.mk A150
              clear A150
              replace H := Option.bind_eq_some_iff.mp H
              obtain ⟨t186, A160, H⟩ := H
              replace H : ((copperplateref07_Texts.f k2 t183 t186).bind fun t189 => (if t177.toList = t180.toList then (if t178 = t181 then (if (t179 == t182) = true then (if t189 = true then ((fold_Indent.f l2).bind fun t190 => ((copperplateref07_Indent.f k2 l2).bind fun t191 => (if t190 = t191 then ((fold_Fold.f a0).bind fun t192 => ((copperplateref07_Fold.f k2 a0).bind fun t193 => (some (t192.toList == t193.toList)))) else (some false)))) else (some false)) else (some false)) else (some false)) else (some false))) = some r := H
              have A16 := Aside0.mk A160
              clear A160
              replace H := Option.bind_eq_some_iff.mp H
              obtain ⟨t189, A170, H⟩ := H
              replace H : (if t177.toList = t180.toList then (if t178 = t181 then (if (t179 == t182) = true then (if t189 = true then ((fold_Indent.f l2).bind fun t190 => ((copperplateref07_Indent.f k2 l2).bind fun t191 => (if t190 = t191 then ((fold_Fold.f a0).bind fun t192 => ((copperplateref07_Fold.f k2 a0).bind fun t193 => (some (t192.toList == t193.toList)))) else (some false)))) else (some false)) else (some false)) else (some false)) else (some false)) = some r := H
              have A17 := Aside0.mk A170
              clear A170
              by_cases c18 : t177.toList = t180.toList
              · rw [if_pos c18] at H
                have c18b0 : (t177.toList == t180.toList) = true := beq_iff_eq.mpr c18
                have c18b1 : (t177.toList != t180.toList) = false := bne_eq_false_iff_eq.mpr c18
                clear c18
                by_cases c19 : t178 = t181
                · rw [if_pos c19] at H
                  have c19b0 : (t178 == t181) = true := beq_iff_eq.mpr c19
                  have c19b1 : (t178 != t181) = false := bne_eq_false_iff_eq.mpr c19
                  clear c19
                  by_cases c20 : (t179 == t182) = true
                  · rw [if_pos c20] at H
                    have c20b0 : (t179 == t182) = true := c20
                    (try (have c20b1 : decide (t179 = t182) = true := by simpa using c20))
                    (try (have c20b2 : (t179 == t182) = true := by simpa using c20))
                    clear c20
                    by_cases c21 : t189 = true
                    · subst c21
                      have H1 : ((fold_Indent.f l2).bind fun t190 => ((copperplateref07_Indent.f k2 l2).bind fun t191 => (if t190 = t191 then ((fold_Fold.f a0).bind fun t192 => ((copperplateref07_Fold.f k2 a0).bind fun t193 => (some (t192.toList == t193.toList)))) else (some false)))) = some r := by rw [if_pos rfl] at H; exact H
                      clear H
                      have H := H1
                      clear H1
                      replace H := Option.bind_eq_some_iff.mp H
                      obtain ⟨t190, A220, H⟩ := H
                      replace H : ((copperplateref07_Indent.f k2 l2).bind fun t191 => (if t190 = t191 then ((fold_Fold.f a0).bind fun t192 => ((copperplateref07_Fold.f k2 a0).bind fun t193 => (some (t192.toList == t193.toList)))) else (some false))) = some r := H
                      have A22 := Aside0.mk A220
                      clear A220
                      replace H := Option.bind_eq_some_iff.mp H
                      obtain ⟨t191, A230, H⟩ := H
                      replace H : (if t190 = t191 then ((fold_Fold.f a0).bind fun t192 => ((copperplateref07_Fold.f k2 a0).bind fun t193 => (some (t192.toList == t193.toList)))) else (some false)) = some r := H
                      have A23 := Aside0.mk A230
                      clear A230
                      by_cases c24 : t190 = t191
                      · rw [if_pos c24] at H
                        have c24b0 : (t190 == t191) = true := beq_iff_eq.mpr c24
                        have c24b1 : (t190 != t191) = false := bne_eq_false_iff_eq.mpr c24
                        clear c24
                        replace H := Option.bind_eq_some_iff.mp H
                        obtain ⟨t192, A250, H⟩ := H
                        replace H : ((copperplateref07_Fold.f k2 a0).bind fun t193 => (some (t192.toList == t193.toList))) = some r := H
                        have A25 := Aside0.mk A250
                        clear A250
                        replace H := Option.bind_eq_some_iff.mp H
                        obtain ⟨t193, A260, H⟩ := H
                        replace H : (some (t192.toList == t193.toList)) = some r := H
                        have A26 := Aside0.mk A260
                        clear A260
                        obtain rfl := Option.some.inj H
                        go_wp2_with (first | ((with_reducible refine gate_callee (f := 11) rfl ?_); refine goesL_ (some 45) rfl rfl Tryd.func11 (by kernel_rfl) rfl #[.string a0, .int .i64 a1] rfl (by (try simp only [List.map_toArray, List.map_cons, List.map_nil]); first | done | rfl | (simp only [List.length_drop, List.length_take]; rfl)) ?_; (with_reducible refine (fold_Raw.calls a0 a1 t177 t178 t179 _ A13.out).mono ?_); rintro e w27 ⟨rfl, hb⟩; refine ⟨_, rfl, ?_⟩; have n0_ := Aside0.mk (below_step (by repeat (first | (with_reducible first | exact HB.out | apply below_alloc | apply pw_below_drewN | apply below_drew1) | exact HB.out)) hb); clear HB; have HB := n0_; clear n0_; (try clear hb); (try clear hb2); (try clear hk); (try clear hi)) | ((with_reducible refine gate_callee (f := 12) rfl ?_); refine goesL_ (some 52) rfl rfl Tryd.func12 (by kernel_rfl) rfl #[.string a0, .int .i64 a1] rfl (by (try simp only [List.map_toArray, List.map_cons, List.map_nil]); first | done | rfl | (simp only [List.length_drop, List.length_take]; rfl)) ?_; (with_reducible refine (copperplateref07_Raw.calls k2 a0 a1 t180 t181 t182 _ A14.out).mono ?_); rintro e w28 ⟨rfl, hb⟩; refine ⟨_, rfl, ?_⟩; have n0_ := Aside0.mk (below_step (by repeat (first | (with_reducible first | exact HB.out | apply below_alloc | apply pw_below_drewN | apply below_drew1) | exact HB.out)) hb); clear HB; have HB := n0_; clear n0_; (try clear hb); (try clear hb2); (try clear hk); (try clear hi)) | ((with_reducible refine gate_callee (f := 14) rfl ?_); refine goesL_ (some 57) rfl rfl Tryd.func14 (by kernel_rfl) rfl #[.string a0] rfl (by (try simp only [List.map_toArray, List.map_cons, List.map_nil]); first | done | rfl | (simp only [List.length_drop, List.length_take]; rfl)) ?_; (with_reducible refine (fold_Lines.calls a0 t183 _ A15.out).mono ?_); rintro e w29 ⟨v184, rfl, ho0, hb⟩; refine ⟨_, rfl, ?_⟩; have n0_ := Aside0.mk (Kd.R_lower ho0 (below_size (by repeat (first | (with_reducible first | exact HB.out | apply below_alloc | apply pw_below_drewN | apply below_drew1) | exact HB.out)))); have n1_ := Aside0.mk (below_step (by repeat (first | (with_reducible first | exact HB.out | apply below_alloc | apply pw_below_drewN | apply below_drew1) | exact HB.out)) hb); clear HB; have HO185 := n0_; have HB := n1_; clear n0_ n1_; (try clear hb); (try clear hb2); (try clear hk); (try clear hi); (try clear ho0)) | ((with_reducible refine gate_callee (f := 15) rfl ?_); refine goesL_ (some 59) rfl rfl Tryd.func15 (by kernel_rfl) rfl #[.string a0] rfl (by (try simp only [List.map_toArray, List.map_cons, List.map_nil]); first | done | rfl | (simp only [List.length_drop, List.length_take]; rfl)) ?_; (with_reducible refine (copperplateref07_Lines.calls k2 a0 t186 _ A16.out).mono ?_); rintro e w30 ⟨v187, rfl, ho0, hb⟩; refine ⟨_, rfl, ?_⟩; have n0_ := Aside0.mk (Kd.R_elder' (by (with_reducible repeat (first | apply Kd.R_alloc | apply Kd.R_drewN | apply Kd.R_drew)); exact HO185.out) (Kd.R_base ho0) hb); have n1_ := Aside0.mk (Kd.R_lower (Kd.R_new' ho0 (Kd.R_lt (by (with_reducible repeat (first | apply Kd.R_alloc | apply Kd.R_drewN | apply Kd.R_drew)); exact HO185.out))) (below_size (by repeat (first | (with_reducible first | exact HB.out | apply below_alloc | apply pw_below_drewN | apply below_drew1) | exact HB.out)))); have n2_ := Aside0.mk (below_step (by repeat (first | (with_reducible first | exact HB.out | apply below_alloc | apply pw_below_drewN | apply below_drew1) | exact HB.out)) hb); clear HO185; clear HB; have HO185 := n0_; have HO188 := n1_; have HB := n2_; clear n0_ n1_ n2_; (try clear hb); (try clear hb2); (try clear hk); (try clear hi); (try clear ho0); obtain ⟨Ao31, co31, eo31⟩ := Kd.R_slice HO185.out; subst eo31; obtain ⟨Ao32, co32, eo32⟩ := Kd.R_slice HO188.out; subst eo32) | ((with_reducible refine gate_callee (f := 13) rfl ?_); refine goesL_ (some 60) rfl rfl Tryd.func13 (by kernel_rfl) rfl #[.slice Ao31 t183.length co31, .slice Ao32 t186.length co32] rfl (by (try simp only [List.map_toArray, List.map_cons, List.map_nil]); first | done | rfl | (simp only [List.length_drop, List.length_take]; rfl)) ?_; (with_reducible refine (copperplateref07_Texts.calls k2 _ _ t183 _ _ t186 true _ ?side1 ?side2 ?side3 ?side4 A17.out).mono ?_); (case side1 => repeat (first | exact (Kd.R_reads' HO185.out).2.2 | (with_reducible refine Kd.C_alloc ?_ _) | (with_reducible refine Kd.C_drewN ?_ _) | (with_reducible refine Kd.C_drew ?_))); (case side2 => exact (Kd.R_reads' HO185.out).2.1); (case side3 => repeat (first | exact (Kd.R_reads' HO188.out).2.2 | (with_reducible refine Kd.C_alloc ?_ _) | (with_reducible refine Kd.C_drewN ?_ _) | (with_reducible refine Kd.C_drew ?_))); (case side4 => exact (Kd.R_reads' HO188.out).2.1); rintro e w' ⟨rfl, ⟨nd, rfl⟩⟩; refine ⟨_, rfl, ?_⟩) | (go_at_call 16; (with_reducible refine (fold_Indent.calls _ _ l2 t190 _ ?side1 ?side2 A22.out).mono ?_); (case side1 => repeat (first | exact (Kd.C_below HR2.out (by repeat (first | (with_reducible first | exact HB.out | apply below_alloc | apply pw_below_drewN | apply below_drew1) | exact HB.out))) | (with_reducible refine Kd.C_alloc ?_ _) | (with_reducible refine Kd.C_drewN ?_ _) | (with_reducible refine Kd.C_drew ?_))); (case side2 => exact HC2.out); rintro e w33 ⟨rfl, hb⟩; have n0_ := Aside0.mk (Kd.R_below (by (with_reducible repeat (first | apply Kd.R_alloc | apply Kd.R_drewN | apply Kd.R_drew)); exact HO185.out) hb); have n1_ := Aside0.mk (Kd.R_below (by (with_reducible repeat (first | apply Kd.R_alloc | apply Kd.R_drewN | apply Kd.R_drew)); exact HO188.out) hb); have n2_ := Aside0.mk (below_step (by repeat (first | (with_reducible first | exact HB.out | apply below_alloc | apply pw_below_drewN | apply below_drew1) | exact HB.out)) hb); clear HO185; clear HO188; clear HB; have HO185 := n0_; have HO188 := n1_; have HB := n2_; clear n0_ n1_ n2_; (try clear hb); (try clear hb2); (try clear hk); (try clear hi)) | (go_at_call 17; (with_reducible refine (copperplateref07_Indent.calls k2 _ _ l2 t191 _ ?side1 ?side2 A23.out).mono ?_); (case side1 => repeat (first | exact (Kd.C_below HR2.out HB.out) | (with_reducible refine Kd.C_alloc ?_ _) | (with_reducible refine Kd.C_drewN ?_ _) | (with_reducible refine Kd.C_drew ?_))); (case side2 => exact HC2.out); rintro e w' ⟨rfl, ⟨nd, rfl⟩⟩) | (go_at_call 18; (with_reducible refine (fold_Fold.calls a0 t192 _ A25.out).mono ?_); rintro e w34 ⟨rfl, hb⟩; have n0_ := Aside0.mk (Kd.R_below (by (with_reducible repeat (first | apply Kd.R_alloc | apply Kd.R_drewN | apply Kd.R_drew)); exact HO185.out) hb); have n1_ := Aside0.mk (Kd.R_below (by (with_reducible repeat (first | apply Kd.R_alloc | apply Kd.R_drewN | apply Kd.R_drew)); exact HO188.out) hb); have n2_ := Aside0.mk (below_step (by repeat (first | (with_reducible first | exact HB.out | apply below_alloc | apply pw_below_drewN | apply below_drew1) | exact HB.out)) hb); clear HO185; clear HO188; clear HB; have HO185 := n0_; have HO188 := n1_; have HB := n2_; clear n0_ n1_ n2_; (try clear hb); (try clear hb2); (try clear hk); (try clear hi)) | (go_at_call 19; (with_reducible refine (copperplateref07_Fold.calls k2 a0 t193 _ A26.out).mono ?_); rintro e w35 ⟨rfl, hb⟩; have n0_ := Aside0.mk (Kd.R_below (by (with_reducible repeat (first | apply Kd.R_alloc | apply Kd.R_drewN | apply Kd.R_drew)); exact HO185.out) hb); have n1_ := Aside0.mk (Kd.R_below (by (with_reducible repeat (first | apply Kd.R_alloc | apply Kd.R_drewN | apply Kd.R_drew)); exact HO188.out) hb); have n2_ := Aside0.mk (below_step (by repeat (first | (with_reducible first | exact HB.out | apply below_alloc | apply pw_below_drewN | apply below_drew1) | exact HB.out)) hb); clear HO185; clear HO188; clear HB; have HO185 := n0_; have HO188 := n1_; have HB := n2_; clear n0_ n1_ n2_; (try clear hb); (try clear hb2); (try clear hk); (try clear hi)))
                        go_ret
                        exact ⟨by first | rfl | (simp [errW_none, errW_some] <;> rfl) | (simp [*, errW_none, errW_some] <;> rfl), by repeat (first | (with_reducible first | exact HB.out | apply below_alloc | apply pw_below_drewN | apply below_drew1) | exact HB.out)⟩
                      · rw [if_neg c24] at H
                        have c24b0 : (t190 == t191) = false := beq_eq_false_iff_ne.mpr c24
                        have c24b1 : (t190 != t191) = true := bne_iff_ne.mpr c24
                        obtain rfl := Option.some.inj H
                        go_wp2_with (first | ((with_reducible refine gate_callee (f := 11) rfl ?_); refine goesL_ (some 45) rfl rfl Tryd.func11 (by kernel_rfl) rfl #[.string a0, .int .i64 a1] rfl (by (try simp only [List.map_toArray, List.map_cons, List.map_nil]); first | done | rfl | (simp only [List.length_drop, List.length_take]; rfl)) ?_; (with_reducible refine (fold_Raw.calls a0 a1 t177 t178 t179 _ A13.out).mono ?_); rintro e w36 ⟨rfl, hb⟩; refine ⟨_, rfl, ?_⟩; have n0_ := Aside0.mk (below_step (by repeat (first | (with_reducible first | exact HB.out | apply below_alloc | apply pw_below_drewN | apply below_drew1) | exact HB.out)) hb); clear HB; have HB := n0_; clear n0_; (try clear hb); (try clear hb2); (try clear hk); (try clear hi)) | ((with_reducible refine gate_callee (f := 12) rfl ?_); refine goesL_ (some 52) rfl rfl Tryd.func12 (by kernel_rfl) rfl #[.string a0, .int .i64 a1] rfl (by (try simp only [List.map_toArray, List.map_cons, List.map_nil]); first | done | rfl | (simp only [List.length_drop, List.length_take]; rfl)) ?_; (with_reducible refine (copperplateref07_Raw.calls k2 a0 a1 t180 t181 t182 _ A14.out).mono ?_); rintro e w37 ⟨rfl, hb⟩; refine ⟨_, rfl, ?_⟩; have n0_ := Aside0.mk (below_step (by repeat (first | (with_reducible first | exact HB.out | apply below_alloc | apply pw_below_drewN | apply below_drew1) | exact HB.out)) hb); clear HB; have HB := n0_; clear n0_; (try clear hb); (try clear hb2); (try clear hk); (try clear hi)) | ((with_reducible refine gate_callee (f := 14) rfl ?_); refine goesL_ (some 57) rfl rfl Tryd.func14 (by kernel_rfl) rfl #[.string a0] rfl (by (try simp only [List.map_toArray, List.map_cons, List.map_nil]); first | done | rfl | (simp only [List.length_drop, List.length_take]; rfl)) ?_; (with_reducible refine (fold_Lines.calls a0 t183 _ A15.out).mono ?_); rintro e w38 ⟨v184, rfl, ho0, hb⟩; refine ⟨_, rfl, ?_⟩; have n0_ := Aside0.mk (Kd.R_lower ho0 (below_size (by repeat (first | (with_reducible first | exact HB.out | apply below_alloc | apply pw_below_drewN | apply below_drew1) | exact HB.out)))); have n1_ := Aside0.mk (below_step (by repeat (first | (with_reducible first | exact HB.out | apply below_alloc | apply pw_below_drewN | apply below_drew1) | exact HB.out)) hb); clear HB; have HO185 := n0_; have HB := n1_; clear n0_ n1_; (try clear hb); (try clear hb2); (try clear hk); (try clear hi); (try clear ho0)) | ((with_reducible refine gate_callee (f := 15) rfl ?_); refine goesL_ (some 59) rfl rfl Tryd.func15 (by kernel_rfl) rfl #[.string a0] rfl (by (try simp only [List.map_toArray, List.map_cons, List.map_nil]); first | done | rfl | (simp only [List.length_drop, List.length_take]; rfl)) ?_; (with_reducible refine (copperplateref07_Lines.calls k2 a0 t186 _ A16.out).mono ?_); rintro e w39 ⟨v187, rfl, ho0, hb⟩; refine ⟨_, rfl, ?_⟩; have n0_ := Aside0.mk (Kd.R_elder' (by (with_reducible repeat (first | apply Kd.R_alloc | apply Kd.R_drewN | apply Kd.R_drew)); exact HO185.out) (Kd.R_base ho0) hb); have n1_ := Aside0.mk (Kd.R_lower (Kd.R_new' ho0 (Kd.R_lt (by (with_reducible repeat (first | apply Kd.R_alloc | apply Kd.R_drewN | apply Kd.R_drew)); exact HO185.out))) (below_size (by repeat (first | (with_reducible first | exact HB.out | apply below_alloc | apply pw_below_drewN | apply below_drew1) | exact HB.out)))); have n2_ := Aside0.mk (below_step (by repeat (first | (with_reducible first | exact HB.out | apply below_alloc | apply pw_below_drewN | apply below_drew1) | exact HB.out)) hb); clear HO185; clear HB; have HO185 := n0_; have HO188 := n1_; have HB := n2_; clear n0_ n1_ n2_; (try clear hb); (try clear hb2); (try clear hk); (try clear hi); (try clear ho0); obtain ⟨Ao40, co40, eo40⟩ := Kd.R_slice HO185.out; subst eo40; obtain ⟨Ao41, co41, eo41⟩ := Kd.R_slice HO188.out; subst eo41) | ((with_reducible refine gate_callee (f := 13) rfl ?_); refine goesL_ (some 60) rfl rfl Tryd.func13 (by kernel_rfl) rfl #[.slice Ao40 t183.length co40, .slice Ao41 t186.length co41] rfl (by (try simp only [List.map_toArray, List.map_cons, List.map_nil]); first | done | rfl | (simp only [List.length_drop, List.length_take]; rfl)) ?_; (with_reducible refine (copperplateref07_Texts.calls k2 _ _ t183 _ _ t186 true _ ?side1 ?side2 ?side3 ?side4 A17.out).mono ?_); (case side1 => repeat (first | exact (Kd.R_reads' HO185.out).2.2 | (with_reducible refine Kd.C_alloc ?_ _) | (with_reducible refine Kd.C_drewN ?_ _) | (with_reducible refine Kd.C_drew ?_))); (case side2 => exact (Kd.R_reads' HO185.out).2.1); (case side3 => repeat (first | exact (Kd.R_reads' HO188.out).2.2 | (with_reducible refine Kd.C_alloc ?_ _) | (with_reducible refine Kd.C_drewN ?_ _) | (with_reducible refine Kd.C_drew ?_))); (case side4 => exact (Kd.R_reads' HO188.out).2.1); rintro e w' ⟨rfl, ⟨nd, rfl⟩⟩; refine ⟨_, rfl, ?_⟩) | (go_at_call 16; (with_reducible refine (fold_Indent.calls _ _ l2 t190 _ ?side1 ?side2 A22.out).mono ?_); (case side1 => repeat (first | exact (Kd.C_below HR2.out (by repeat (first | (with_reducible first | exact HB.out | apply below_alloc | apply pw_below_drewN | apply below_drew1) | exact HB.out))) | (with_reducible refine Kd.C_alloc ?_ _) | (with_reducible refine Kd.C_drewN ?_ _) | (with_reducible refine Kd.C_drew ?_))); (case side2 => exact HC2.out); rintro e w42 ⟨rfl, hb⟩; have n0_ := Aside0.mk (Kd.R_below (by (with_reducible repeat (first | apply Kd.R_alloc | apply Kd.R_drewN | apply Kd.R_drew)); exact HO185.out) hb); have n1_ := Aside0.mk (Kd.R_below (by (with_reducible repeat (first | apply Kd.R_alloc | apply Kd.R_drewN | apply Kd.R_drew)); exact HO188.out) hb); have n2_ := Aside0.mk (below_step (by repeat (first | (with_reducible first | exact HB.out | apply below_alloc | apply pw_below_drewN | apply below_drew1) | exact HB.out)) hb); clear HO185; clear HO188; clear HB; have HO185 := n0_; have HO188 := n1_; have HB := n2_; clear n0_ n1_ n2_; (try clear hb); (try clear hb2); (try clear hk); (try clear hi)) | (go_at_call 17; (with_reducible refine (copperplateref07_Indent.calls k2 _ _ l2 t191 _ ?side1 ?side2 A23.out).mono ?_); (case side1 => repeat (first | exact (Kd.C_below HR2.out HB.out) | (with_reducible refine Kd.C_alloc ?_ _) | (with_reducible refine Kd.C_drewN ?_ _) | (with_reducible refine Kd.C_drew ?_))); (case side2 => exact HC2.out); rintro e w' ⟨rfl, ⟨nd, rfl⟩⟩))
                        go_ret
                        exact ⟨by first | rfl | (simp [errW_none, errW_some] <;> rfl) | (simp [*, errW_none, errW_some] <;> rfl), by repeat (first | (with_reducible first | exact HB.out | apply below_alloc | apply pw_below_drewN | apply below_drew1) | exact HB.out)⟩
                    · replace c21 := Bool.eq_false_iff.mpr c21
                      subst c21
                      have H1 : (some false) = some r := by rw [if_neg (show ¬ (false = true) by decide)] at H; exact H
                      clear H
                      have H := H1
                      clear H1
                      obtain rfl := Option.some.inj H
                      go_wp2_with (first | ((with_reducible refine gate_callee (f := 11) rfl ?_); refine goesL_ (some 45) rfl rfl Tryd.func11 (by kernel_rfl) rfl #[.string a0, .int .i64 a1] rfl (by (try simp only [List.map_toArray, List.map_cons, List.map_nil]); first | done | rfl | (simp only [List.length_drop, List.length_take]; rfl)) ?_; (with_reducible refine (fold_Raw.calls a0 a1 t177 t178 t179 _ A13.out).mono ?_); rintro e w43 ⟨rfl, hb⟩; refine ⟨_, rfl, ?_⟩; have n0_ := Aside0.mk (below_step (by repeat (first | (with_reducible first | exact HB.out | apply below_alloc | apply pw_below_drewN | apply below_drew1) | exact HB.out)) hb); clear HB; have HB := n0_; clear n0_; (try clear hb); (try clear hb2); (try clear hk); (try clear hi)) | ((with_reducible refine gate_callee (f := 12) rfl ?_); refine goesL_ (some 52) rfl rfl Tryd.func12 (by kernel_rfl) rfl #[.string a0, .int .i64 a1] rfl (by (try simp only [List.map_toArray, List.map_cons, List.map_nil]); first | done | rfl | (simp only [List.length_drop, List.length_take]; rfl)) ?_; (with_reducible refine (copperplateref07_Raw.calls k2 a0 a1 t180 t181 t182 _ A14.out).mono ?_); rintro e w44 ⟨rfl, hb⟩; refine ⟨_, rfl, ?_⟩; have n0_ := Aside0.mk (below_step (by repeat (first | (with_reducible first | exact HB.out | apply below_alloc | apply pw_below_drewN | apply below_drew1) | exact HB.out)) hb); clear HB; have HB := n0_; clear n0_; (try clear hb); (try clear hb2); (try clear hk); (try clear hi)) | ((with_reducible refine gate_callee (f := 14) rfl ?_); refine goesL_ (some 57) rfl rfl Tryd.func14 (by kernel_rfl) rfl #[.string a0] rfl (by (try simp only [List.map_toArray, List.map_cons, List.map_nil]); first | done | rfl | (simp only [List.length_drop, List.length_take]; rfl)) ?_; (with_reducible refine (fold_Lines.calls a0 t183 _ A15.out).mono ?_); rintro e w45 ⟨v184, rfl, ho0, hb⟩; refine ⟨_, rfl, ?_⟩; have n0_ := Aside0.mk (Kd.R_lower ho0 (below_size (by repeat (first | (with_reducible first | exact HB.out | apply below_alloc | apply pw_below_drewN | apply below_drew1) | exact HB.out)))); have n1_ := Aside0.mk (below_step (by repeat (first | (with_reducible first | exact HB.out | apply below_alloc | apply pw_below_drewN | apply below_drew1) | exact HB.out)) hb); clear HB; have HO185 := n0_; have HB := n1_; clear n0_ n1_; (try clear hb); (try clear hb2); (try clear hk); (try clear hi); (try clear ho0)) | ((with_reducible refine gate_callee (f := 15) rfl ?_); refine goesL_ (some 59) rfl rfl Tryd.func15 (by kernel_rfl) rfl #[.string a0] rfl (by (try simp only [List.map_toArray, List.map_cons, List.map_nil]); first | done | rfl | (simp only [List.length_drop, List.length_take]; rfl)) ?_; (with_reducible refine (copperplateref07_Lines.calls k2 a0 t186 _ A16.out).mono ?_); rintro e w46 ⟨v187, rfl, ho0, hb⟩; refine ⟨_, rfl, ?_⟩; have n0_ := Aside0.mk (Kd.R_elder' (by (with_reducible repeat (first | apply Kd.R_alloc | apply Kd.R_drewN | apply Kd.R_drew)); exact HO185.out) (Kd.R_base ho0) hb); have n1_ := Aside0.mk (Kd.R_lower (Kd.R_new' ho0 (Kd.R_lt (by (with_reducible repeat (first | apply Kd.R_alloc | apply Kd.R_drewN | apply Kd.R_drew)); exact HO185.out))) (below_size (by repeat (first | (with_reducible first | exact HB.out | apply below_alloc | apply pw_below_drewN | apply below_drew1) | exact HB.out)))); have n2_ := Aside0.mk (below_step (by repeat (first | (with_reducible first | exact HB.out | apply below_alloc | apply pw_below_drewN | apply below_drew1) | exact HB.out)) hb); clear HO185; clear HB; have HO185 := n0_; have HO188 := n1_; have HB := n2_; clear n0_ n1_ n2_; (try clear hb); (try clear hb2); (try clear hk); (try clear hi); (try clear ho0); obtain ⟨Ao47, co47, eo47⟩ := Kd.R_slice HO185.out; subst eo47; obtain ⟨Ao48, co48, eo48⟩ := Kd.R_slice HO188.out; subst eo48) | ((with_reducible refine gate_callee (f := 13) rfl ?_); refine goesL_ (some 60) rfl rfl Tryd.func13 (by kernel_rfl) rfl #[.slice Ao47 t183.length co47, .slice Ao48 t186.length co48] rfl (by (try simp only [List.map_toArray, List.map_cons, List.map_nil]); first | done | rfl | (simp only [List.length_drop, List.length_take]; rfl)) ?_; (with_reducible refine (copperplateref07_Texts.calls k2 _ _ t183 _ _ t186 false _ ?side1 ?side2 ?side3 ?side4 A17.out).mono ?_); (case side1 => repeat (first | exact (Kd.R_reads' HO185.out).2.2 | (with_reducible refine Kd.C_alloc ?_ _) | (with_reducible refine Kd.C_drewN ?_ _) | (with_reducible refine Kd.C_drew ?_))); (case side2 => exact (Kd.R_reads' HO185.out).2.1); (case side3 => repeat (first | exact (Kd.R_reads' HO188.out).2.2 | (with_reducible refine Kd.C_alloc ?_ _) | (with_reducible refine Kd.C_drewN ?_ _) | (with_reducible refine Kd.C_drew ?_))); (case side4 => exact (Kd.R_reads' HO188.out).2.1); rintro e w' ⟨rfl, ⟨nd, rfl⟩⟩; refine ⟨_, rfl, ?_⟩))
                      go_ret
                      exact ⟨by first | rfl | (simp [errW_none, errW_some] <;> rfl) | (simp [*, errW_none, errW_some] <;> rfl), by repeat (first | (with_reducible first | exact HB.out | apply below_alloc | apply pw_below_drewN | apply below_drew1) | exact HB.out)⟩
                  · rw [if_neg c20] at H
                    have c20b0 : (t179 == t182) = false := by simpa using c20
                    (try (have c20b1 : decide (t179 = t182) = false := by simpa using c20))
                    (try (have c20b2 : (t179 == t182) = false := by simpa using c20))
                    (try (have c20b3 : ¬ (t179 = t182) := by simpa using c20))
                    clear c20
                    obtain rfl := Option.some.inj H
                    go_wp2_with (first | ((with_reducible refine gate_callee (f := 11) rfl ?_); refine goesL_ (some 45) rfl rfl Tryd.func11 (by kernel_rfl) rfl #[.string a0, .int .i64 a1] rfl (by (try simp only [List.map_toArray, List.map_cons, List.map_nil]); first | done | rfl | (simp only [List.length_drop, List.length_take]; rfl)) ?_; (with_reducible refine (fold_Raw.calls a0 a1 t177 t178 t179 _ A13.out).mono ?_); rintro e w49 ⟨rfl, hb⟩; refine ⟨_, rfl, ?_⟩; have n0_ := Aside0.mk (below_step (by repeat (first | (with_reducible first | exact HB.out | apply below_alloc | apply pw_below_drewN | apply below_drew1) | exact HB.out)) hb); clear HB; have HB := n0_; clear n0_; (try clear hb); (try clear hb2); (try clear hk); (try clear hi)) | ((with_reducible refine gate_callee (f := 12) rfl ?_); refine goesL_ (some 52) rfl rfl Tryd.func12 (by kernel_rfl) rfl #[.string a0, .int .i64 a1] rfl (by (try simp only [List.map_toArray, List.map_cons, List.map_nil]); first | done | rfl | (simp only [List.length_drop, List.length_take]; rfl)) ?_; (with_reducible refine (copperplateref07_Raw.calls k2 a0 a1 t180 t181 t182 _ A14.out).mono ?_); rintro e w50 ⟨rfl, hb⟩; refine ⟨_, rfl, ?_⟩; have n0_ := Aside0.mk (below_step (by repeat (first | (with_reducible first | exact HB.out | apply below_alloc | apply pw_below_drewN | apply below_drew1) | exact HB.out)) hb); clear HB; have HB := n0_; clear n0_; (try clear hb); (try clear hb2); (try clear hk); (try clear hi)) | ((with_reducible refine gate_callee (f := 14) rfl ?_); refine goesL_ (some 57) rfl rfl Tryd.func14 (by kernel_rfl) rfl #[.string a0] rfl (by (try simp only [List.map_toArray, List.map_cons, List.map_nil]); first | done | rfl | (simp only [List.length_drop, List.length_take]; rfl)) ?_; (with_reducible refine (fold_Lines.calls a0 t183 _ A15.out).mono ?_); rintro e w51 ⟨v184, rfl, ho0, hb⟩; refine ⟨_, rfl, ?_⟩; have n0_ := Aside0.mk (Kd.R_lower ho0 (below_size (by repeat (first | (with_reducible first | exact HB.out | apply below_alloc | apply pw_below_drewN | apply below_drew1) | exact HB.out)))); have n1_ := Aside0.mk (below_step (by repeat (first | (with_reducible first | exact HB.out | apply below_alloc | apply pw_below_drewN | apply below_drew1) | exact HB.out)) hb); clear HB; have HO185 := n0_; have HB := n1_; clear n0_ n1_; (try clear hb); (try clear hb2); (try clear hk); (try clear hi); (try clear ho0)) | ((with_reducible refine gate_callee (f := 15) rfl ?_); refine goesL_ (some 59) rfl rfl Tryd.func15 (by kernel_rfl) rfl #[.string a0] rfl (by (try simp only [List.map_toArray, List.map_cons, List.map_nil]); first | done | rfl | (simp only [List.length_drop, List.length_take]; rfl)) ?_; (with_reducible refine (copperplateref07_Lines.calls k2 a0 t186 _ A16.out).mono ?_); rintro e w52 ⟨v187, rfl, ho0, hb⟩; refine ⟨_, rfl, ?_⟩; have n0_ := Aside0.mk (Kd.R_elder' (by (with_reducible repeat (first | apply Kd.R_alloc | apply Kd.R_drewN | apply Kd.R_drew)); exact HO185.out) (Kd.R_base ho0) hb); have n1_ := Aside0.mk (Kd.R_lower (Kd.R_new' ho0 (Kd.R_lt (by (with_reducible repeat (first | apply Kd.R_alloc | apply Kd.R_drewN | apply Kd.R_drew)); exact HO185.out))) (below_size (by repeat (first | (with_reducible first | exact HB.out | apply below_alloc | apply pw_below_drewN | apply below_drew1) | exact HB.out)))); have n2_ := Aside0.mk (below_step (by repeat (first | (with_reducible first | exact HB.out | apply below_alloc | apply pw_below_drewN | apply below_drew1) | exact HB.out)) hb); clear HO185; clear HB; have HO185 := n0_; have HO188 := n1_; have HB := n2_; clear n0_ n1_ n2_; (try clear hb); (try clear hb2); (try clear hk); (try clear hi); (try clear ho0); obtain ⟨Ao53, co53, eo53⟩ := Kd.R_slice HO185.out; subst eo53; obtain ⟨Ao54, co54, eo54⟩ := Kd.R_slice HO188.out; subst eo54) | ((with_reducible refine gate_callee (f := 13) rfl ?_); refine goesL_ (some 60) rfl rfl Tryd.func13 (by kernel_rfl) rfl #[.slice Ao53 t183.length co53, .slice Ao54 t186.length co54] rfl (by (try simp only [List.map_toArray, List.map_cons, List.map_nil]); first | done | rfl | (simp only [List.length_drop, List.length_take]; rfl)) ?_; (with_reducible refine (copperplateref07_Texts.calls k2 _ _ t183 _ _ t186 t189 _ ?side1 ?side2 ?side3 ?side4 A17.out).mono ?_); (case side1 => repeat (first | exact (Kd.R_reads' HO185.out).2.2 | (with_reducible refine Kd.C_alloc ?_ _) | (with_reducible refine Kd.C_drewN ?_ _) | (with_reducible refine Kd.C_drew ?_))); (case side2 => exact (Kd.R_reads' HO185.out).2.1); (case side3 => repeat (first | exact (Kd.R_reads' HO188.out).2.2 | (with_reducible refine Kd.C_alloc ?_ _) | (with_reducible refine Kd.C_drewN ?_ _) | (with_reducible refine Kd.C_drew ?_))); (case side4 => exact (Kd.R_reads' HO188.out).2.1); rintro e w' ⟨rfl, ⟨nd, rfl⟩⟩; refine ⟨_, rfl, ?_⟩))
                    go_ret
                    exact ⟨by first | rfl | (simp [errW_none, errW_some] <;> rfl) | (simp [*, errW_none, errW_some] <;> rfl), by repeat (first | (with_reducible first | exact HB.out | apply below_alloc | apply pw_below_drewN | apply below_drew1) | exact HB.out)⟩
                · rw [if_neg c19] at H
                  have c19b0 : (t178 == t181) = false := beq_eq_false_iff_ne.mpr c19
                  have c19b1 : (t178 != t181) = true := bne_iff_ne.mpr c19
                  obtain rfl := Option.some.inj H
                  go_wp2_with (first | ((with_reducible refine gate_callee (f := 11) rfl ?_); refine goesL_ (some 45) rfl rfl Tryd.func11 (by kernel_rfl) rfl #[.string a0, .int .i64 a1] rfl (by (try simp only [List.map_toArray, List.map_cons, List.map_nil]); first | done | rfl | (simp only [List.length_drop, List.length_take]; rfl)) ?_; (with_reducible refine (fold_Raw.calls a0 a1 t177 t178 t179 _ A13.out).mono ?_); rintro e w55 ⟨rfl, hb⟩; refine ⟨_, rfl, ?_⟩; have n0_ := Aside0.mk (below_step (by repeat (first | (with_reducible first | exact HB.out | apply below_alloc | apply pw_below_drewN | apply below_drew1) | exact HB.out)) hb); clear HB; have HB := n0_; clear n0_; (try clear hb); (try clear hb2); (try clear hk); (try clear hi)) | ((with_reducible refine gate_callee (f := 12) rfl ?_); refine goesL_ (some 52) rfl rfl Tryd.func12 (by kernel_rfl) rfl #[.string a0, .int .i64 a1] rfl (by (try simp only [List.map_toArray, List.map_cons, List.map_nil]); first | done | rfl | (simp only [List.length_drop, List.length_take]; rfl)) ?_; (with_reducible refine (copperplateref07_Raw.calls k2 a0 a1 t180 t181 t182 _ A14.out).mono ?_); rintro e w56 ⟨rfl, hb⟩; refine ⟨_, rfl, ?_⟩; have n0_ := Aside0.mk (below_step (by repeat (first | (with_reducible first | exact HB.out | apply below_alloc | apply pw_below_drewN | apply below_drew1) | exact HB.out)) hb); clear HB; have HB := n0_; clear n0_; (try clear hb); (try clear hb2); (try clear hk); (try clear hi)) | ((with_reducible refine gate_callee (f := 14) rfl ?_); refine goesL_ (some 57) rfl rfl Tryd.func14 (by kernel_rfl) rfl #[.string a0] rfl (by (try simp only [List.map_toArray, List.map_cons, List.map_nil]); first | done | rfl | (simp only [List.length_drop, List.length_take]; rfl)) ?_; (with_reducible refine (fold_Lines.calls a0 t183 _ A15.out).mono ?_); rintro e w57 ⟨v184, rfl, ho0, hb⟩; refine ⟨_, rfl, ?_⟩; have n0_ := Aside0.mk (Kd.R_lower ho0 (below_size (by repeat (first | (with_reducible first | exact HB.out | apply below_alloc | apply pw_below_drewN | apply below_drew1) | exact HB.out)))); have n1_ := Aside0.mk (below_step (by repeat (first | (with_reducible first | exact HB.out | apply below_alloc | apply pw_below_drewN | apply below_drew1) | exact HB.out)) hb); clear HB; have HO185 := n0_; have HB := n1_; clear n0_ n1_; (try clear hb); (try clear hb2); (try clear hk); (try clear hi); (try clear ho0)) | ((with_reducible refine gate_callee (f := 15) rfl ?_); refine goesL_ (some 59) rfl rfl Tryd.func15 (by kernel_rfl) rfl #[.string a0] rfl (by (try simp only [List.map_toArray, List.map_cons, List.map_nil]); first | done | rfl | (simp only [List.length_drop, List.length_take]; rfl)) ?_; (with_reducible refine (copperplateref07_Lines.calls k2 a0 t186 _ A16.out).mono ?_); rintro e w58 ⟨v187, rfl, ho0, hb⟩; refine ⟨_, rfl, ?_⟩; have n0_ := Aside0.mk (Kd.R_elder' (by (with_reducible repeat (first | apply Kd.R_alloc | apply Kd.R_drewN | apply Kd.R_drew)); exact HO185.out) (Kd.R_base ho0) hb); have n1_ := Aside0.mk (Kd.R_lower (Kd.R_new' ho0 (Kd.R_lt (by (with_reducible repeat (first | apply Kd.R_alloc | apply Kd.R_drewN | apply Kd.R_drew)); exact HO185.out))) (below_size (by repeat (first | (with_reducible first | exact HB.out | apply below_alloc | apply pw_below_drewN | apply below_drew1) | exact HB.out)))); have n2_ := Aside0.mk (below_step (by repeat (first | (with_reducible first | exact HB.out | apply below_alloc | apply pw_below_drewN | apply below_drew1) | exact HB.out)) hb); clear HO185; clear HB; have HO185 := n0_; have HO188 := n1_; have HB := n2_; clear n0_ n1_ n2_; (try clear hb); (try clear hb2); (try clear hk); (try clear hi); (try clear ho0); obtain ⟨Ao59, co59, eo59⟩ := Kd.R_slice HO185.out; subst eo59; obtain ⟨Ao60, co60, eo60⟩ := Kd.R_slice HO188.out; subst eo60) | ((with_reducible refine gate_callee (f := 13) rfl ?_); refine goesL_ (some 60) rfl rfl Tryd.func13 (by kernel_rfl) rfl #[.slice Ao59 t183.length co59, .slice Ao60 t186.length co60] rfl (by (try simp only [List.map_toArray, List.map_cons, List.map_nil]); first | done | rfl | (simp only [List.length_drop, List.length_take]; rfl)) ?_; (with_reducible refine (copperplateref07_Texts.calls k2 _ _ t183 _ _ t186 t189 _ ?side1 ?side2 ?side3 ?side4 A17.out).mono ?_); (case side1 => repeat (first | exact (Kd.R_reads' HO185.out).2.2 | (with_reducible refine Kd.C_alloc ?_ _) | (with_reducible refine Kd.C_drewN ?_ _) | (with_reducible refine Kd.C_drew ?_))); (case side2 => exact (Kd.R_reads' HO185.out).2.1); (case side3 => repeat (first | exact (Kd.R_reads' HO188.out).2.2 | (with_reducible refine Kd.C_alloc ?_ _) | (with_reducible refine Kd.C_drewN ?_ _) | (with_reducible refine Kd.C_drew ?_))); (case side4 => exact (Kd.R_reads' HO188.out).2.1); rintro e w' ⟨rfl, ⟨nd, rfl⟩⟩; refine ⟨_, rfl, ?_⟩))
                  go_ret
                  exact ⟨by first | rfl | (simp [errW_none, errW_some] <;> rfl) | (simp [*, errW_none, errW_some] <;> rfl), by repeat (first | (with_reducible first | exact HB.out | apply below_alloc | apply pw_below_drewN | apply below_drew1) | exact HB.out)⟩
              · rw [if_neg c18] at H
                have c18b0 : (t177.toList == t180.toList) = false := beq_eq_false_iff_ne.mpr c18
                have c18b1 : (t177.toList != t180.toList) = true := bne_iff_ne.mpr c18
                obtain rfl := Option.some.inj H
                go_wp2_with (first | ((with_reducible refine gate_callee (f := 11) rfl ?_); refine goesL_ (some 45) rfl rfl Tryd.func11 (by kernel_rfl) rfl #[.string a0, .int .i64 a1] rfl (by (try simp only [List.map_toArray, List.map_cons, List.map_nil]); first | done | rfl | (simp only [List.length_drop, List.length_take]; rfl)) ?_; (with_reducible refine (fold_Raw.calls a0 a1 t177 t178 t179 _ A13.out).mono ?_); rintro e w61 ⟨rfl, hb⟩; refine ⟨_, rfl, ?_⟩; have n0_ := Aside0.mk (below_step (by repeat (first | (with_reducible first | exact HB.out | apply below_alloc | apply pw_below_drewN | apply below_drew1) | exact HB.out)) hb); clear HB; have HB := n0_; clear n0_; (try clear hb); (try clear hb2); (try clear hk); (try clear hi)) | ((with_reducible refine gate_callee (f := 12) rfl ?_); refine goesL_ (some 52) rfl rfl Tryd.func12 (by kernel_rfl) rfl #[.string a0, .int .i64 a1] rfl (by (try simp only [List.map_toArray, List.map_cons, List.map_nil]); first | done | rfl | (simp only [List.length_drop, List.length_take]; rfl)) ?_; (with_reducible refine (copperplateref07_Raw.calls k2 a0 a1 t180 t181 t182 _ A14.out).mono ?_); rintro e w62 ⟨rfl, hb⟩; refine ⟨_, rfl, ?_⟩; have n0_ := Aside0.mk (below_step (by repeat (first | (with_reducible first | exact HB.out | apply below_alloc | apply pw_below_drewN | apply below_drew1) | exact HB.out)) hb); clear HB; have HB := n0_; clear n0_; (try clear hb); (try clear hb2); (try clear hk); (try clear hi)) | ((with_reducible refine gate_callee (f := 14) rfl ?_); refine goesL_ (some 57) rfl rfl Tryd.func14 (by kernel_rfl) rfl #[.string a0] rfl (by (try simp only [List.map_toArray, List.map_cons, List.map_nil]); first | done | rfl | (simp only [List.length_drop, List.length_take]; rfl)) ?_; (with_reducible refine (fold_Lines.calls a0 t183 _ A15.out).mono ?_); rintro e w63 ⟨v184, rfl, ho0, hb⟩; refine ⟨_, rfl, ?_⟩; have n0_ := Aside0.mk (Kd.R_lower ho0 (below_size (by repeat (first | (with_reducible first | exact HB.out | apply below_alloc | apply pw_below_drewN | apply below_drew1) | exact HB.out)))); have n1_ := Aside0.mk (below_step (by repeat (first | (with_reducible first | exact HB.out | apply below_alloc | apply pw_below_drewN | apply below_drew1) | exact HB.out)) hb); clear HB; have HO185 := n0_; have HB := n1_; clear n0_ n1_; (try clear hb); (try clear hb2); (try clear hk); (try clear hi); (try clear ho0)) | ((with_reducible refine gate_callee (f := 15) rfl ?_); refine goesL_ (some 59) rfl rfl Tryd.func15 (by kernel_rfl) rfl #[.string a0] rfl (by (try simp only [List.map_toArray, List.map_cons, List.map_nil]); first | done | rfl | (simp only [List.length_drop, List.length_take]; rfl)) ?_; (with_reducible refine (copperplateref07_Lines.calls k2 a0 t186 _ A16.out).mono ?_); rintro e w64 ⟨v187, rfl, ho0, hb⟩; refine ⟨_, rfl, ?_⟩; have n0_ := Aside0.mk (Kd.R_elder' (by (with_reducible repeat (first | apply Kd.R_alloc | apply Kd.R_drewN | apply Kd.R_drew)); exact HO185.out) (Kd.R_base ho0) hb); have n1_ := Aside0.mk (Kd.R_lower (Kd.R_new' ho0 (Kd.R_lt (by (with_reducible repeat (first | apply Kd.R_alloc | apply Kd.R_drewN | apply Kd.R_drew)); exact HO185.out))) (below_size (by repeat (first | (with_reducible first | exact HB.out | apply below_alloc | apply pw_below_drewN | apply below_drew1) | exact HB.out)))); have n2_ := Aside0.mk (below_step (by repeat (first | (with_reducible first | exact HB.out | apply below_alloc | apply pw_below_drewN | apply below_drew1) | exact HB.out)) hb); clear HO185; clear HB; have HO185 := n0_; have HO188 := n1_; have HB := n2_; clear n0_ n1_ n2_; (try clear hb); (try clear hb2); (try clear hk); (try clear hi); (try clear ho0); obtain ⟨Ao65, co65, eo65⟩ := Kd.R_slice HO185.out; subst eo65; obtain ⟨Ao66, co66, eo66⟩ := Kd.R_slice HO188.out; subst eo66) | ((with_reducible refine gate_callee (f := 13) rfl ?_); refine goesL_ (some 60) rfl rfl Tryd.func13 (by kernel_rfl) rfl #[.slice Ao65 t183.length co65, .slice Ao66 t186.length co66] rfl (by (try simp only [List.map_toArray, List.map_cons, List.map_nil]); first | done | rfl | (simp only [List.length_drop, List.length_take]; rfl)) ?_; (with_reducible refine (copperplateref07_Texts.calls k2 _ _ t183 _ _ t186 t189 _ ?side1 ?side2 ?side3 ?side4 A17.out).mono ?_); (case side1 => repeat (first | exact (Kd.R_reads' HO185.out).2.2 | (with_reducible refine Kd.C_alloc ?_ _) | (with_reducible refine Kd.C_drewN ?_ _) | (with_reducible refine Kd.C_drew ?_))); (case side2 => exact (Kd.R_reads' HO185.out).2.1); (case side3 => repeat (first | exact (Kd.R_reads' HO188.out).2.2 | (with_reducible refine Kd.C_alloc ?_ _) | (with_reducible refine Kd.C_drewN ?_ _) | (with_reducible refine Kd.C_drew ?_))); (case side4 => exact (Kd.R_reads' HO188.out).2.1); rintro e w' ⟨rfl, ⟨nd, rfl⟩⟩; refine ⟨_, rfl, ?_⟩))
                go_ret
                exact ⟨by first | rfl | (simp [errW_none, errW_some] <;> rfl) | (simp [*, errW_none, errW_some] <;> rfl), by repeat (first | (with_reducible first | exact HB.out | apply below_alloc | apply pw_below_drewN | apply below_drew1) | exact HB.out)⟩

/-! ### copperplatelaw07_FoldEnds: function 4 -/
def copperplatelaw07_FoldEnds.j0 : Nat → ByteArray → Int → ByteArray → Bool → Bool → Option (Bool)
  | 0, _, _, _, _, _ => none
  | k + 1, x0, x1, x2, x7, x27 => if x27 = true then (some x7) else ((fold_Raw.f x0 x1).bind fun bt195 => (if bt195.2.2 = true then (if x1 < 0 then (some false) else (if bt195.2.1 > (x0.size : Int) then (some false) else (if bt195.2.1 < (wrap64 (x1 + 6)) then (some false) else (if 0 ≤ x1 then (if x1 ≤ bt195.2.1 then (if bt195.2.1 ≤ (x0.size : Int) then (if (x0.extract (x1 : Int).toNat (bt195.2.1 : Int).toNat).size + x2.size ≤ 9223372036854775807 then ((fold_Raw.f ((x0.extract (x1 : Int).toNat (bt195.2.1 : Int).toNat) ++ x2) 0).bind fun bt198 => (if bt198.2.2 = true then (if bt198.1.toList = bt195.1.toList then (if bt198.2.1 = ((x0.extract (x1 : Int).toNat (bt195.2.1 : Int).toNat).size : Int) then (if 0 ≤ 3 then (if 3 ≤ ((x0.extract (x1 : Int).toNat (bt195.2.1 : Int).toNat).size : Int) then (if ((x0.extract (x1 : Int).toNat (bt195.2.1 : Int).toNat).extract 0 3).toList = ([34, 34, 34] : List UInt8) then (if 0 ≤ (wrap64 (((x0.extract (x1 : Int).toNat (bt195.2.1 : Int).toNat).size : Int) - 3)) then (if (wrap64 (((x0.extract (x1 : Int).toNat (bt195.2.1 : Int).toNat).size : Int) - 3)) ≤ ((x0.extract (x1 : Int).toNat (bt195.2.1 : Int).toNat).size : Int) then (some (((x0.extract (x1 : Int).toNat (bt195.2.1 : Int).toNat).extract ((wrap64 (((x0.extract (x1 : Int).toNat (bt195.2.1 : Int).toNat).size : Int) - 3)) : Int).toNat (x0.extract (x1 : Int).toNat (bt195.2.1 : Int).toNat).size).toList == ([34, 34, 34] : List UInt8))) else (none)) else (none)) else (some false)) else (none)) else (none)) else (some false)) else (some false)) else (some false))) else (none)) else (none)) else (none)) else (none))))) else (if bt195.1.toList = ([] : List UInt8) then (if bt195.2.1 = x1 then (some true) else (if bt195.2.1 > x1 then (some (decide (bt195.2.1 ≤ (x0.size : Int)))) else (some false))) else (some false))))
def copperplatelaw07_FoldEnds.f (k : Nat) (a0 : ByteArray) (a1 : Int) (a2 : ByteArray) : Option (Bool) := (copperplatelaw07_awake.f).bind fun t194 => (if t194 = true then (if (a0.size : Int) > 300 then (copperplatelaw07_FoldEnds.j0 k a0 a1 a2 t194 true) else (copperplatelaw07_FoldEnds.j0 k a0 a1 a2 t194 (decide ((a2.size : Int) > 300)))) else (copperplatelaw07_FoldEnds.j0 k a0 a1 a2 t194 true))
theorem copperplatelaw07_FoldEnds.mono_l : ∀ k, (∀ y0 y1 y2 y3 y4, LeO (copperplatelaw07_FoldEnds.j0 k y0 y1 y2 y3 y4) (copperplatelaw07_FoldEnds.j0 (k + 1) y0 y1 y2 y3 y4))
  | 0 => fun _ _ _ _ _ r h => by simp [copperplatelaw07_FoldEnds.j0] at h
  | k + 1 => by
    have ih0 := copperplatelaw07_FoldEnds.mono_l k
    · intro y0 y1 y2 y3 y4
      unfold copperplatelaw07_FoldEnds.j0
      repeat' first
      | (with_reducible exact ih0 _ _ _ _ _)
      | (with_reducible exact LeO.refl _)
      | (with_reducible exact LeO.none _)
      | (with_reducible refine LeO.ite ?_ ?_)
      | (with_reducible refine LeO.bind ?_ (fun _ => ?_))
      | exact ih0 _ _ _ _ _
      | exact LeO.none _
      | refine LeO.ite ?_ ?_
      | refine LeO.bind ?_ (fun _ => ?_)
theorem copperplatelaw07_FoldEnds.mono : ∀ a0 a1 a2 k, LeO (copperplatelaw07_FoldEnds.f k a0 a1 a2) (copperplatelaw07_FoldEnds.f (k + 1) a0 a1 a2) := by
  intro a0 a1 a2 k
  have ih0 := copperplatelaw07_FoldEnds.mono_l k
  unfold copperplatelaw07_FoldEnds.f
  repeat' first
      | (with_reducible exact ih0 _ _ _ _ _)
      | (with_reducible exact LeO.refl _)
      | (with_reducible exact LeO.none _)
      | (with_reducible refine LeO.ite ?_ ?_)
      | (with_reducible refine LeO.bind ?_ (fun _ => ?_))
      | exact ih0 _ _ _ _ _
      | exact LeO.none _
      | refine LeO.ite ?_ ?_
      | refine LeO.bind ?_ (fun _ => ?_)
set_option maxHeartbeats 8000000 in
set_option maxRecDepth 100000 in
theorem copperplatelaw07_FoldEnds.calls (k : Nat) (a0 : ByteArray) (a1 : Int) (a2 : ByteArray) (r : Bool) (w : World) (h : copperplatelaw07_FoldEnds.f k a0 a1 a2 = some r) :
    Calls Tryd.prog 4 #[.string a0, .int .i64 a1, .string a2] w fun e w' => e = .returned (.bool r) ∧ Below w.heap.size w w' := by
  have HB := Aside0.mk (Below.refl w.heap.size w)
  have H : ((copperplatelaw07_awake.f).bind fun t194 => (if t194 = true then (if (a0.size : Int) > 300 then (copperplatelaw07_FoldEnds.j0 k a0 a1 a2 t194 true) else (copperplatelaw07_FoldEnds.j0 k a0 a1 a2 t194 (decide ((a2.size : Int) > 300)))) else (copperplatelaw07_FoldEnds.j0 k a0 a1 a2 t194 true))) = some r := h
  clear h
  replace H := Option.bind_eq_some_iff.mp H
  obtain ⟨t194, A40, H⟩ := H
  replace H : (if t194 = true then (if (a0.size : Int) > 300 then (copperplatelaw07_FoldEnds.j0 k a0 a1 a2 t194 true) else (copperplatelaw07_FoldEnds.j0 k a0 a1 a2 t194 (decide ((a2.size : Int) > 300)))) else (copperplatelaw07_FoldEnds.j0 k a0 a1 a2 t194 true)) = some r := H
  have A4 := Aside0.mk A40
  clear A40
  have HC5 := Aside0.mk H
  clear H
  go_enter Tryd.func4, Tryd.ntmps4
  go_upto_region 2 with (first | ((with_reducible refine gate_callee (f := 10) rfl ?_); refine goesL_ (some 15) rfl rfl Tryd.func10 (by kernel_rfl) rfl #[] rfl (by (try simp only [List.map_toArray, List.map_cons, List.map_nil]); first | done | rfl | (simp only [List.length_drop, List.length_take]; rfl)) ?_; (with_reducible refine (copperplatelaw07_awake.calls  t194 _ A4.out).mono ?_); rintro e w6 ⟨rfl, hb⟩; refine ⟨_, rfl, ?_⟩; have n0_ := Aside0.mk (below_step (by repeat (first | (with_reducible first | exact HB.out | apply below_alloc | apply pw_below_drewN | apply below_drew1) | exact HB.out)) hb); clear HB; have HB := n0_; clear n0_; (try clear hb); (try clear hb2); (try clear hk); (try clear hi)))
  (try simp only [Act.put, List.setIfInBounds_toArray, List.set_cons_zero, List.set_cons_succ])
  go_cut [27] (fun v27 wc => ∃ (kq : Nat) (x27_4 : Bool), v27 = .bool x27_4 ∧ Aside0 (copperplatelaw07_FoldEnds.j0 kq a0 a1 a2 t194 x27_4 = some r) ∧ Aside0 (kq ≤ k) ∧ Aside0 (Below w.heap.size w wc))
  case first =>
    have H := HC5.out
    clear HC5
    by_cases c7 : t194 = true
    · subst c7
      have H1 : (if (a0.size : Int) > 300 then (copperplatelaw07_FoldEnds.j0 k a0 a1 a2 true true) else (copperplatelaw07_FoldEnds.j0 k a0 a1 a2 true (decide ((a2.size : Int) > 300)))) = some r := by rw [if_pos rfl] at H; exact H
      clear H
      have H := H1
      clear H1
      by_cases c8 : (a0.size : Int) > 300
      · rw [if_pos c8] at H
        have c8b0 : decide (300 < (a0.size : Int)) = true := decide_eq_true c8
        have c8b1 : decide (300 < a0.size) = true := decide_eq_true (by omega)
        clear c8
        (first | rw [c8b0] | (simp only [i64_w, i32_w]; rw [c8b0]) | skip)
        have H' := Aside0.mk H
        clear H
        go_wp2
        go_meet
        case rel => exact ⟨_, (true), (by first | rfl | (simp; done) | (simp [*]; done)), H', ⟨by first | omega | exact Nat.le_refl _⟩, ⟨by repeat (first | (with_reducible first | exact HB.out | apply below_alloc | apply pw_below_drewN | apply below_drew1) | exact HB.out)⟩⟩
      · rw [if_neg c8] at H
        have c8b0 : decide (300 < (a0.size : Int)) = false := decide_eq_false c8
        have c8b1 : decide (300 < a0.size) = false := decide_eq_false (by omega)
        clear c8
        (first | rw [c8b0] | (simp only [i64_w, i32_w]; rw [c8b0]) | skip)
        have H' := Aside0.mk H
        clear H
        go_wp2
        go_meet
        case rel => exact ⟨_, (decide ((a2.size : Int) > 300)), (by first | rfl | (simp; done) | (simp [*]; done)), H', ⟨by first | omega | exact Nat.le_refl _⟩, ⟨by repeat (first | (with_reducible first | exact HB.out | apply below_alloc | apply pw_below_drewN | apply below_drew1) | exact HB.out)⟩⟩
    · replace c7 := Bool.eq_false_iff.mpr c7
      subst c7
      have H1 : (copperplatelaw07_FoldEnds.j0 k a0 a1 a2 false true) = some r := by rw [if_neg (show ¬ (false = true) by decide)] at H; exact H
      clear H
      have H := H1
      clear H1
      have H' := Aside0.mk H
      clear H
      go_wp2
      go_meet
      case rel => exact ⟨_, (true), (by first | rfl | (simp; done) | (simp [*]; done)), H', ⟨by first | omega | exact Nat.le_refl _⟩, ⟨by repeat (first | (with_reducible first | exact HB.out | apply below_alloc | apply pw_below_drewN | apply below_drew1) | exact HB.out)⟩⟩
  case rest =>
    clear HC5
    try clear c1
    try clear p2
    try clear c4
    try clear c7
    try clear c8
    try clear c8b0
    try clear c8b1
    obtain ⟨kq, x27_4, rfl, HA, HJ4, HB⟩ := hcut
    cases kq with
    | zero => exact absurd HA.out (by simp [copperplatelaw07_FoldEnds.j0])
    | succ kj4 =>
      have H := HA.out
      clear HA
      simp only [copperplatelaw07_FoldEnds.j0] at H
      by_cases c9 : x27_4 = true
      · subst c9
        have H1 : (some t194) = some r := by rw [if_pos rfl] at H; exact H
        clear H
        have H := H1
        clear H1
        obtain rfl := Option.some.inj H
        go_wp2
        go_ret
        exact ⟨by first | rfl | (simp [errW_none, errW_some] <;> rfl) | (simp [*, errW_none, errW_some] <;> rfl), by repeat (first | (with_reducible first | exact HB.out | apply below_alloc | apply pw_below_drewN | apply below_drew1) | exact HB.out)⟩
      · replace c9 := Bool.eq_false_iff.mpr c9
        subst c9
        have H1 : ((fold_Raw.f a0 a1).bind fun bt195 => (if bt195.2.2 = true then (if a1 < 0 then (some false) else (if bt195.2.1 > (a0.size : Int) then (some false) else (if bt195.2.1 < (wrap64 (a1 + 6)) then (some false) else (if 0 ≤ a1 then (if a1 ≤ bt195.2.1 then (if bt195.2.1 ≤ (a0.size : Int) then (if (a0.extract (a1 : Int).toNat (bt195.2.1 : Int).toNat).size + a2.size ≤ 9223372036854775807 then ((fold_Raw.f ((a0.extract (a1 : Int).toNat (bt195.2.1 : Int).toNat) ++ a2) 0).bind fun bt198 => (if bt198.2.2 = true then (if bt198.1.toList = bt195.1.toList then (if bt198.2.1 = ((a0.extract (a1 : Int).toNat (bt195.2.1 : Int).toNat).size : Int) then (if 0 ≤ 3 then (if 3 ≤ ((a0.extract (a1 : Int).toNat (bt195.2.1 : Int).toNat).size : Int) then (if ((a0.extract (a1 : Int).toNat (bt195.2.1 : Int).toNat).extract 0 3).toList = ([34, 34, 34] : List UInt8) then (if 0 ≤ (wrap64 (((a0.extract (a1 : Int).toNat (bt195.2.1 : Int).toNat).size : Int) - 3)) then (if (wrap64 (((a0.extract (a1 : Int).toNat (bt195.2.1 : Int).toNat).size : Int) - 3)) ≤ ((a0.extract (a1 : Int).toNat (bt195.2.1 : Int).toNat).size : Int) then (some (((a0.extract (a1 : Int).toNat (bt195.2.1 : Int).toNat).extract ((wrap64 (((a0.extract (a1 : Int).toNat (bt195.2.1 : Int).toNat).size : Int) - 3)) : Int).toNat (a0.extract (a1 : Int).toNat (bt195.2.1 : Int).toNat).size).toList == ([34, 34, 34] : List UInt8))) else (none)) else (none)) else (some false)) else (none)) else (none)) else (some false)) else (some false)) else (some false))) else (none)) else (none)) else (none)) else (none))))) else (if bt195.1.toList = ([] : List UInt8) then (if bt195.2.1 = a1 then (some true) else (if bt195.2.1 > a1 then (some (decide (bt195.2.1 ≤ (a0.size : Int)))) else (some false))) else (some false)))) = some r := by rw [if_neg (show ¬ (false = true) by decide)] at H; exact H
        clear H
        have H := H1
        clear H1
        replace H := Option.bind_eq_some_iff.mp H
        obtain ⟨⟨t195, t196, t197⟩, A100, H⟩ := H
        replace H : (if t197 = true then (if a1 < 0 then (some false) else (if t196 > (a0.size : Int) then (some false) else (if t196 < (wrap64 (a1 + 6)) then (some false) else (if 0 ≤ a1 then (if a1 ≤ t196 then (if t196 ≤ (a0.size : Int) then (if (a0.extract (a1 : Int).toNat (t196 : Int).toNat).size + a2.size ≤ 9223372036854775807 then ((fold_Raw.f ((a0.extract (a1 : Int).toNat (t196 : Int).toNat) ++ a2) 0).bind fun bt198 => (if bt198.2.2 = true then (if bt198.1.toList = t195.toList then (if bt198.2.1 = ((a0.extract (a1 : Int).toNat (t196 : Int).toNat).size : Int) then (if 0 ≤ 3 then (if 3 ≤ ((a0.extract (a1 : Int).toNat (t196 : Int).toNat).size : Int) then (if ((a0.extract (a1 : Int).toNat (t196 : Int).toNat).extract 0 3).toList = ([34, 34, 34] : List UInt8) then (if 0 ≤ (wrap64 (((a0.extract (a1 : Int).toNat (t196 : Int).toNat).size : Int) - 3)) then (if (wrap64 (((a0.extract (a1 : Int).toNat (t196 : Int).toNat).size : Int) - 3)) ≤ ((a0.extract (a1 : Int).toNat (t196 : Int).toNat).size : Int) then (some (((a0.extract (a1 : Int).toNat (t196 : Int).toNat).extract ((wrap64 (((a0.extract (a1 : Int).toNat (t196 : Int).toNat).size : Int) - 3)) : Int).toNat (a0.extract (a1 : Int).toNat (t196 : Int).toNat).size).toList == ([34, 34, 34] : List UInt8))) else (none)) else (none)) else (some false)) else (none)) else (none)) else (some false)) else (some false)) else (some false))) else (none)) else (none)) else (none)) else (none))))) else (if t195.toList = ([] : List UInt8) then (if t196 = a1 then (some true) else (if t196 > a1 then (some (decide (t196 ≤ (a0.size : Int)))) else (some false))) else (some false))) = some r := H
        have A10 := Aside0.mk A100
        clear A100
        by_cases c11 : t197 = true
        · subst c11
          have H1 : (if a1 < 0 then (some false) else (if t196 > (a0.size : Int) then (some false) else (if t196 < (wrap64 (a1 + 6)) then (some false) else (if 0 ≤ a1 then (if a1 ≤ t196 then (if t196 ≤ (a0.size : Int) then (if (a0.extract (a1 : Int).toNat (t196 : Int).toNat).size + a2.size ≤ 9223372036854775807 then ((fold_Raw.f ((a0.extract (a1 : Int).toNat (t196 : Int).toNat) ++ a2) 0).bind fun bt198 => (if bt198.2.2 = true then (if bt198.1.toList = t195.toList then (if bt198.2.1 = ((a0.extract (a1 : Int).toNat (t196 : Int).toNat).size : Int) then (if 0 ≤ 3 then (if 3 ≤ ((a0.extract (a1 : Int).toNat (t196 : Int).toNat).size : Int) then (if ((a0.extract (a1 : Int).toNat (t196 : Int).toNat).extract 0 3).toList = ([34, 34, 34] : List UInt8) then (if 0 ≤ (wrap64 (((a0.extract (a1 : Int).toNat (t196 : Int).toNat).size : Int) - 3)) then (if (wrap64 (((a0.extract (a1 : Int).toNat (t196 : Int).toNat).size : Int) - 3)) ≤ ((a0.extract (a1 : Int).toNat (t196 : Int).toNat).size : Int) then (some (((a0.extract (a1 : Int).toNat (t196 : Int).toNat).extract ((wrap64 (((a0.extract (a1 : Int).toNat (t196 : Int).toNat).size : Int) - 3)) : Int).toNat (a0.extract (a1 : Int).toNat (t196 : Int).toNat).size).toList == ([34, 34, 34] : List UInt8))) else (none)) else (none)) else (some false)) else (none)) else (none)) else (some false)) else (some false)) else (some false))) else (none)) else (none)) else (none)) else (none))))) = some r := by rw [if_pos rfl] at H; exact H
          clear H
          have H := H1
          clear H1
          by_cases c12 : a1 < 0
          · rw [if_pos c12] at H
            have c12b0 : decide (a1 < 0) = true := decide_eq_true c12
            clear c12
            obtain rfl := Option.some.inj H
            go_wp2_with (first | ((with_reducible refine gate_callee (f := 11) rfl ?_); refine goesL_ (some 32) rfl rfl Tryd.func11 (by kernel_rfl) rfl #[.string a0, .int .i64 a1] rfl (by (try simp only [List.map_toArray, List.map_cons, List.map_nil]); first | done | rfl | (simp only [List.length_drop, List.length_take]; rfl)) ?_; (with_reducible refine (fold_Raw.calls a0 a1 t195 t196 true _ A10.out).mono ?_); rintro e w13 ⟨rfl, hb⟩; refine ⟨_, rfl, ?_⟩; have n0_ := Aside0.mk (below_step (by repeat (first | (with_reducible first | exact HB.out | apply below_alloc | apply pw_below_drewN | apply below_drew1) | exact HB.out)) hb); clear HB; have HB := n0_; clear n0_; (try clear hb); (try clear hb2); (try clear hk); (try clear hi)))
            go_ret
            exact ⟨by first | rfl | (simp [errW_none, errW_some] <;> rfl) | (simp [*, errW_none, errW_some] <;> rfl), by repeat (first | (with_reducible first | exact HB.out | apply below_alloc | apply pw_below_drewN | apply below_drew1) | exact HB.out)⟩
          · rw [if_neg c12] at H
            have c12b0 : decide (a1 < 0) = false := decide_eq_false c12
            clear c12
            by_cases c14 : t196 > (a0.size : Int)
            · rw [if_pos c14] at H
              have c14b0 : decide ((a0.size : Int) < t196) = true := decide_eq_true c14
              clear c14
              obtain rfl := Option.some.inj H
              go_wp2_with (first | ((with_reducible refine gate_callee (f := 11) rfl ?_); refine goesL_ (some 32) rfl rfl Tryd.func11 (by kernel_rfl) rfl #[.string a0, .int .i64 a1] rfl (by (try simp only [List.map_toArray, List.map_cons, List.map_nil]); first | done | rfl | (simp only [List.length_drop, List.length_take]; rfl)) ?_; (with_reducible refine (fold_Raw.calls a0 a1 t195 t196 true _ A10.out).mono ?_); rintro e w15 ⟨rfl, hb⟩; refine ⟨_, rfl, ?_⟩; have n0_ := Aside0.mk (below_step (by repeat (first | (with_reducible first | exact HB.out | apply below_alloc | apply pw_below_drewN | apply below_drew1) | exact HB.out)) hb); clear HB; have HB := n0_; clear n0_; (try clear hb); (try clear hb2); (try clear hk); (try clear hi)))
              go_ret
              exact ⟨by first | rfl | (simp [errW_none, errW_some] <;> rfl) | (simp [*, errW_none, errW_some] <;> rfl), by repeat (first | (with_reducible first | exact HB.out | apply below_alloc | apply pw_below_drewN | apply below_drew1) | exact HB.out)⟩
            · rw [if_neg c14] at H
              have c14b0 : decide ((a0.size : Int) < t196) = false := decide_eq_false c14
              clear c14
              by_cases c16 : t196 < (wrap64 (a1 + 6))
              · rw [if_pos c16] at H
                have c16b0 : decide (t196 < (wrap64 (a1 + 6))) = true := decide_eq_true c16
                clear c16
                obtain rfl := Option.some.inj H
                go_wp2_with (first | ((with_reducible refine gate_callee (f := 11) rfl ?_); refine goesL_ (some 32) rfl rfl Tryd.func11 (by kernel_rfl) rfl #[.string a0, .int .i64 a1] rfl (by (try simp only [List.map_toArray, List.map_cons, List.map_nil]); first | done | rfl | (simp only [List.length_drop, List.length_take]; rfl)) ?_; (with_reducible refine (fold_Raw.calls a0 a1 t195 t196 true _ A10.out).mono ?_); rintro e w17 ⟨rfl, hb⟩; refine ⟨_, rfl, ?_⟩; have n0_ := Aside0.mk (below_step (by repeat (first | (with_reducible first | exact HB.out | apply below_alloc | apply pw_below_drewN | apply below_drew1) | exact HB.out)) hb); clear HB; have HB := n0_; clear n0_; (try clear hb); (try clear hb2); (try clear hk); (try clear hi)))
                go_ret
                exact ⟨by first | rfl | (simp [errW_none, errW_some] <;> rfl) | (simp [*, errW_none, errW_some] <;> rfl), by repeat (first | (with_reducible first | exact HB.out | apply below_alloc | apply pw_below_drewN | apply below_drew1) | exact HB.out)⟩
              · rw [if_neg c16] at H
                have c16b0 : decide (t196 < (wrap64 (a1 + 6))) = false := decide_eq_false c16
                clear c16
                by_cases c18 : 0 ≤ a1
                · rw [if_pos c18] at H
                  have c18b0 := eq_true c18
                  have c18b1 : decide (0 ≤ a1) = true := decide_eq_true c18
                  clear c18
                  by_cases c19 : a1 ≤ t196
                  · rw [if_pos c19] at H
                    have c19b0 := eq_true c19
                    have c19b1 : decide (a1 ≤ t196) = true := decide_eq_true c19
                    clear c19
                    by_cases c20 : t196 ≤ (a0.size : Int)
                    · rw [if_pos c20] at H
                      have c20b0 := eq_true c20
                      obtain ⟨own_, hown_⟩ : ∃ o_ : ByteArray, a0.extract (a1 : Int).toNat (t196 : Int).toNat = o_ := ⟨_, rfl⟩
                      rw [hown_] at H
                      have c20b1 : decide (t196 ≤ (a0.size : Int)) = true := decide_eq_true c20
                      clear c20
                      by_cases c21 : own_.size + a2.size ≤ 9223372036854775807
                      · rw [if_pos c21] at H
                        have c21b0 := eq_true c21
                        have c21b1 : decide (own_.size + a2.size ≤ 9223372036854775807) = true := decide_eq_true c21
                        try have c21b2 : (9223372036854775807 < own_.size + a2.size) = False := eq_false (Nat.not_lt.2 c21)
                        replace H := Option.bind_eq_some_iff.mp H
                        obtain ⟨⟨t198, t199, t200⟩, A220, H⟩ := H
                        replace H : (if t200 = true then (if t198.toList = t195.toList then (if t199 = (own_.size : Int) then (if 0 ≤ 3 then (if 3 ≤ (own_.size : Int) then (if (own_.extract 0 3).toList = ([34, 34, 34] : List UInt8) then (if 0 ≤ (wrap64 ((own_.size : Int) - 3)) then (if (wrap64 ((own_.size : Int) - 3)) ≤ (own_.size : Int) then (some ((own_.extract ((wrap64 ((own_.size : Int) - 3)) : Int).toNat own_.size).toList == ([34, 34, 34] : List UInt8))) else (none)) else (none)) else (some false)) else (none)) else (none)) else (some false)) else (some false)) else (some false)) = some r := H
                        have A22 := Aside0.mk A220
                        clear A220
                        by_cases c23 : t200 = true
                        · subst c23
                          have H1 : (if t198.toList = t195.toList then (if t199 = (own_.size : Int) then (if 0 ≤ 3 then (if 3 ≤ (own_.size : Int) then (if (own_.extract 0 3).toList = ([34, 34, 34] : List UInt8) then (if 0 ≤ (wrap64 ((own_.size : Int) - 3)) then (if (wrap64 ((own_.size : Int) - 3)) ≤ (own_.size : Int) then (some ((own_.extract ((wrap64 ((own_.size : Int) - 3)) : Int).toNat own_.size).toList == ([34, 34, 34] : List UInt8))) else (none)) else (none)) else (some false)) else (none)) else (none)) else (some false)) else (some false)) = some r := by rw [if_pos rfl] at H; exact H
                          clear H
                          have H := H1
                          clear H1
                          by_cases c24 : t198.toList = t195.toList
                          · rw [if_pos c24] at H
                            have c24b0 : (t198.toList == t195.toList) = true := beq_iff_eq.mpr c24
                            have c24b1 : (t198.toList != t195.toList) = false := bne_eq_false_iff_eq.mpr c24
                            clear c24
                            by_cases c25 : t199 = (own_.size : Int)
                            · rw [if_pos c25] at H
                              have c25b0 : (t199 == (own_.size : Int)) = true := beq_iff_eq.mpr c25
                              have c25b1 : (t199 != (own_.size : Int)) = false := bne_eq_false_iff_eq.mpr c25
                              clear c25
                              by_cases c26 : 0 ≤ 3
                              · rw [if_pos c26] at H
                                have c26b0 := eq_true c26
                                have c26b1 : decide (0 ≤ 3) = true := decide_eq_true c26
                                clear c26
                                by_cases c27 : 3 ≤ (own_.size : Int)
                                · rw [if_pos c27] at H
                                  have c27b0 := eq_true c27
                                  have c27b1 : decide (3 ≤ (own_.size : Int)) = true := decide_eq_true c27
                                  clear c27
                                  by_cases c28 : (own_.extract 0 3).toList = ([34, 34, 34] : List UInt8)
                                  · rw [if_pos c28] at H
                                    have c28b0 : ((own_.extract 0 3).toList == ([34, 34, 34] : List UInt8)) = true := beq_iff_eq.mpr c28
                                    have c28b1 : ((own_.extract 0 3).toList != ([34, 34, 34] : List UInt8)) = false := bne_eq_false_iff_eq.mpr c28
                                    clear c28
                                    obtain ⟨ji29, hji29⟩ : ∃ j_ : Int, (wrap64 ((own_.size : Int) - 3)) = j_ := ⟨_, rfl⟩
                                    replace H : (if 0 ≤ (ji29) then (if (ji29) ≤ (own_.size : Int) then (some ((own_.extract ((ji29) : Int).toNat own_.size).toList == ([34, 34, 34] : List UInt8))) else (none)) else (none)) = some r := by first | (rw [hji29] at H; exact H) | (simp only [hji29] at H ⊢; exact H)
                                    (try rw [hji29] at A10)
                                    (try rw [hji29] at A22)
                                    have hji29w : (IntKind.i64.wrap ((own_.size : Int) - 3)) = ji29 := (i64_w _).trans hji29
                                    by_cases c30 : 0 ≤ (ji29)
                                    · rw [if_pos c30] at H
                                      have c30b0 := eq_true c30
                                      have c30b1 : decide (0 ≤ (ji29)) = true := decide_eq_true c30
                                      clear c30
                                      by_cases c31 : (ji29) ≤ (own_.size : Int)
                                      · rw [if_pos c31] at H
                                        have c31b0 := eq_true c31
                                        have c31b1 : decide ((ji29) ≤ (own_.size : Int)) = true := decide_eq_true c31
                                        clear c31
                                        obtain rfl := Option.some.inj H
                                        go_wp2_with (first | ((with_reducible refine gate_callee (f := 11) rfl ?_); refine goesL_ (some 32) rfl rfl Tryd.func11 (by kernel_rfl) rfl #[.string a0, .int .i64 a1] rfl (by (try simp only [List.map_toArray, List.map_cons, List.map_nil]); first | done | rfl | (simp only [List.length_drop, List.length_take]; rfl)) ?_; (with_reducible refine (fold_Raw.calls a0 a1 t195 t196 true _ A10.out).mono ?_); rintro e w32 ⟨rfl, hb⟩; refine ⟨_, rfl, ?_⟩; have n0_ := Aside0.mk (below_step (by repeat (first | (with_reducible first | exact HB.out | apply below_alloc | apply pw_below_drewN | apply below_drew1) | exact HB.out)) hb); clear HB; have HB := n0_; clear n0_; (try clear hb); (try clear hb2); (try clear hk); (try clear hi)) | ((with_reducible refine gate_callee (f := 11) rfl ?_); refine goesL_ (some 78) rfl rfl Tryd.func11 (by kernel_rfl) rfl #[.string (own_ ++ a2), .int .i64 0] rfl (by (try simp only [List.map_toArray, List.map_cons, List.map_nil]); first | done | rfl | (simp only [List.length_drop, List.length_take]; rfl)) ?_; (with_reducible refine (fold_Raw.calls (own_ ++ a2) 0 t198 t199 true _ A22.out).mono ?_); rintro e w33 ⟨rfl, hb⟩; refine ⟨_, rfl, ?_⟩; have n0_ := Aside0.mk (below_step (by repeat (first | (with_reducible first | exact HB.out | apply below_alloc | apply pw_below_drewN | apply below_drew1) | exact HB.out)) hb); clear HB; have HB := n0_; clear n0_; (try clear hb); (try clear hb2); (try clear hk); (try clear hi)))
                                        go_ret
                                        exact ⟨by first | rfl | (simp [errW_none, errW_some] <;> rfl) | (simp only [← hji29]; first | rfl | (simp [errW_none, errW_some] <;> rfl)) | (simp [*, errW_none, errW_some] <;> rfl), by repeat (first | (with_reducible first | exact HB.out | apply below_alloc | apply pw_below_drewN | apply below_drew1) | exact HB.out)⟩
                                      · rw [if_neg c31] at H
                                        exact absurd H (by simp)
                                    · rw [if_neg c30] at H
                                      exact absurd H (by simp)
                                  · rw [if_neg c28] at H
                                    have c28b0 : ((own_.extract 0 3).toList == ([34, 34, 34] : List UInt8)) = false := beq_eq_false_iff_ne.mpr c28
                                    have c28b1 : ((own_.extract 0 3).toList != ([34, 34, 34] : List UInt8)) = true := bne_iff_ne.mpr c28
                                    obtain rfl := Option.some.inj H
                                    go_wp2_with (first | ((with_reducible refine gate_callee (f := 11) rfl ?_); refine goesL_ (some 32) rfl rfl Tryd.func11 (by kernel_rfl) rfl #[.string a0, .int .i64 a1] rfl (by (try simp only [List.map_toArray, List.map_cons, List.map_nil]); first | done | rfl | (simp only [List.length_drop, List.length_take]; rfl)) ?_; (with_reducible refine (fold_Raw.calls a0 a1 t195 t196 true _ A10.out).mono ?_); rintro e w34 ⟨rfl, hb⟩; refine ⟨_, rfl, ?_⟩; have n0_ := Aside0.mk (below_step (by repeat (first | (with_reducible first | exact HB.out | apply below_alloc | apply pw_below_drewN | apply below_drew1) | exact HB.out)) hb); clear HB; have HB := n0_; clear n0_; (try clear hb); (try clear hb2); (try clear hk); (try clear hi)) | ((with_reducible refine gate_callee (f := 11) rfl ?_); refine goesL_ (some 78) rfl rfl Tryd.func11 (by kernel_rfl) rfl #[.string (own_ ++ a2), .int .i64 0] rfl (by (try simp only [List.map_toArray, List.map_cons, List.map_nil]); first | done | rfl | (simp only [List.length_drop, List.length_take]; rfl)) ?_; (with_reducible refine (fold_Raw.calls (own_ ++ a2) 0 t198 t199 true _ A22.out).mono ?_); rintro e w35 ⟨rfl, hb⟩; refine ⟨_, rfl, ?_⟩; have n0_ := Aside0.mk (below_step (by repeat (first | (with_reducible first | exact HB.out | apply below_alloc | apply pw_below_drewN | apply below_drew1) | exact HB.out)) hb); clear HB; have HB := n0_; clear n0_; (try clear hb); (try clear hb2); (try clear hk); (try clear hi)))
                                    go_ret
                                    exact ⟨by first | rfl | (simp [errW_none, errW_some] <;> rfl) | (simp [*, errW_none, errW_some] <;> rfl), by repeat (first | (with_reducible first | exact HB.out | apply below_alloc | apply pw_below_drewN | apply below_drew1) | exact HB.out)⟩
                                · rw [if_neg c27] at H
                                  exact absurd H (by simp)
                              · rw [if_neg c26] at H
                                exact absurd H (by simp)
                            · rw [if_neg c25] at H
                              have c25b0 : (t199 == (own_.size : Int)) = false := beq_eq_false_iff_ne.mpr c25
                              have c25b1 : (t199 != (own_.size : Int)) = true := bne_iff_ne.mpr c25
                              obtain rfl := Option.some.inj H
                              go_wp2_with (first | ((with_reducible refine gate_callee (f := 11) rfl ?_); refine goesL_ (some 32) rfl rfl Tryd.func11 (by kernel_rfl) rfl #[.string a0, .int .i64 a1] rfl (by (try simp only [List.map_toArray, List.map_cons, List.map_nil]); first | done | rfl | (simp only [List.length_drop, List.length_take]; rfl)) ?_; (with_reducible refine (fold_Raw.calls a0 a1 t195 t196 true _ A10.out).mono ?_); rintro e w36 ⟨rfl, hb⟩; refine ⟨_, rfl, ?_⟩; have n0_ := Aside0.mk (below_step (by repeat (first | (with_reducible first | exact HB.out | apply below_alloc | apply pw_below_drewN | apply below_drew1) | exact HB.out)) hb); clear HB; have HB := n0_; clear n0_; (try clear hb); (try clear hb2); (try clear hk); (try clear hi)) | ((with_reducible refine gate_callee (f := 11) rfl ?_); refine goesL_ (some 78) rfl rfl Tryd.func11 (by kernel_rfl) rfl #[.string (own_ ++ a2), .int .i64 0] rfl (by (try simp only [List.map_toArray, List.map_cons, List.map_nil]); first | done | rfl | (simp only [List.length_drop, List.length_take]; rfl)) ?_; (with_reducible refine (fold_Raw.calls (own_ ++ a2) 0 t198 t199 true _ A22.out).mono ?_); rintro e w37 ⟨rfl, hb⟩; refine ⟨_, rfl, ?_⟩; have n0_ := Aside0.mk (below_step (by repeat (first | (with_reducible first | exact HB.out | apply below_alloc | apply pw_below_drewN | apply below_drew1) | exact HB.out)) hb); clear HB; have HB := n0_; clear n0_; (try clear hb); (try clear hb2); (try clear hk); (try clear hi)))
                              go_ret
                              exact ⟨by first | rfl | (simp [errW_none, errW_some] <;> rfl) | (simp [*, errW_none, errW_some] <;> rfl), by repeat (first | (with_reducible first | exact HB.out | apply below_alloc | apply pw_below_drewN | apply below_drew1) | exact HB.out)⟩
                          · rw [if_neg c24] at H
                            have c24b0 : (t198.toList == t195.toList) = false := beq_eq_false_iff_ne.mpr c24
                            have c24b1 : (t198.toList != t195.toList) = true := bne_iff_ne.mpr c24
                            obtain rfl := Option.some.inj H
                            go_wp2_with (first | ((with_reducible refine gate_callee (f := 11) rfl ?_); refine goesL_ (some 32) rfl rfl Tryd.func11 (by kernel_rfl) rfl #[.string a0, .int .i64 a1] rfl (by (try simp only [List.map_toArray, List.map_cons, List.map_nil]); first | done | rfl | (simp only [List.length_drop, List.length_take]; rfl)) ?_; (with_reducible refine (fold_Raw.calls a0 a1 t195 t196 true _ A10.out).mono ?_); rintro e w38 ⟨rfl, hb⟩; refine ⟨_, rfl, ?_⟩; have n0_ := Aside0.mk (below_step (by repeat (first | (with_reducible first | exact HB.out | apply below_alloc | apply pw_below_drewN | apply below_drew1) | exact HB.out)) hb); clear HB; have HB := n0_; clear n0_; (try clear hb); (try clear hb2); (try clear hk); (try clear hi)) | ((with_reducible refine gate_callee (f := 11) rfl ?_); refine goesL_ (some 78) rfl rfl Tryd.func11 (by kernel_rfl) rfl #[.string (own_ ++ a2), .int .i64 0] rfl (by (try simp only [List.map_toArray, List.map_cons, List.map_nil]); first | done | rfl | (simp only [List.length_drop, List.length_take]; rfl)) ?_; (with_reducible refine (fold_Raw.calls (own_ ++ a2) 0 t198 t199 true _ A22.out).mono ?_); rintro e w39 ⟨rfl, hb⟩; refine ⟨_, rfl, ?_⟩; have n0_ := Aside0.mk (below_step (by repeat (first | (with_reducible first | exact HB.out | apply below_alloc | apply pw_below_drewN | apply below_drew1) | exact HB.out)) hb); clear HB; have HB := n0_; clear n0_; (try clear hb); (try clear hb2); (try clear hk); (try clear hi)))
                            go_ret
                            exact ⟨by first | rfl | (simp [errW_none, errW_some] <;> rfl) | (simp [*, errW_none, errW_some] <;> rfl), by repeat (first | (with_reducible first | exact HB.out | apply below_alloc | apply pw_below_drewN | apply below_drew1) | exact HB.out)⟩
                        · replace c23 := Bool.eq_false_iff.mpr c23
                          subst c23
                          have H1 : (some false) = some r := by rw [if_neg (show ¬ (false = true) by decide)] at H; exact H
                          clear H
                          have H := H1
                          clear H1
                          obtain rfl := Option.some.inj H
                          go_wp2_with (first | ((with_reducible refine gate_callee (f := 11) rfl ?_); refine goesL_ (some 32) rfl rfl Tryd.func11 (by kernel_rfl) rfl #[.string a0, .int .i64 a1] rfl (by (try simp only [List.map_toArray, List.map_cons, List.map_nil]); first | done | rfl | (simp only [List.length_drop, List.length_take]; rfl)) ?_; (with_reducible refine (fold_Raw.calls a0 a1 t195 t196 true _ A10.out).mono ?_); rintro e w40 ⟨rfl, hb⟩; refine ⟨_, rfl, ?_⟩; have n0_ := Aside0.mk (below_step (by repeat (first | (with_reducible first | exact HB.out | apply below_alloc | apply pw_below_drewN | apply below_drew1) | exact HB.out)) hb); clear HB; have HB := n0_; clear n0_; (try clear hb); (try clear hb2); (try clear hk); (try clear hi)) | ((with_reducible refine gate_callee (f := 11) rfl ?_); refine goesL_ (some 78) rfl rfl Tryd.func11 (by kernel_rfl) rfl #[.string (own_ ++ a2), .int .i64 0] rfl (by (try simp only [List.map_toArray, List.map_cons, List.map_nil]); first | done | rfl | (simp only [List.length_drop, List.length_take]; rfl)) ?_; (with_reducible refine (fold_Raw.calls (own_ ++ a2) 0 t198 t199 false _ A22.out).mono ?_); rintro e w41 ⟨rfl, hb⟩; refine ⟨_, rfl, ?_⟩; have n0_ := Aside0.mk (below_step (by repeat (first | (with_reducible first | exact HB.out | apply below_alloc | apply pw_below_drewN | apply below_drew1) | exact HB.out)) hb); clear HB; have HB := n0_; clear n0_; (try clear hb); (try clear hb2); (try clear hk); (try clear hi)))
                          go_ret
                          exact ⟨by first | rfl | (simp [errW_none, errW_some] <;> rfl) | (simp [*, errW_none, errW_some] <;> rfl), by repeat (first | (with_reducible first | exact HB.out | apply below_alloc | apply pw_below_drewN | apply below_drew1) | exact HB.out)⟩
                      · rw [if_neg c21] at H
                        exact absurd H (by simp)
                    · rw [if_neg c20] at H
                      exact absurd H (by simp)
                  · rw [if_neg c19] at H
                    exact absurd H (by simp)
                · rw [if_neg c18] at H
                  exact absurd H (by simp)
        · replace c11 := Bool.eq_false_iff.mpr c11
          subst c11
          have H1 : (if t195.toList = ([] : List UInt8) then (if t196 = a1 then (some true) else (if t196 > a1 then (some (decide (t196 ≤ (a0.size : Int)))) else (some false))) else (some false)) = some r := by rw [if_neg (show ¬ (false = true) by decide)] at H; exact H
          clear H
          have H := H1
          clear H1
          by_cases c42 : t195.toList = ([] : List UInt8)
          · rw [if_pos c42] at H
            have c42b0 : (t195.toList == ([] : List UInt8)) = true := beq_iff_eq.mpr c42
            have c42b1 : (t195.toList != ([] : List UInt8)) = false := bne_eq_false_iff_eq.mpr c42
            clear c42
            by_cases c43 : t196 = a1
            · rw [if_pos c43] at H
              have c43b0 : (t196 == a1) = true := beq_iff_eq.mpr c43
              have c43b1 : (t196 != a1) = false := bne_eq_false_iff_eq.mpr c43
              clear c43
              obtain rfl := Option.some.inj H
              go_wp2_with (first | ((with_reducible refine gate_callee (f := 11) rfl ?_); refine goesL_ (some 32) rfl rfl Tryd.func11 (by kernel_rfl) rfl #[.string a0, .int .i64 a1] rfl (by (try simp only [List.map_toArray, List.map_cons, List.map_nil]); first | done | rfl | (simp only [List.length_drop, List.length_take]; rfl)) ?_; (with_reducible refine (fold_Raw.calls a0 a1 t195 t196 false _ A10.out).mono ?_); rintro e w44 ⟨rfl, hb⟩; refine ⟨_, rfl, ?_⟩; have n0_ := Aside0.mk (below_step (by repeat (first | (with_reducible first | exact HB.out | apply below_alloc | apply pw_below_drewN | apply below_drew1) | exact HB.out)) hb); clear HB; have HB := n0_; clear n0_; (try clear hb); (try clear hb2); (try clear hk); (try clear hi)))
              go_ret
              exact ⟨by first | rfl | (simp [errW_none, errW_some] <;> rfl) | (simp [*, errW_none, errW_some] <;> rfl), by repeat (first | (with_reducible first | exact HB.out | apply below_alloc | apply pw_below_drewN | apply below_drew1) | exact HB.out)⟩
            · rw [if_neg c43] at H
              have c43b0 : (t196 == a1) = false := beq_eq_false_iff_ne.mpr c43
              have c43b1 : (t196 != a1) = true := bne_iff_ne.mpr c43
              by_cases c45 : t196 > a1
              · rw [if_pos c45] at H
                have c45b0 : decide (a1 < t196) = true := decide_eq_true c45
                clear c45
                obtain rfl := Option.some.inj H
                go_wp2_with (first | ((with_reducible refine gate_callee (f := 11) rfl ?_); refine goesL_ (some 32) rfl rfl Tryd.func11 (by kernel_rfl) rfl #[.string a0, .int .i64 a1] rfl (by (try simp only [List.map_toArray, List.map_cons, List.map_nil]); first | done | rfl | (simp only [List.length_drop, List.length_take]; rfl)) ?_; (with_reducible refine (fold_Raw.calls a0 a1 t195 t196 false _ A10.out).mono ?_); rintro e w46 ⟨rfl, hb⟩; refine ⟨_, rfl, ?_⟩; have n0_ := Aside0.mk (below_step (by repeat (first | (with_reducible first | exact HB.out | apply below_alloc | apply pw_below_drewN | apply below_drew1) | exact HB.out)) hb); clear HB; have HB := n0_; clear n0_; (try clear hb); (try clear hb2); (try clear hk); (try clear hi)))
                go_ret
                exact ⟨by first | rfl | (simp [errW_none, errW_some] <;> rfl) | (simp [*, errW_none, errW_some] <;> rfl), by repeat (first | (with_reducible first | exact HB.out | apply below_alloc | apply pw_below_drewN | apply below_drew1) | exact HB.out)⟩
              · rw [if_neg c45] at H
                have c45b0 : decide (a1 < t196) = false := decide_eq_false c45
                clear c45
                obtain rfl := Option.some.inj H
                go_wp2_with (first | ((with_reducible refine gate_callee (f := 11) rfl ?_); refine goesL_ (some 32) rfl rfl Tryd.func11 (by kernel_rfl) rfl #[.string a0, .int .i64 a1] rfl (by (try simp only [List.map_toArray, List.map_cons, List.map_nil]); first | done | rfl | (simp only [List.length_drop, List.length_take]; rfl)) ?_; (with_reducible refine (fold_Raw.calls a0 a1 t195 t196 false _ A10.out).mono ?_); rintro e w47 ⟨rfl, hb⟩; refine ⟨_, rfl, ?_⟩; have n0_ := Aside0.mk (below_step (by repeat (first | (with_reducible first | exact HB.out | apply below_alloc | apply pw_below_drewN | apply below_drew1) | exact HB.out)) hb); clear HB; have HB := n0_; clear n0_; (try clear hb); (try clear hb2); (try clear hk); (try clear hi)))
                go_ret
                exact ⟨by first | rfl | (simp [errW_none, errW_some] <;> rfl) | (simp [*, errW_none, errW_some] <;> rfl), by repeat (first | (with_reducible first | exact HB.out | apply below_alloc | apply pw_below_drewN | apply below_drew1) | exact HB.out)⟩
          · rw [if_neg c42] at H
            have c42b0 : (t195.toList == ([] : List UInt8)) = false := beq_eq_false_iff_ne.mpr c42
            have c42b1 : (t195.toList != ([] : List UInt8)) = true := bne_iff_ne.mpr c42
            obtain rfl := Option.some.inj H
            go_wp2_with (first | ((with_reducible refine gate_callee (f := 11) rfl ?_); refine goesL_ (some 32) rfl rfl Tryd.func11 (by kernel_rfl) rfl #[.string a0, .int .i64 a1] rfl (by (try simp only [List.map_toArray, List.map_cons, List.map_nil]); first | done | rfl | (simp only [List.length_drop, List.length_take]; rfl)) ?_; (with_reducible refine (fold_Raw.calls a0 a1 t195 t196 false _ A10.out).mono ?_); rintro e w48 ⟨rfl, hb⟩; refine ⟨_, rfl, ?_⟩; have n0_ := Aside0.mk (below_step (by repeat (first | (with_reducible first | exact HB.out | apply below_alloc | apply pw_below_drewN | apply below_drew1) | exact HB.out)) hb); clear HB; have HB := n0_; clear n0_; (try clear hb); (try clear hb2); (try clear hk); (try clear hi)))
            go_ret
            exact ⟨by first | rfl | (simp [errW_none, errW_some] <;> rfl) | (simp [*, errW_none, errW_some] <;> rfl), by repeat (first | (with_reducible first | exact HB.out | apply below_alloc | apply pw_below_drewN | apply below_drew1) | exact HB.out)⟩

/-- THE ONE PURE STATEMENT of copperplatelaw07_FoldEnds: yours. -/
def copperplatelaw07_FoldEnds.Pure : Prop := ∀ (a0 : ByteArray) (a1 : Int) (a2 : ByteArray), a0.size ≤ 140737488351232 → (Lit.int .i64 a1).wf = true → a2.size ≤ 140737488351232 → ∃ k, copperplatelaw07_FoldEnds.f k a0 a1 a2 = some true
theorem copperplatelaw07_FoldEnds.walk (P : copperplatelaw07_FoldEnds.Pure) (a0 : ByteArray) (a1 : Int) (a2 : ByteArray) (w : World) (w0 : a0.size ≤ 140737488351232) (w1 : (Lit.int .i64 a1).wf = true) (w2 : a2.size ≤ 140737488351232) :
    Calls Tryd.prog 4 #[.string a0, .int .i64 a1, .string a2] w fun e w' => e = .returned (.bool true) ∧ Below w.heap.size w w' := by
  obtain ⟨k, h⟩ := P a0 a1 a2 w0 w1 w2
  refine (copperplatelaw07_FoldEnds.calls k a0 a1 a2 true w h).mono ?_
  rintro e w' ⟨rfl, hd⟩
  exact ⟨rfl, hd⟩

-- NOT PRINTED: function 5 (copperplatelaw07_FoldLines)

end Go.Proofs.YthcneciafiaphaaDoor.Q
