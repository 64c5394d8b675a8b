-- Printed for this seat by a program of this session (qprint.py), out of the translation; Lean checks it.
import Derived.Test.YthcneciafiaphaaDoorJ0
import Derived.Test.YthcneciafiaphaaDoorJ1
namespace Go.Proofs.YthcneciafiaphaaDoor.J
open Go.Proofs.YthcneciafiaphaaDoor.G
open Go.RowKit Go.Proofs.YthcneciafiaphaaDoorW.PrintWords Go.Proofs.YthcneciafiaphaaDoorW.PrintLast Go.Proofs.YthcneciafiaphaaDoorW.PrintMore
attribute [local go_sem] max2_int min2_int max_two min_two max_three min_three max_four min_four   -- for this text's walks alone
set_option linter.unusedVariables false
set_option linter.unusedSimpArgs false

/-! ### copperplatelaw07_FoldLines: function 5 -/
mutual
def copperplatelaw07_FoldLines.j0 : Nat → ByteArray → ByteArray → Int → Bool → Bool → Option (Bool)
  | 0, _, _, _, _, _ => none
  | k + 1, x0, x1, x2, x7, x50 => if x50 = true then (some x7) else ((fold_Lines.f x0).bind fun t115 => ((fold_Lines.f x1).bind fun t118 => (if ([] : List ByteArray).length + t115.length < 8796093022208 then ((some (([] : List ByteArray) ++ t115 : List ByteArray)).bind fun y121 => (if y121.length + t118.length < 8796093022208 then ((some (y121 ++ t118 : List ByteArray)).bind fun y124 => (if x0.size + 1 ≤ 9223372036854775807 then (if (x0 ++ (⟨#[10]⟩ : ByteArray)).size + x1.size ≤ 9223372036854775807 then ((fold_Lines.f ((x0 ++ (⟨#[10]⟩ : ByteArray)) ++ x1)).bind fun t127 => ((copperplateref07_Texts.f k t127 y124).bind fun t130 => (if x0.size + 2 ≤ 9223372036854775807 then (if (x0 ++ (⟨#[13, 10]⟩ : ByteArray)).size + x1.size ≤ 9223372036854775807 then ((fold_Lines.f ((x0 ++ (⟨#[13, 10]⟩ : ByteArray)) ++ x1)).bind fun t131 => ((copperplateref07_Texts.f k t131 y124).bind fun t134 => (if (x0 ++ (⟨#[13]⟩ : ByteArray)).size + x1.size ≤ 9223372036854775807 then ((fold_Lines.f ((x0 ++ (⟨#[13]⟩ : ByteArray)) ++ x1)).bind fun t135 => ((copperplateref07_Texts.f k t135 y124).bind fun t138 => (if t130 = true then (if t134 = true then (if t138 = true then (copperplatelaw07_FoldLines.j1 k x2 t115 ((t115.length : Int) == 0)) else (copperplatelaw07_FoldLines.j1 k x2 t115 true)) else (copperplatelaw07_FoldLines.j1 k x2 t115 true)) else (copperplatelaw07_FoldLines.j1 k x2 t115 true)))) else (none)))) else (none)) else (none)))) else (none)) else (none))) else (none))) else (none))))
def copperplatelaw07_FoldLines.j1 : Nat → Int → List ByteArray → Bool → Option (Bool)
  | 0, _, _, _ => none
  | k + 1, x2, x8, x95 => if x95 = true then (some false) else (if x2 < 0 then (copperplatelaw07_FoldLines.j2 k x2 x8 true) else (copperplatelaw07_FoldLines.j2 k x2 x8 (decide (x2 ≥ (x8.length : Int)))))
def copperplatelaw07_FoldLines.j2 : Nat → Int → List ByteArray → Bool → Option (Bool)
  | 0, _, _, _ => none
  | k + 1, x2, x8, x103 => if x103 = true then (some true) else (copperplatelaw07_FoldLines.l0 k x2 x8 0)
def copperplatelaw07_FoldLines.l0 : Nat → Int → List ByteArray → Int → Option (Bool)
  | 0, _, _, _ => none
  | k + 1, x2, x8, x14 => if 0 ≤ x2 then (if x2 < (x8.length : Int) then (if x14 < ((rdOf ByteArray.empty x8 x2).size : Int) then (if 0 ≤ x14 then (if (bt (rdOf ByteArray.empty x8 x2) x14) = 10 then (some false) else (if (bt (rdOf ByteArray.empty x8 x2) x14) = 13 then (some false) else (copperplatelaw07_FoldLines.l0 k x2 x8 (wrap64 (x14 + 1))))) else (none)) else (some true)) else (none)) else (none)
end
def copperplatelaw07_FoldLines.f (k : Nat) (a0 : ByteArray) (a1 : ByteArray) (a2 : Int) : Option (Bool) := (copperplatelaw07_awake.f).bind fun t114 => (if t114 = true then (if (a0.size : Int) > 300 then (copperplatelaw07_FoldLines.j0 k a0 a1 a2 t114 true) else (if (a1.size : Int) > 300 then (copperplatelaw07_FoldLines.j0 k a0 a1 a2 t114 true) else (if (a1.size : Int) > 0 then (if 0 < (a1.size : Int) then (if (bt a1 0) = 10 then (copperplatelaw07_FoldLines.j0 k a0 a1 a2 t114 true) else (if (a0.size : Int) > 0 then (if 0 ≤ (wrap64 ((a0.size : Int) - 1)) then (if (wrap64 ((a0.size : Int) - 1)) < (a0.size : Int) then (copperplatelaw07_FoldLines.j0 k a0 a1 a2 t114 ((bt a0 (wrap64 ((a0.size : Int) - 1))) == 13)) else (none)) else (none)) else (copperplatelaw07_FoldLines.j0 k a0 a1 a2 t114 false))) else (none)) else (if (a0.size : Int) > 0 then (if 0 ≤ (wrap64 ((a0.size : Int) - 1)) then (if (wrap64 ((a0.size : Int) - 1)) < (a0.size : Int) then (copperplatelaw07_FoldLines.j0 k a0 a1 a2 t114 ((bt a0 (wrap64 ((a0.size : Int) - 1))) == 13)) else (none)) else (none)) else (copperplatelaw07_FoldLines.j0 k a0 a1 a2 t114 false))))) else (copperplatelaw07_FoldLines.j0 k a0 a1 a2 t114 true))
theorem copperplatelaw07_FoldLines.mono_l : ∀ k, (∀ y0 y1 y2 y3 y4, LeO (copperplatelaw07_FoldLines.j0 k y0 y1 y2 y3 y4) (copperplatelaw07_FoldLines.j0 (k + 1) y0 y1 y2 y3 y4)) ∧ (∀ y0 y1 y2, LeO (copperplatelaw07_FoldLines.j1 k y0 y1 y2) (copperplatelaw07_FoldLines.j1 (k + 1) y0 y1 y2)) ∧ (∀ y0 y1 y2, LeO (copperplatelaw07_FoldLines.j2 k y0 y1 y2) (copperplatelaw07_FoldLines.j2 (k + 1) y0 y1 y2)) ∧ (∀ y0 y1 y2, LeO (copperplatelaw07_FoldLines.l0 k y0 y1 y2) (copperplatelaw07_FoldLines.l0 (k + 1) y0 y1 y2))
  | 0 => ⟨fun _ _ _ _ _ r h => by simp [copperplatelaw07_FoldLines.j0] at h, fun _ _ _ r h => by simp [copperplatelaw07_FoldLines.j1] at h, fun _ _ _ r h => by simp [copperplatelaw07_FoldLines.j2] at h, fun _ _ _ r h => by simp [copperplatelaw07_FoldLines.l0] at h⟩
  | k + 1 => by
    obtain ⟨ih0, ih1, ih2, ih3⟩ := copperplatelaw07_FoldLines.mono_l k
    refine ⟨?_, ?_, ?_, ?_⟩
    · intro y0 y1 y2 y3 y4
      unfold copperplatelaw07_FoldLines.j0
      repeat' first
      | (with_reducible exact ih0 _ _ _ _ _)
      | (with_reducible exact ih1 _ _ _)
      | (with_reducible exact ih2 _ _ _)
      | (with_reducible exact ih3 _ _ _)
      | (with_reducible exact copperplateref07_Texts.mono _ _ _)
      | (with_reducible exact LeO.refl _)
      | (with_reducible exact LeO.none _)
      | (with_reducible refine LeO.ite ?_ ?_)
      | (with_reducible refine LeO.bind ?_ (fun _ => ?_))
      | exact ih0 _ _ _ _ _
      | exact ih1 _ _ _
      | exact ih2 _ _ _
      | exact ih3 _ _ _
      | exact copperplateref07_Texts.mono _ _ _
      | exact LeO.none _
      | refine LeO.ite ?_ ?_
      | refine LeO.bind ?_ (fun _ => ?_)
    · intro y0 y1 y2
      unfold copperplatelaw07_FoldLines.j1
      repeat' first
      | (with_reducible exact ih0 _ _ _ _ _)
      | (with_reducible exact ih1 _ _ _)
      | (with_reducible exact ih2 _ _ _)
      | (with_reducible exact ih3 _ _ _)
      | (with_reducible exact copperplateref07_Texts.mono _ _ _)
      | (with_reducible exact LeO.refl _)
      | (with_reducible exact LeO.none _)
      | (with_reducible refine LeO.ite ?_ ?_)
      | (with_reducible refine LeO.bind ?_ (fun _ => ?_))
      | exact ih0 _ _ _ _ _
      | exact ih1 _ _ _
      | exact ih2 _ _ _
      | exact ih3 _ _ _
      | exact copperplateref07_Texts.mono _ _ _
      | exact LeO.none _
      | refine LeO.ite ?_ ?_
      | refine LeO.bind ?_ (fun _ => ?_)
    · intro y0 y1 y2
      unfold copperplatelaw07_FoldLines.j2
      repeat' first
      | (with_reducible exact ih0 _ _ _ _ _)
      | (with_reducible exact ih1 _ _ _)
      | (with_reducible exact ih2 _ _ _)
      | (with_reducible exact ih3 _ _ _)
      | (with_reducible exact copperplateref07_Texts.mono _ _ _)
      | (with_reducible exact LeO.refl _)
      | (with_reducible exact LeO.none _)
      | (with_reducible refine LeO.ite ?_ ?_)
      | (with_reducible refine LeO.bind ?_ (fun _ => ?_))
      | exact ih0 _ _ _ _ _
      | exact ih1 _ _ _
      | exact ih2 _ _ _
      | exact ih3 _ _ _
      | exact copperplateref07_Texts.mono _ _ _
      | exact LeO.none _
      | refine LeO.ite ?_ ?_
      | refine LeO.bind ?_ (fun _ => ?_)
    · intro y0 y1 y2
      unfold copperplatelaw07_FoldLines.l0
      repeat' first
      | (with_reducible exact ih0 _ _ _ _ _)
      | (with_reducible exact ih1 _ _ _)
      | (with_reducible exact ih2 _ _ _)
      | (with_reducible exact ih3 _ _ _)
      | (with_reducible exact copperplateref07_Texts.mono _ _ _)
      | (with_reducible exact LeO.refl _)
      | (with_reducible exact LeO.none _)
      | (with_reducible refine LeO.ite ?_ ?_)
      | (with_reducible refine LeO.bind ?_ (fun _ => ?_))
      | exact ih0 _ _ _ _ _
      | exact ih1 _ _ _
      | exact ih2 _ _ _
      | exact ih3 _ _ _
      | exact copperplateref07_Texts.mono _ _ _
      | exact LeO.none _
      | refine LeO.ite ?_ ?_
      | refine LeO.bind ?_ (fun _ => ?_)
theorem copperplatelaw07_FoldLines.mono : ∀ a0 a1 a2 k, LeO (copperplatelaw07_FoldLines.f k a0 a1 a2) (copperplatelaw07_FoldLines.f (k + 1) a0 a1 a2) := by
  intro a0 a1 a2 k
  obtain ⟨ih0, ih1, ih2, ih3⟩ := copperplatelaw07_FoldLines.mono_l k
  unfold copperplatelaw07_FoldLines.f
  repeat' first
      | (with_reducible exact ih0 _ _ _ _ _)
      | (with_reducible exact ih1 _ _ _)
      | (with_reducible exact ih2 _ _ _)
      | (with_reducible exact ih3 _ _ _)
      | (with_reducible exact copperplateref07_Texts.mono _ _ _)
      | (with_reducible exact LeO.refl _)
      | (with_reducible exact LeO.none _)
      | (with_reducible refine LeO.ite ?_ ?_)
      | (with_reducible refine LeO.bind ?_ (fun _ => ?_))
      | exact ih0 _ _ _ _ _
      | exact ih1 _ _ _
      | exact ih2 _ _ _
      | exact ih3 _ _ _
      | exact copperplateref07_Texts.mono _ _ _
      | exact LeO.none _
      | refine LeO.ite ?_ ?_
      | refine LeO.bind ?_ (fun _ => ?_)
set_option maxHeartbeats 8000000 in
set_option maxRecDepth 100000 in
theorem copperplatelaw07_FoldLines.calls (k : Nat) (a0 : ByteArray) (a1 : ByteArray) (a2 : Int) (r : Bool) (w : World) (h : copperplatelaw07_FoldLines.f k a0 a1 a2 = some r) :
    Calls Tryd.prog 5 #[.string a0, .string a1, .int .i64 a2] w fun e w' => e = .returned (.bool r) ∧ Below w.heap.size w w' := by
  have HB := Aside0.mk (Below.refl w.heap.size w)
  have H : ((copperplatelaw07_awake.f).bind fun t114 => (if t114 = true then (if (a0.size : Int) > 300 then (copperplatelaw07_FoldLines.j0 k a0 a1 a2 t114 true) else (if (a1.size : Int) > 300 then (copperplatelaw07_FoldLines.j0 k a0 a1 a2 t114 true) else (if (a1.size : Int) > 0 then (if 0 < (a1.size : Int) then (if (bt a1 0) = 10 then (copperplatelaw07_FoldLines.j0 k a0 a1 a2 t114 true) else (if (a0.size : Int) > 0 then (if 0 ≤ (wrap64 ((a0.size : Int) - 1)) then (if (wrap64 ((a0.size : Int) - 1)) < (a0.size : Int) then (copperplatelaw07_FoldLines.j0 k a0 a1 a2 t114 ((bt a0 (wrap64 ((a0.size : Int) - 1))) == 13)) else (none)) else (none)) else (copperplatelaw07_FoldLines.j0 k a0 a1 a2 t114 false))) else (none)) else (if (a0.size : Int) > 0 then (if 0 ≤ (wrap64 ((a0.size : Int) - 1)) then (if (wrap64 ((a0.size : Int) - 1)) < (a0.size : Int) then (copperplatelaw07_FoldLines.j0 k a0 a1 a2 t114 ((bt a0 (wrap64 ((a0.size : Int) - 1))) == 13)) else (none)) else (none)) else (copperplatelaw07_FoldLines.j0 k a0 a1 a2 t114 false))))) else (copperplatelaw07_FoldLines.j0 k a0 a1 a2 t114 true))) = some r := h
  clear h
  replace H := Option.bind_eq_some_iff.mp H
  obtain ⟨t114, A40, H⟩ := H
  replace H : (if t114 = true then (if (a0.size : Int) > 300 then (copperplatelaw07_FoldLines.j0 k a0 a1 a2 t114 true) else (if (a1.size : Int) > 300 then (copperplatelaw07_FoldLines.j0 k a0 a1 a2 t114 true) else (if (a1.size : Int) > 0 then (if 0 < (a1.size : Int) then (if (bt a1 0) = 10 then (copperplatelaw07_FoldLines.j0 k a0 a1 a2 t114 true) else (if (a0.size : Int) > 0 then (if 0 ≤ (wrap64 ((a0.size : Int) - 1)) then (if (wrap64 ((a0.size : Int) - 1)) < (a0.size : Int) then (copperplatelaw07_FoldLines.j0 k a0 a1 a2 t114 ((bt a0 (wrap64 ((a0.size : Int) - 1))) == 13)) else (none)) else (none)) else (copperplatelaw07_FoldLines.j0 k a0 a1 a2 t114 false))) else (none)) else (if (a0.size : Int) > 0 then (if 0 ≤ (wrap64 ((a0.size : Int) - 1)) then (if (wrap64 ((a0.size : Int) - 1)) < (a0.size : Int) then (copperplatelaw07_FoldLines.j0 k a0 a1 a2 t114 ((bt a0 (wrap64 ((a0.size : Int) - 1))) == 13)) else (none)) else (none)) else (copperplatelaw07_FoldLines.j0 k a0 a1 a2 t114 false))))) else (copperplatelaw07_FoldLines.j0 k a0 a1 a2 t114 true)) = some r := H
  have A4 := Aside0.mk A40
  clear A40
  have HC5 := Aside0.mk H
  clear H
  go_enter Tryd.func5, Tryd.ntmps5
  go_upto_region 2 with (first | ((with_reducible refine gate_callee (f := 10) rfl ?_); refine goesL_ (some 15) rfl rfl Tryd.func10 (by kernel_rfl) rfl #[] rfl (by (try simp only [List.map_toArray, List.map_cons, List.map_nil]); first | done | rfl | (simp only [List.length_drop, List.length_take]; rfl)) ?_; (with_reducible refine (copperplatelaw07_awake.calls  t114 _ A4.out).mono ?_); rintro e w6 ⟨rfl, hb⟩; refine ⟨_, rfl, ?_⟩; have n0_ := Aside0.mk (below_step (by repeat (first | (with_reducible first | exact HB.out | apply below_alloc | apply pw_below_drewN | apply below_drew1) | exact HB.out)) hb); clear HB; have HB := n0_; clear n0_; (try clear hb); (try clear hb2); (try clear hk); (try clear hi)))
  (try simp only [Act.put, List.setIfInBounds_toArray, List.set_cons_zero, List.set_cons_succ])
  go_cut [50] (fun v50 wc => ∃ (kq : Nat) (x50_4 : Bool), v50 = .bool x50_4 ∧ Aside0 (copperplatelaw07_FoldLines.j0 kq a0 a1 a2 t114 x50_4 = some r) ∧ Aside0 (kq ≤ k) ∧ Aside0 (Below w.heap.size w wc))
  case first =>
    have H := HC5.out
    clear HC5
    by_cases c7 : t114 = true
    · subst c7
      have H1 : (if (a0.size : Int) > 300 then (copperplatelaw07_FoldLines.j0 k a0 a1 a2 true true) else (if (a1.size : Int) > 300 then (copperplatelaw07_FoldLines.j0 k a0 a1 a2 true true) else (if (a1.size : Int) > 0 then (if 0 < (a1.size : Int) then (if (bt a1 0) = 10 then (copperplatelaw07_FoldLines.j0 k a0 a1 a2 true true) else (if (a0.size : Int) > 0 then (if 0 ≤ (wrap64 ((a0.size : Int) - 1)) then (if (wrap64 ((a0.size : Int) - 1)) < (a0.size : Int) then (copperplatelaw07_FoldLines.j0 k a0 a1 a2 true ((bt a0 (wrap64 ((a0.size : Int) - 1))) == 13)) else (none)) else (none)) else (copperplatelaw07_FoldLines.j0 k a0 a1 a2 true false))) else (none)) else (if (a0.size : Int) > 0 then (if 0 ≤ (wrap64 ((a0.size : Int) - 1)) then (if (wrap64 ((a0.size : Int) - 1)) < (a0.size : Int) then (copperplatelaw07_FoldLines.j0 k a0 a1 a2 true ((bt a0 (wrap64 ((a0.size : Int) - 1))) == 13)) else (none)) else (none)) else (copperplatelaw07_FoldLines.j0 k a0 a1 a2 true false))))) = some r := by rw [if_pos rfl] at H; exact H
      clear H
      have H := H1
      clear H1
      by_cases c8 : (a0.size : Int) > 300
      · rw [if_pos c8] at H
        have c8b0 : decide (300 < (a0.size : Int)) = true := decide_eq_true c8
        have c8b1 : decide (300 < a0.size) = true := decide_eq_true (by omega)
        clear c8
        (first | rw [c8b0] | (simp only [i64_w, i32_w]; rw [c8b0]) | skip)
        have H' := Aside0.mk H
        clear H
        go_wp2
        go_meet
        case rel => exact ⟨_, (true), (by first | rfl | (simp; done) | (simp [*]; done)), H', ⟨by first | omega | exact Nat.le_refl _⟩, ⟨by repeat (first | (with_reducible first | exact HB.out | apply below_alloc | apply pw_below_drewN | apply below_drew1) | exact HB.out)⟩⟩
      · rw [if_neg c8] at H
        have c8b0 : decide (300 < (a0.size : Int)) = false := decide_eq_false c8
        have c8b1 : decide (300 < a0.size) = false := decide_eq_false (by omega)
        clear c8
        (first | rw [c8b0] | (simp only [i64_w, i32_w]; rw [c8b0]) | skip)
        by_cases c9 : (a1.size : Int) > 300
        · rw [if_pos c9] at H
          have c9b0 : decide (300 < (a1.size : Int)) = true := decide_eq_true c9
          have c9b1 : decide (300 < a1.size) = true := decide_eq_true (by omega)
          clear c9
          have H' := Aside0.mk H
          clear H
          go_wp2
          go_meet
          case rel => exact ⟨_, (true), (by first | rfl | (simp; done) | (simp [*]; done)), H', ⟨by first | omega | exact Nat.le_refl _⟩, ⟨by repeat (first | (with_reducible first | exact HB.out | apply below_alloc | apply pw_below_drewN | apply below_drew1) | exact HB.out)⟩⟩
        · rw [if_neg c9] at H
          have c9b0 : decide (300 < (a1.size : Int)) = false := decide_eq_false c9
          have c9b1 : decide (300 < a1.size) = false := decide_eq_false (by omega)
          clear c9
          by_cases c10 : (a1.size : Int) > 0
          · rw [if_pos c10] at H
            have c10b0 : decide (0 < (a1.size : Int)) = true := decide_eq_true c10
            have c10b1 : decide (0 < a1.size) = true := decide_eq_true (by omega)
            clear c10
            by_cases c11 : 0 < (a1.size : Int)
            · rw [if_pos c11] at H
              have c11b0 : decide (0 < (a1.size : Int)) = true := decide_eq_true c11
              have c11b1 : decide (0 < a1.size) = true := decide_eq_true (by omega)
              clear c11
              by_cases c13 : (bt a1 0) = 10
              · rw [if_pos c13] at H
                have c13b0 : ((bt a1 0) == 10) = true := beq_iff_eq.mpr c13
                have c13b1 : ((bt a1 0) != 10) = false := bne_eq_false_iff_eq.mpr c13
                clear c13
                have H' := Aside0.mk H
                clear H
                have p12 : 0 ≤ (0 : Int) := (by omega)
                have q12 : 0 < a1.size := (by have : (0 : Int) < (a1.size : Int) := of_decide_eq_true (by first | (with_reducible assumption) | assumption); omega)
                have hx12 : ∀ h : 0 < a1.size, ((a1[0]'h).toNat : Int) = bt a1 0 := bt_at a1 0
                clear p12
                have qi12 : (0 < (a1.size : Int)) = True := eq_true (of_decide_eq_true (by first | (with_reducible assumption) | assumption))
                replace q12 := eq_true q12
                go_wp2
                go_meet
                case rel => exact ⟨_, (true), (by first | rfl | (simp; done) | (simp [*]; done)), H', ⟨by first | omega | exact Nat.le_refl _⟩, ⟨by repeat (first | (with_reducible first | exact HB.out | apply below_alloc | apply pw_below_drewN | apply below_drew1) | exact HB.out)⟩⟩
              · rw [if_neg c13] at H
                have c13b0 : ((bt a1 0) == 10) = false := beq_eq_false_iff_ne.mpr c13
                have c13b1 : ((bt a1 0) != 10) = true := bne_iff_ne.mpr c13
                by_cases c14 : (a0.size : Int) > 0
                · rw [if_pos c14] at H
                  have c14b0 : decide (0 < (a0.size : Int)) = true := decide_eq_true c14
                  have c14b1 : decide (0 < a0.size) = true := decide_eq_true (by omega)
                  clear c14
                  obtain ⟨ji15, hji15⟩ : ∃ j_ : Int, (wrap64 ((a0.size : Int) - 1)) = j_ := ⟨_, rfl⟩
                  replace H : (if 0 ≤ (ji15) then (if (ji15) < (a0.size : Int) then (copperplatelaw07_FoldLines.j0 k a0 a1 a2 true ((bt a0 (ji15)) == 13)) else (none)) else (none)) = some r := by first | (rw [hji15] at H; exact H) | (simp only [hji15] at H ⊢; exact H)
                  have hji15w : (IntKind.i64.wrap ((a0.size : Int) - 1)) = ji15 := (i64_w _).trans hji15
                  by_cases c16 : 0 ≤ (ji15)
                  · rw [if_pos c16] at H
                    have c16b0 : decide (0 ≤ (ji15)) = true := decide_eq_true c16
                    clear c16
                    by_cases c17 : (ji15) < (a0.size : Int)
                    · rw [if_pos c17] at H
                      have c17b0 : decide ((ji15) < (a0.size : Int)) = true := decide_eq_true c17
                      clear c17
                      have H' := Aside0.mk H
                      clear H
                      have p12 : 0 ≤ (0 : Int) := (by omega)
                      have q12 : 0 < a1.size := (by have : (0 : Int) < (a1.size : Int) := of_decide_eq_true (by first | (with_reducible assumption) | assumption); omega)
                      have hx12 : ∀ h : 0 < a1.size, ((a1[0]'h).toNat : Int) = bt a1 0 := bt_at a1 0
                      clear p12
                      have qi12 : (0 < (a1.size : Int)) = True := eq_true (of_decide_eq_true (by first | (with_reducible assumption) | assumption))
                      replace q12 := eq_true q12
                      have p18 : 0 ≤ ((ji15) : Int) := of_decide_eq_true (by first | (with_reducible assumption) | assumption)
                      have q18 : (ji15) < (a0.size : Int) := of_decide_eq_true (by first | (with_reducible assumption) | assumption)
                      have hx18 := bt_at a0 (ji15)
                      replace p18 := eq_true p18
                      replace q18 := eq_true q18
                      go_wp2
                      go_meet
                      case rel => exact ⟨_, (((bt a0 (ji15)) == 13)), (by first | rfl | (simp; done) | (simp only [← hji15] <;> (first | rfl | simp)) | (simp [*]; done)), H', ⟨by first | omega | exact Nat.le_refl _⟩, ⟨by repeat (first | (with_reducible first | exact HB.out | apply below_alloc | apply pw_below_drewN | apply below_drew1) | exact HB.out)⟩⟩
                    · rw [if_neg c17] at H
                      exact absurd H (by simp)
                  · rw [if_neg c16] at H
                    exact absurd H (by simp)
                · rw [if_neg c14] at H
                  have c14b0 : decide (0 < (a0.size : Int)) = false := decide_eq_false c14
                  have c14b1 : decide (0 < a0.size) = false := decide_eq_false (by omega)
                  clear c14
                  have H' := Aside0.mk H
                  clear H
                  have p12 : 0 ≤ (0 : Int) := (by omega)
                  have q12 : 0 < a1.size := (by have : (0 : Int) < (a1.size : Int) := of_decide_eq_true (by first | (with_reducible assumption) | assumption); omega)
                  have hx12 : ∀ h : 0 < a1.size, ((a1[0]'h).toNat : Int) = bt a1 0 := bt_at a1 0
                  clear p12
                  have qi12 : (0 < (a1.size : Int)) = True := eq_true (of_decide_eq_true (by first | (with_reducible assumption) | assumption))
                  replace q12 := eq_true q12
                  go_wp2
                  go_meet
                  case rel => exact ⟨_, (false), (by first | rfl | (simp; done) | (simp [*]; done)), H', ⟨by first | omega | exact Nat.le_refl _⟩, ⟨by repeat (first | (with_reducible first | exact HB.out | apply below_alloc | apply pw_below_drewN | apply below_drew1) | exact HB.out)⟩⟩
            · rw [if_neg c11] at H
              exact absurd H (by simp)
          · rw [if_neg c10] at H
            have c10b0 : decide (0 < (a1.size : Int)) = false := decide_eq_false c10
            have c10b1 : decide (0 < a1.size) = false := decide_eq_false (by omega)
            clear c10
            by_cases c19 : (a0.size : Int) > 0
            · rw [if_pos c19] at H
              have c19b0 : decide (0 < (a0.size : Int)) = true := decide_eq_true c19
              have c19b1 : decide (0 < a0.size) = true := decide_eq_true (by omega)
              clear c19
              obtain ⟨ji20, hji20⟩ : ∃ j_ : Int, (wrap64 ((a0.size : Int) - 1)) = j_ := ⟨_, rfl⟩
              replace H : (if 0 ≤ (ji20) then (if (ji20) < (a0.size : Int) then (copperplatelaw07_FoldLines.j0 k a0 a1 a2 true ((bt a0 (ji20)) == 13)) else (none)) else (none)) = some r := by first | (rw [hji20] at H; exact H) | (simp only [hji20] at H ⊢; exact H)
              have hji20w : (IntKind.i64.wrap ((a0.size : Int) - 1)) = ji20 := (i64_w _).trans hji20
              by_cases c21 : 0 ≤ (ji20)
              · rw [if_pos c21] at H
                have c21b0 : decide (0 ≤ (ji20)) = true := decide_eq_true c21
                clear c21
                by_cases c22 : (ji20) < (a0.size : Int)
                · rw [if_pos c22] at H
                  have c22b0 : decide ((ji20) < (a0.size : Int)) = true := decide_eq_true c22
                  clear c22
                  have H' := Aside0.mk H
                  clear H
                  have p23 : 0 ≤ ((ji20) : Int) := of_decide_eq_true (by first | (with_reducible assumption) | assumption)
                  have q23 : (ji20) < (a0.size : Int) := of_decide_eq_true (by first | (with_reducible assumption) | assumption)
                  have hx23 := bt_at a0 (ji20)
                  replace p23 := eq_true p23
                  replace q23 := eq_true q23
                  go_wp2
                  go_meet
                  case rel => exact ⟨_, (((bt a0 (ji20)) == 13)), (by first | rfl | (simp; done) | (simp only [← hji20] <;> (first | rfl | simp)) | (simp [*]; done)), H', ⟨by first | omega | exact Nat.le_refl _⟩, ⟨by repeat (first | (with_reducible first | exact HB.out | apply below_alloc | apply pw_below_drewN | apply below_drew1) | exact HB.out)⟩⟩
                · rw [if_neg c22] at H
                  exact absurd H (by simp)
              · rw [if_neg c21] at H
                exact absurd H (by simp)
            · rw [if_neg c19] at H
              have c19b0 : decide (0 < (a0.size : Int)) = false := decide_eq_false c19
              have c19b1 : decide (0 < a0.size) = false := decide_eq_false (by omega)
              clear c19
              have H' := Aside0.mk H
              clear H
              go_wp2
              go_meet
              case rel => exact ⟨_, (false), (by first | rfl | (simp; done) | (simp [*]; done)), H', ⟨by first | omega | exact Nat.le_refl _⟩, ⟨by repeat (first | (with_reducible first | exact HB.out | apply below_alloc | apply pw_below_drewN | apply below_drew1) | exact HB.out)⟩⟩
    · replace c7 := Bool.eq_false_iff.mpr c7
      subst c7
      have H1 : (copperplatelaw07_FoldLines.j0 k a0 a1 a2 false true) = some r := by rw [if_neg (show ¬ (false = true) by decide)] at H; exact H
      clear H
      have H := H1
      clear H1
      have H' := Aside0.mk H
      clear H
      go_wp2
      go_meet
      case rel => exact ⟨_, (true), (by first | rfl | (simp; done) | (simp [*]; done)), H', ⟨by first | omega | exact Nat.le_refl _⟩, ⟨by repeat (first | (with_reducible first | exact HB.out | apply below_alloc | apply pw_below_drewN | apply below_drew1) | exact HB.out)⟩⟩
  case rest =>
    clear HC5
    try clear c1
    try clear p1
    try clear q1
    try clear hx1
    try clear qi1
    try clear c2
    try clear p2
    try clear q2
    try clear hx2
    try clear c5
    try clear p6
    try clear c7
    try clear c8
    try clear c8b0
    try clear c8b1
    try clear c9
    try clear c9b0
    try clear c9b1
    try clear c10
    try clear c10b0
    try clear c10b1
    try clear c11
    try clear c11b0
    try clear c11b1
    try clear p12
    try clear q12
    try clear hx12
    try clear qi12
    try clear c13
    try clear c13b0
    try clear c13b1
    try clear c14
    try clear c14b0
    try clear c14b1
    try clear c16
    try clear c16b0
    try clear c17
    try clear c17b0
    try clear p18
    try clear q18
    try clear hx18
    try clear c19
    try clear c19b0
    try clear c19b1
    try clear c21
    try clear c21b0
    try clear c22
    try clear c22b0
    try clear p23
    try clear q23
    try clear hx23
    try clear p12
    try clear p18
    try clear p23
    try clear q12
    try clear q18
    try clear q23
    obtain ⟨kq, x50_4, rfl, HA, HJ4, HB⟩ := hcut
    cases kq with
    | zero => exact absurd HA.out (by simp [copperplatelaw07_FoldLines.j0])
    | succ kj4 =>
      have H := HA.out
      clear HA
      simp only [copperplatelaw07_FoldLines.j0] at H
      by_cases c24 : x50_4 = true
      · subst c24
        have H1 : (some t114) = some r := by rw [if_pos rfl] at H; exact H
        clear H
        have H := H1
        clear H1
        obtain rfl := Option.some.inj H
        go_wp2
        go_ret
        exact ⟨by first | rfl | (simp [errW_none, errW_some] <;> rfl) | (simp [*, errW_none, errW_some] <;> rfl), by repeat (first | (with_reducible first | exact HB.out | apply below_alloc | apply pw_below_drewN | apply below_drew1) | exact HB.out)⟩
      · replace c24 := Bool.eq_false_iff.mpr c24
        subst c24
        have H1 : ((fold_Lines.f a0).bind fun t115 => ((fold_Lines.f a1).bind fun t118 => (if ([] : List ByteArray).length + t115.length < 8796093022208 then ((some (([] : List ByteArray) ++ t115 : List ByteArray)).bind fun y121 => (if y121.length + t118.length < 8796093022208 then ((some (y121 ++ t118 : List ByteArray)).bind fun y124 => (if a0.size + 1 ≤ 9223372036854775807 then (if (a0 ++ (⟨#[10]⟩ : ByteArray)).size + a1.size ≤ 9223372036854775807 then ((fold_Lines.f ((a0 ++ (⟨#[10]⟩ : ByteArray)) ++ a1)).bind fun t127 => ((copperplateref07_Texts.f kj4 t127 y124).bind fun t130 => (if a0.size + 2 ≤ 9223372036854775807 then (if (a0 ++ (⟨#[13, 10]⟩ : ByteArray)).size + a1.size ≤ 9223372036854775807 then ((fold_Lines.f ((a0 ++ (⟨#[13, 10]⟩ : ByteArray)) ++ a1)).bind fun t131 => ((copperplateref07_Texts.f kj4 t131 y124).bind fun t134 => (if (a0 ++ (⟨#[13]⟩ : ByteArray)).size + a1.size ≤ 9223372036854775807 then ((fold_Lines.f ((a0 ++ (⟨#[13]⟩ : ByteArray)) ++ a1)).bind fun t135 => ((copperplateref07_Texts.f kj4 t135 y124).bind fun t138 => (if t130 = true then (if t134 = true then (if t138 = true then (copperplatelaw07_FoldLines.j1 kj4 a2 t115 ((t115.length : Int) == 0)) else (copperplatelaw07_FoldLines.j1 kj4 a2 t115 true)) else (copperplatelaw07_FoldLines.j1 kj4 a2 t115 true)) else (copperplatelaw07_FoldLines.j1 kj4 a2 t115 true)))) else (none)))) else (none)) else (none)))) else (none)) else (none))) else (none))) else (none)))) = some r := by rw [if_neg (show ¬ (false = true) by decide)] at H; exact H
        clear H
        have H := H1
        clear H1
        replace H := Option.bind_eq_some_iff.mp H
        obtain ⟨t115, A250, H⟩ := H
        replace H : ((fold_Lines.f a1).bind fun t118 => (if ([] : List ByteArray).length + t115.length < 8796093022208 then ((some (([] : List ByteArray) ++ t115 : List ByteArray)).bind fun y121 => (if y121.length + t118.length < 8796093022208 then ((some (y121 ++ t118 : List ByteArray)).bind fun y124 => (if a0.size + 1 ≤ 9223372036854775807 then (if (a0 ++ (⟨#[10]⟩ : ByteArray)).size + a1.size ≤ 9223372036854775807 then ((fold_Lines.f ((a0 ++ (⟨#[10]⟩ : ByteArray)) ++ a1)).bind fun t127 => ((copperplateref07_Texts.f kj4 t127 y124).bind fun t130 => (if a0.size + 2 ≤ 9223372036854775807 then (if (a0 ++ (⟨#[13, 10]⟩ : ByteArray)).size + a1.size ≤ 9223372036854775807 then ((fold_Lines.f ((a0 ++ (⟨#[13, 10]⟩ : ByteArray)) ++ a1)).bind fun t131 => ((copperplateref07_Texts.f kj4 t131 y124).bind fun t134 => (if (a0 ++ (⟨#[13]⟩ : ByteArray)).size + a1.size ≤ 9223372036854775807 then ((fold_Lines.f ((a0 ++ (⟨#[13]⟩ : ByteArray)) ++ a1)).bind fun t135 => ((copperplateref07_Texts.f kj4 t135 y124).bind fun t138 => (if t130 = true then (if t134 = true then (if t138 = true then (copperplatelaw07_FoldLines.j1 kj4 a2 t115 ((t115.length : Int) == 0)) else (copperplatelaw07_FoldLines.j1 kj4 a2 t115 true)) else (copperplatelaw07_FoldLines.j1 kj4 a2 t115 true)) else (copperplatelaw07_FoldLines.j1 kj4 a2 t115 true)))) else (none)))) else (none)) else (none)))) else (none)) else (none))) else (none))) else (none))) = some r := H
        have A25 := Aside0.mk A250
        clear A250
        replace H := Option.bind_eq_some_iff.mp H
        obtain ⟨t118, A260, H⟩ := H
        replace H : (if ([] : List ByteArray).length + t115.length < 8796093022208 then ((some (([] : List ByteArray) ++ t115 : List ByteArray)).bind fun y121 => (if y121.length + t118.length < 8796093022208 then ((some (y121 ++ t118 : List ByteArray)).bind fun y124 => (if a0.size + 1 ≤ 9223372036854775807 then (if (a0 ++ (⟨#[10]⟩ : ByteArray)).size + a1.size ≤ 9223372036854775807 then ((fold_Lines.f ((a0 ++ (⟨#[10]⟩ : ByteArray)) ++ a1)).bind fun t127 => ((copperplateref07_Texts.f kj4 t127 y124).bind fun t130 => (if a0.size + 2 ≤ 9223372036854775807 then (if (a0 ++ (⟨#[13, 10]⟩ : ByteArray)).size + a1.size ≤ 9223372036854775807 then ((fold_Lines.f ((a0 ++ (⟨#[13, 10]⟩ : ByteArray)) ++ a1)).bind fun t131 => ((copperplateref07_Texts.f kj4 t131 y124).bind fun t134 => (if (a0 ++ (⟨#[13]⟩ : ByteArray)).size + a1.size ≤ 9223372036854775807 then ((fold_Lines.f ((a0 ++ (⟨#[13]⟩ : ByteArray)) ++ a1)).bind fun t135 => ((copperplateref07_Texts.f kj4 t135 y124).bind fun t138 => (if t130 = true then (if t134 = true then (if t138 = true then (copperplatelaw07_FoldLines.j1 kj4 a2 t115 ((t115.length : Int) == 0)) else (copperplatelaw07_FoldLines.j1 kj4 a2 t115 true)) else (copperplatelaw07_FoldLines.j1 kj4 a2 t115 true)) else (copperplatelaw07_FoldLines.j1 kj4 a2 t115 true)))) else (none)))) else (none)) else (none)))) else (none)) else (none))) else (none))) else (none)) = some r := H
        have A26 := Aside0.mk A260
        clear A260
        by_cases c27 : ([] : List ByteArray).length + t115.length < 8796093022208
        · rw [if_pos c27] at H
          have LMc27 := Aside0.mk c27
          clear c27
          obtain ⟨y121, hy121⟩ : ∃ y_ : List ByteArray, y_ = (([] : List ByteArray) ++ t115) := ⟨_, rfl⟩
          replace H : (if y121.length + t118.length < 8796093022208 then ((some (y121 ++ t118 : List ByteArray)).bind fun y124 => (if a0.size + 1 ≤ 9223372036854775807 then (if (a0 ++ (⟨#[10]⟩ : ByteArray)).size + a1.size ≤ 9223372036854775807 then ((fold_Lines.f ((a0 ++ (⟨#[10]⟩ : ByteArray)) ++ a1)).bind fun t127 => ((copperplateref07_Texts.f kj4 t127 y124).bind fun t130 => (if a0.size + 2 ≤ 9223372036854775807 then (if (a0 ++ (⟨#[13, 10]⟩ : ByteArray)).size + a1.size ≤ 9223372036854775807 then ((fold_Lines.f ((a0 ++ (⟨#[13, 10]⟩ : ByteArray)) ++ a1)).bind fun t131 => ((copperplateref07_Texts.f kj4 t131 y124).bind fun t134 => (if (a0 ++ (⟨#[13]⟩ : ByteArray)).size + a1.size ≤ 9223372036854775807 then ((fold_Lines.f ((a0 ++ (⟨#[13]⟩ : ByteArray)) ++ a1)).bind fun t135 => ((copperplateref07_Texts.f kj4 t135 y124).bind fun t138 => (if t130 = true then (if t134 = true then (if t138 = true then (copperplatelaw07_FoldLines.j1 kj4 a2 t115 ((t115.length : Int) == 0)) else (copperplatelaw07_FoldLines.j1 kj4 a2 t115 true)) else (copperplatelaw07_FoldLines.j1 kj4 a2 t115 true)) else (copperplatelaw07_FoldLines.j1 kj4 a2 t115 true)))) else (none)))) else (none)) else (none)))) else (none)) else (none))) else (none)) = some r := by first | (rw [hy121]; with_reducible exact H) | (have H2_ := (Option.bind_some _ _).symm.trans H; rw [hy121]; with_reducible exact H2_) | (have H2_ := (Option.bind_some _ _).symm.trans H; with_reducible exact H2_) | with_reducible exact H | (rw [hy121]; exact H) | exact H
          have Ny121 := Aside0.mk hy121
          clear hy121
          by_cases c28 : y121.length + t118.length < 8796093022208
          · rw [if_pos c28] at H
            have LMc28 := Aside0.mk c28
            clear c28
            obtain ⟨y124, hy124⟩ : ∃ y_ : List ByteArray, y_ = (y121 ++ t118) := ⟨_, rfl⟩
            replace H : (if a0.size + 1 ≤ 9223372036854775807 then (if (a0 ++ (⟨#[10]⟩ : ByteArray)).size + a1.size ≤ 9223372036854775807 then ((fold_Lines.f ((a0 ++ (⟨#[10]⟩ : ByteArray)) ++ a1)).bind fun t127 => ((copperplateref07_Texts.f kj4 t127 y124).bind fun t130 => (if a0.size + 2 ≤ 9223372036854775807 then (if (a0 ++ (⟨#[13, 10]⟩ : ByteArray)).size + a1.size ≤ 9223372036854775807 then ((fold_Lines.f ((a0 ++ (⟨#[13, 10]⟩ : ByteArray)) ++ a1)).bind fun t131 => ((copperplateref07_Texts.f kj4 t131 y124).bind fun t134 => (if (a0 ++ (⟨#[13]⟩ : ByteArray)).size + a1.size ≤ 9223372036854775807 then ((fold_Lines.f ((a0 ++ (⟨#[13]⟩ : ByteArray)) ++ a1)).bind fun t135 => ((copperplateref07_Texts.f kj4 t135 y124).bind fun t138 => (if t130 = true then (if t134 = true then (if t138 = true then (copperplatelaw07_FoldLines.j1 kj4 a2 t115 ((t115.length : Int) == 0)) else (copperplatelaw07_FoldLines.j1 kj4 a2 t115 true)) else (copperplatelaw07_FoldLines.j1 kj4 a2 t115 true)) else (copperplatelaw07_FoldLines.j1 kj4 a2 t115 true)))) else (none)))) else (none)) else (none)))) else (none)) else (none)) = some r := by first | (rw [hy124]; with_reducible exact H) | (have H2_ := (Option.bind_some _ _).symm.trans H; rw [hy124]; with_reducible exact H2_) | (have H2_ := (Option.bind_some _ _).symm.trans H; with_reducible exact H2_) | with_reducible exact H | (rw [hy124]; exact H) | exact H
            have Ny124 := Aside0.mk hy124
            clear hy124
            by_cases c29 : a0.size + 1 ≤ 9223372036854775807
            · rw [if_pos c29] at H
              have c29b0 := eq_true c29
              have c29b1 : decide (a0.size + 1 ≤ 9223372036854775807) = true := decide_eq_true c29
              try have c29b2 : (9223372036854775807 < a0.size + 1) = False := eq_false (Nat.not_lt.2 c29)
              by_cases c30 : (a0 ++ (⟨#[10]⟩ : ByteArray)).size + a1.size ≤ 9223372036854775807
              · rw [if_pos c30] at H
                have c30b0 := eq_true c30
                have c30b1 : decide ((a0 ++ (⟨#[10]⟩ : ByteArray)).size + a1.size ≤ 9223372036854775807) = true := decide_eq_true c30
                try have c30b2 : (9223372036854775807 < (a0 ++ (⟨#[10]⟩ : ByteArray)).size + a1.size) = False := eq_false (Nat.not_lt.2 c30)
                replace H := Option.bind_eq_some_iff.mp H
                obtain ⟨t127, A310, H⟩ := H
                replace H : ((copperplateref07_Texts.f kj4 t127 y124).bind fun t130 => (if a0.size + 2 ≤ 9223372036854775807 then (if (a0 ++ (⟨#[13, 10]⟩ : ByteArray)).size + a1.size ≤ 9223372036854775807 then ((fold_Lines.f ((a0 ++ (⟨#[13, 10]⟩ : ByteArray)) ++ a1)).bind fun t131 => ((copperplateref07_Texts.f kj4 t131 y124).bind fun t134 => (if (a0 ++ (⟨#[13]⟩ : ByteArray)).size + a1.size ≤ 9223372036854775807 then ((fold_Lines.f ((a0 ++ (⟨#[13]⟩ : ByteArray)) ++ a1)).bind fun t135 => ((copperplateref07_Texts.f kj4 t135 y124).bind fun t138 => (if t130 = true then (if t134 = true then (if t138 = true then (copperplatelaw07_FoldLines.j1 kj4 a2 t115 ((t115.length : Int) == 0)) else (copperplatelaw07_FoldLines.j1 kj4 a2 t115 true)) else (copperplatelaw07_FoldLines.j1 kj4 a2 t115 true)) else (copperplatelaw07_FoldLines.j1 kj4 a2 t115 true)))) else (none)))) else (none)) else (none))) = some r := H
                have A31 := Aside0.mk A310
                clear A310
                replace H := Option.bind_eq_some_iff.mp H
                obtain ⟨t130, A320, H⟩ := H
                replace H : (if a0.size + 2 ≤ 9223372036854775807 then (if (a0 ++ (⟨#[13, 10]⟩ : ByteArray)).size + a1.size ≤ 9223372036854775807 then ((fold_Lines.f ((a0 ++ (⟨#[13, 10]⟩ : ByteArray)) ++ a1)).bind fun t131 => ((copperplateref07_Texts.f kj4 t131 y124).bind fun t134 => (if (a0 ++ (⟨#[13]⟩ : ByteArray)).size + a1.size ≤ 9223372036854775807 then ((fold_Lines.f ((a0 ++ (⟨#[13]⟩ : ByteArray)) ++ a1)).bind fun t135 => ((copperplateref07_Texts.f kj4 t135 y124).bind fun t138 => (if t130 = true then (if t134 = true then (if t138 = true then (copperplatelaw07_FoldLines.j1 kj4 a2 t115 ((t115.length : Int) == 0)) else (copperplatelaw07_FoldLines.j1 kj4 a2 t115 true)) else (copperplatelaw07_FoldLines.j1 kj4 a2 t115 true)) else (copperplatelaw07_FoldLines.j1 kj4 a2 t115 true)))) else (none)))) else (none)) else (none)) = some r := H
                have A32 := Aside0.mk A320
                clear A320
                by_cases c33 : a0.size + 2 ≤ 9223372036854775807
                · rw [if_pos c33] at H
                  have c33b0 := eq_true c33
                  have c33b1 : decide (a0.size + 2 ≤ 9223372036854775807) = true := decide_eq_true c33
                  try have c33b2 : (9223372036854775807 < a0.size + 2) = False := eq_false (Nat.not_lt.2 c33)
                  by_cases c34 : (a0 ++ (⟨#[13, 10]⟩ : ByteArray)).size + a1.size ≤ 9223372036854775807
                  · rw [if_pos c34] at H
                    have c34b0 := eq_true c34
                    have c34b1 : decide ((a0 ++ (⟨#[13, 10]⟩ : ByteArray)).size + a1.size ≤ 9223372036854775807) = true := decide_eq_true c34
                    try have c34b2 : (9223372036854775807 < (a0 ++ (⟨#[13, 10]⟩ : ByteArray)).size + a1.size) = False := eq_false (Nat.not_lt.2 c34)
                    replace H := Option.bind_eq_some_iff.mp H
                    obtain ⟨t131, A350, H⟩ := H
                    replace H : ((copperplateref07_Texts.f kj4 t131 y124).bind fun t134 => (if (a0 ++ (⟨#[13]⟩ : ByteArray)).size + a1.size ≤ 9223372036854775807 then ((fold_Lines.f ((a0 ++ (⟨#[13]⟩ : ByteArray)) ++ a1)).bind fun t135 => ((copperplateref07_Texts.f kj4 t135 y124).bind fun t138 => (if t130 = true then (if t134 = true then (if t138 = true then (copperplatelaw07_FoldLines.j1 kj4 a2 t115 ((t115.length : Int) == 0)) else (copperplatelaw07_FoldLines.j1 kj4 a2 t115 true)) else (copperplatelaw07_FoldLines.j1 kj4 a2 t115 true)) else (copperplatelaw07_FoldLines.j1 kj4 a2 t115 true)))) else (none))) = some r := H
                    have A35 := Aside0.mk A350
                    clear A350
                    replace H := Option.bind_eq_some_iff.mp H
                    obtain ⟨t134, A360, H⟩ := H
                    replace H : (if (a0 ++ (⟨#[13]⟩ : ByteArray)).size + a1.size ≤ 9223372036854775807 then ((fold_Lines.f ((a0 ++ (⟨#[13]⟩ : ByteArray)) ++ a1)).bind fun t135 => ((copperplateref07_Texts.f kj4 t135 y124).bind fun t138 => (if t130 = true then (if t134 = true then (if t138 = true then (copperplatelaw07_FoldLines.j1 kj4 a2 t115 ((t115.length : Int) == 0)) else (copperplatelaw07_FoldLines.j1 kj4 a2 t115 true)) else (copperplatelaw07_FoldLines.j1 kj4 a2 t115 true)) else (copperplatelaw07_FoldLines.j1 kj4 a2 t115 true)))) else (none)) = some r := H
                    have A36 := Aside0.mk A360
                    clear A360
                    by_cases c37 : (a0 ++ (⟨#[13]⟩ : ByteArray)).size + a1.size ≤ 9223372036854775807
                    · rw [if_pos c37] at H
                      have c37b0 := eq_true c37
                      have c37b1 : decide ((a0 ++ (⟨#[13]⟩ : ByteArray)).size + a1.size ≤ 9223372036854775807) = true := decide_eq_true c37
                      try have c37b2 : (9223372036854775807 < (a0 ++ (⟨#[13]⟩ : ByteArray)).size + a1.size) = False := eq_false (Nat.not_lt.2 c37)
                      replace H := Option.bind_eq_some_iff.mp H
                      obtain ⟨t135, A380, H⟩ := H
                      replace H : ((copperplateref07_Texts.f kj4 t135 y124).bind fun t138 => (if t130 = true then (if t134 = true then (if t138 = true then (copperplatelaw07_FoldLines.j1 kj4 a2 t115 ((t115.length : Int) == 0)) else (copperplatelaw07_FoldLines.j1 kj4 a2 t115 true)) else (copperplatelaw07_FoldLines.j1 kj4 a2 t115 true)) else (copperplatelaw07_FoldLines.j1 kj4 a2 t115 true))) = some r := H
                      have A38 := Aside0.mk A380
                      clear A380
                      replace H := Option.bind_eq_some_iff.mp H
                      obtain ⟨t138, A390, H⟩ := H
                      replace H : (if t130 = true then (if t134 = true then (if t138 = true then (copperplatelaw07_FoldLines.j1 kj4 a2 t115 ((t115.length : Int) == 0)) else (copperplatelaw07_FoldLines.j1 kj4 a2 t115 true)) else (copperplatelaw07_FoldLines.j1 kj4 a2 t115 true)) else (copperplatelaw07_FoldLines.j1 kj4 a2 t115 true)) = some r := H
                      have A39 := Aside0.mk A390
                      clear A390
                      have HC40 := Aside0.mk H
                      clear H
                      go_upto_region 10 with (first | ((with_reducible refine gate_callee (f := 14) rfl ?_); refine goesL_ (some 53) rfl rfl Tryd.func14 (by kernel_rfl) rfl #[.string a0] rfl (by (try simp only [List.map_toArray, List.map_cons, List.map_nil]); first | done | rfl | (simp only [List.length_drop, List.length_take]; rfl)) ?_; (with_reducible refine (fold_Lines.calls a0 t115 _ A25.out).mono ?_); rintro e w41 ⟨v116, rfl, ho0, hb⟩; refine ⟨_, rfl, ?_⟩; have n0_ := Aside0.mk (Kd.R_lower ho0 (below_size (by repeat (first | (with_reducible first | exact HB.out | apply below_alloc | apply pw_below_drewN | apply below_drew1) | exact HB.out)))); have n1_ := Aside0.mk (below_step (by repeat (first | (with_reducible first | exact HB.out | apply below_alloc | apply pw_below_drewN | apply below_drew1) | exact HB.out)) hb); clear HB; have HO117 := n0_; have HB := n1_; clear n0_ n1_; (try clear hb); (try clear hb2); (try clear hk); (try clear hi); (try clear ho0)) | ((with_reducible refine gate_callee (f := 14) rfl ?_); refine goesL_ (some 55) rfl rfl Tryd.func14 (by kernel_rfl) rfl #[.string a1] rfl (by (try simp only [List.map_toArray, List.map_cons, List.map_nil]); first | done | rfl | (simp only [List.length_drop, List.length_take]; rfl)) ?_; (with_reducible refine (fold_Lines.calls a1 t118 _ A26.out).mono ?_); rintro e w42 ⟨v119, rfl, ho0, hb⟩; refine ⟨_, rfl, ?_⟩; have n0_ := Aside0.mk (Kd.R_elder' (by (with_reducible repeat (first | apply Kd.R_alloc | apply Kd.R_drewN | apply Kd.R_drew)); exact HO117.out) (Kd.R_base ho0) hb); have n1_ := Aside0.mk (Kd.R_lower (Kd.R_new' ho0 (Kd.R_lt (by (with_reducible repeat (first | apply Kd.R_alloc | apply Kd.R_drewN | apply Kd.R_drew)); exact HO117.out))) (below_size (by repeat (first | (with_reducible first | exact HB.out | apply below_alloc | apply pw_below_drewN | apply below_drew1) | exact HB.out)))); have n2_ := Aside0.mk (below_step (by repeat (first | (with_reducible first | exact HB.out | apply below_alloc | apply pw_below_drewN | apply below_drew1) | exact HB.out)) hb); clear HO117; clear HB; have HO117 := n0_; have HO120 := n1_; have HB := n2_; clear n0_ n1_ n2_; (try clear hb); (try clear hb2); (try clear hk); (try clear hi); (try clear ho0); obtain ⟨Ao44, co44, eo44⟩ := Kd.R_slice HO117.out; subst eo44) | ((with_reducible refine gate_builtin (b := .append) (xs := #[.const (.slice none 0 0), .tmp 56]) rfl ?_); (try (refine gate_guard (by rfl) ?_; dsimp only)); at_builtin; refine Kd.R_append_rows Kd.string (w0 := w) w.heap.size rfl (.const (.slice none 0 0)) (.tmp 56) 22 9 (.string ⟨#[]⟩) 16 rfl Tryd.underlying22 info9 rfl (by decide) (by omega) (.slice none 0 0) ([] : List ByteArray) t115 _ _ _ (fun k_ => some k_ ≠ (.slice Ao44 t115.length co44 : Value).ownBlock ∧ some k_ ≠ (v119 : Value).ownBlock) (fun _ => False) rfl rfl ?aO ?aR (fun _ _ h => h) (fun _ h => h.elim) ?aF ?aB ?aS ?aL ?_; (case aR => repeat (first | exact (Kd.R_reads' HO117.out).2.2 | (with_reducible refine Kd.C_alloc ?_ _) | (with_reducible refine Kd.C_drewN ?_ _) | (with_reducible refine Kd.C_drew ?_))); (case aB => exact (by repeat (first | (with_reducible first | exact HB.out | apply below_alloc | apply pw_below_drewN | apply below_drew1) | exact HB.out))); (case aF => exact (fun k_ hk => ⟨Kd.fresh' (Kd.R_lt (by (with_reducible repeat (first | apply Kd.R_alloc | apply Kd.R_drewN | apply Kd.R_drew)); exact HO117.out)) k_ hk, Kd.fresh' (Kd.R_lt (by (with_reducible repeat (first | apply Kd.R_alloc | apply Kd.R_drewN | apply Kd.R_drew)); exact HO120.out)) k_ hk⟩)); (case aO => exact ((Kd.R_nil _ _ _ _ (fun k_ => some k_ ≠ (.slice Ao44 t115.length co44 : Value).ownBlock ∧ some k_ ≠ (v119 : Value).ownBlock)))); (case aS => exact (below_size (by repeat (first | (with_reducible first | exact HB.out | apply below_alloc | apply pw_below_drewN | apply below_drew1) | exact HB.out)))); (case aL => have := LMc27.out; omega); intro v122 w43 ho hb hg hat; rw [← Ny121.out] at ho; have n0_ := Aside0.mk (Kd.R_after (Kd.R_apart_nil (by (with_reducible repeat (first | apply Kd.R_alloc | apply Kd.R_drewN | apply Kd.R_drew)); exact HO117.out)) hg hat); have n1_ := Aside0.mk (Kd.R_after (Kd.R_apart_nil (by (with_reducible repeat (first | apply Kd.R_alloc | apply Kd.R_drewN | apply Kd.R_drew)); exact HO120.out)) hg hat); have n2_ := Aside0.mk (hb); have n3_ := Aside0.mk (ho); clear HO117; clear HO120; clear HB; have HO117 := n0_; have HO120 := n1_; have HB := n2_; have HO123 := n3_; clear n0_ n1_ n2_ n3_; clear ho hb hg hat; obtain ⟨Ao46, co46, eo46⟩ := Kd.R_slice HO120.out; subst eo46) | ((with_reducible refine gate_builtin (b := .append) (xs := #[.tmp 57, .tmp 58]) rfl ?_); (try (refine gate_guard (by rfl) ?_; dsimp only)); at_builtin; refine Kd.R_append_rows Kd.string (w0 := w) w.heap.size rfl (.tmp 57) (.tmp 58) 22 9 (.string ⟨#[]⟩) 16 rfl Tryd.underlying22 info9 rfl (by decide) (by omega) v122 y121 t118 _ _ _ (fun k_ => some k_ ≠ (.slice Ao44 t115.length co44 : Value).ownBlock ∧ some k_ ≠ (.slice Ao46 t118.length co46 : Value).ownBlock) (fun _ => False) rfl rfl ?aO ?aR (fun _ _ h => h) (fun _ h => h.elim) ?aF ?aB ?aS ?aL ?_; (case aR => repeat (first | exact (Kd.R_reads' HO120.out).2.2 | (with_reducible refine Kd.C_alloc ?_ _) | (with_reducible refine Kd.C_drewN ?_ _) | (with_reducible refine Kd.C_drew ?_))); (case aB => exact (by repeat (first | (with_reducible first | exact HB.out | apply below_alloc | apply pw_below_drewN | apply below_drew1) | exact HB.out))); (case aF => exact (fun k_ hk => ⟨Kd.fresh' (Kd.R_lt (by (with_reducible repeat (first | apply Kd.R_alloc | apply Kd.R_drewN | apply Kd.R_drew)); exact HO117.out)) k_ hk, Kd.fresh' (Kd.R_lt (by (with_reducible repeat (first | apply Kd.R_alloc | apply Kd.R_drewN | apply Kd.R_drew)); exact HO120.out)) k_ hk⟩)); (case aO => exact (by (with_reducible repeat (first | apply Kd.R_alloc | apply Kd.R_drewN | apply Kd.R_drew)); exact HO123.out)); (case aS => exact (below_size (by repeat (first | (with_reducible first | exact HB.out | apply below_alloc | apply pw_below_drewN | apply below_drew1) | exact HB.out)))); (case aL => have := LMc28.out; omega); intro v125 w45 ho hb hg hat; rw [← Ny124.out] at ho; have n0_ := Aside0.mk (Kd.R_after (ok := (fun k_ => some k_ ≠ (.slice Ao46 t118.length co46 : Value).ownBlock)) (by (with_reducible repeat (first | apply Kd.R_alloc | apply Kd.R_drewN | apply Kd.R_drew)); exact Kd.R_mono HO117.out (fun _ hk => ⟨hk.1.2, hk.2⟩)) hg hat); have n1_ := Aside0.mk (Kd.R_after (ok := (fun k_ => some k_ ≠ (.slice Ao44 t115.length co44 : Value).ownBlock)) (by (with_reducible repeat (first | apply Kd.R_alloc | apply Kd.R_drewN | apply Kd.R_drew)); exact Kd.R_mono HO120.out (fun _ hk => ⟨hk.1.2, hk.2⟩)) hg hat); have n2_ := Aside0.mk (hb); have n3_ := Aside0.mk (ho); clear HO117; clear HO120; clear HB; clear HO123; have HO117 := n0_; have HO120 := n1_; have HB := n2_; have HO126 := n3_; clear n0_ n1_ n2_ n3_; clear ho hb hg hat) | ((with_reducible refine gate_callee (f := 14) rfl ?_); refine goesL_ (some 64) rfl rfl Tryd.func14 (by kernel_rfl) rfl #[.string ((a0 ++ (⟨#[10]⟩ : ByteArray)) ++ a1)] rfl (by (try simp only [List.map_toArray, List.map_cons, List.map_nil]); first | done | rfl | (simp only [List.length_drop, List.length_take]; rfl)) ?_; (with_reducible refine (fold_Lines.calls ((a0 ++ (⟨#[10]⟩ : ByteArray)) ++ a1) t127 _ A31.out).mono ?_); rintro e w47 ⟨v128, rfl, ho0, hb⟩; refine ⟨_, rfl, ?_⟩; have n0_ := Aside0.mk (Kd.R_elder' (by (with_reducible repeat (first | apply Kd.R_alloc | apply Kd.R_drewN | apply Kd.R_drew)); exact HO117.out) (Kd.R_base ho0) hb); have n1_ := Aside0.mk (Kd.R_elder' (by (with_reducible repeat (first | apply Kd.R_alloc | apply Kd.R_drewN | apply Kd.R_drew)); exact HO120.out) (Kd.R_base ho0) hb); have n2_ := Aside0.mk (Kd.R_elder' (by (with_reducible repeat (first | apply Kd.R_alloc | apply Kd.R_drewN | apply Kd.R_drew)); exact HO126.out) (Kd.R_base ho0) hb); have n3_ := Aside0.mk (Kd.R_lower (Kd.R_new' (Kd.R_new' (Kd.R_new' ho0 (Kd.R_lt (by (with_reducible repeat (first | apply Kd.R_alloc | apply Kd.R_drewN | apply Kd.R_drew)); exact HO117.out))) (Kd.R_lt (by (with_reducible repeat (first | apply Kd.R_alloc | apply Kd.R_drewN | apply Kd.R_drew)); exact HO120.out))) (Kd.R_lt (by (with_reducible repeat (first | apply Kd.R_alloc | apply Kd.R_drewN | apply Kd.R_drew)); exact HO126.out))) (below_size (by repeat (first | (with_reducible first | exact HB.out | apply below_alloc | apply pw_below_drewN | apply below_drew1) | exact HB.out)))); have n4_ := Aside0.mk (below_step (by repeat (first | (with_reducible first | exact HB.out | apply below_alloc | apply pw_below_drewN | apply below_drew1) | exact HB.out)) hb); clear HO117; clear HO120; clear HO126; clear HB; have HO117 := n0_; have HO120 := n1_; have HO126 := n2_; have HO129 := n3_; have HB := n4_; clear n0_ n1_ n2_ n3_ n4_; (try clear hb); (try clear hb2); (try clear hk); (try clear hi); (try clear ho0); obtain ⟨Ao48, co48, eo48⟩ := Kd.R_slice HO129.out; subst eo48; obtain ⟨Ao49, co49, eo49⟩ := Kd.R_slice HO126.out; subst eo49) | ((with_reducible refine gate_callee (f := 13) rfl ?_); refine goesL_ (some 66) rfl rfl Tryd.func13 (by kernel_rfl) rfl #[.slice Ao48 t127.length co48, .slice Ao49 y124.length co49] rfl (by (try simp only [List.map_toArray, List.map_cons, List.map_nil]); first | done | rfl | (simp only [List.length_drop, List.length_take]; rfl)) ?_; (with_reducible refine (copperplateref07_Texts.calls kj4 _ _ t127 _ _ y124 t130 _ ?side1 ?side2 ?side3 ?side4 A32.out).mono ?_); (case side1 => repeat (first | exact (Kd.R_reads' HO129.out).2.2 | (with_reducible refine Kd.C_alloc ?_ _) | (with_reducible refine Kd.C_drewN ?_ _) | (with_reducible refine Kd.C_drew ?_))); (case side2 => exact (Kd.R_reads' HO129.out).2.1); (case side3 => repeat (first | exact (Kd.R_reads' HO126.out).2.2 | (with_reducible refine Kd.C_alloc ?_ _) | (with_reducible refine Kd.C_drewN ?_ _) | (with_reducible refine Kd.C_drew ?_))); (case side4 => exact (Kd.R_reads' HO126.out).2.1); rintro e w' ⟨rfl, ⟨nd, rfl⟩⟩; refine ⟨_, rfl, ?_⟩) | ((with_reducible refine gate_callee (f := 14) rfl ?_); refine goesL_ (some 71) rfl rfl Tryd.func14 (by kernel_rfl) rfl #[.string ((a0 ++ (⟨#[13, 10]⟩ : ByteArray)) ++ a1)] rfl (by (try simp only [List.map_toArray, List.map_cons, List.map_nil]); first | done | rfl | (simp only [List.length_drop, List.length_take]; rfl)) ?_; (with_reducible refine (fold_Lines.calls ((a0 ++ (⟨#[13, 10]⟩ : ByteArray)) ++ a1) t131 _ A35.out).mono ?_); rintro e w50 ⟨v132, rfl, ho0, hb⟩; refine ⟨_, rfl, ?_⟩; have n0_ := Aside0.mk (Kd.R_elder' (by (with_reducible repeat (first | apply Kd.R_alloc | apply Kd.R_drewN | apply Kd.R_drew)); exact HO117.out) (Kd.R_base ho0) hb); have n1_ := Aside0.mk (Kd.R_elder' (by (with_reducible repeat (first | apply Kd.R_alloc | apply Kd.R_drewN | apply Kd.R_drew)); exact HO120.out) (Kd.R_base ho0) hb); have n2_ := Aside0.mk (Kd.R_elder' (by (with_reducible repeat (first | apply Kd.R_alloc | apply Kd.R_drewN | apply Kd.R_drew)); exact HO126.out) (Kd.R_base ho0) hb); have n3_ := Aside0.mk (Kd.R_elder' (by (with_reducible repeat (first | apply Kd.R_alloc | apply Kd.R_drewN | apply Kd.R_drew)); exact HO129.out) (Kd.R_base ho0) hb); have n4_ := Aside0.mk (Kd.R_lower (Kd.R_new' (Kd.R_new' (Kd.R_new' (Kd.R_new' ho0 (Kd.R_lt (by (with_reducible repeat (first | apply Kd.R_alloc | apply Kd.R_drewN | apply Kd.R_drew)); exact HO117.out))) (Kd.R_lt (by (with_reducible repeat (first | apply Kd.R_alloc | apply Kd.R_drewN | apply Kd.R_drew)); exact HO120.out))) (Kd.R_lt (by (with_reducible repeat (first | apply Kd.R_alloc | apply Kd.R_drewN | apply Kd.R_drew)); exact HO126.out))) (Kd.R_lt (by (with_reducible repeat (first | apply Kd.R_alloc | apply Kd.R_drewN | apply Kd.R_drew)); exact HO129.out))) (below_size (by repeat (first | (with_reducible first | exact HB.out | apply below_alloc | apply pw_below_drewN | apply below_drew1) | exact HB.out)))); have n5_ := Aside0.mk (below_step (by repeat (first | (with_reducible first | exact HB.out | apply below_alloc | apply pw_below_drewN | apply below_drew1) | exact HB.out)) hb); clear HO117; clear HO120; clear HO126; clear HO129; clear HB; have HO117 := n0_; have HO120 := n1_; have HO126 := n2_; have HO129 := n3_; have HO133 := n4_; have HB := n5_; clear n0_ n1_ n2_ n3_ n4_ n5_; (try clear hb); (try clear hb2); (try clear hk); (try clear hi); (try clear ho0); obtain ⟨Ao51, co51, eo51⟩ := Kd.R_slice HO133.out; subst eo51) | ((with_reducible refine gate_callee (f := 13) rfl ?_); refine goesL_ (some 73) rfl rfl Tryd.func13 (by kernel_rfl) rfl #[.slice Ao51 t131.length co51, .slice Ao49 y124.length co49] rfl (by (try simp only [List.map_toArray, List.map_cons, List.map_nil]); first | done | rfl | (simp only [List.length_drop, List.length_take]; rfl)) ?_; (with_reducible refine (copperplateref07_Texts.calls kj4 _ _ t131 _ _ y124 t134 _ ?side1 ?side2 ?side3 ?side4 A36.out).mono ?_); (case side1 => repeat (first | exact (Kd.R_reads' HO133.out).2.2 | (with_reducible refine Kd.C_alloc ?_ _) | (with_reducible refine Kd.C_drewN ?_ _) | (with_reducible refine Kd.C_drew ?_))); (case side2 => exact (Kd.R_reads' HO133.out).2.1); (case side3 => repeat (first | exact (Kd.R_reads' HO126.out).2.2 | (with_reducible refine Kd.C_alloc ?_ _) | (with_reducible refine Kd.C_drewN ?_ _) | (with_reducible refine Kd.C_drew ?_))); (case side4 => exact (Kd.R_reads' HO126.out).2.1); rintro e w' ⟨rfl, ⟨nd, rfl⟩⟩; refine ⟨_, rfl, ?_⟩) | ((with_reducible refine gate_callee (f := 14) rfl ?_); refine goesL_ (some 78) rfl rfl Tryd.func14 (by kernel_rfl) rfl #[.string ((a0 ++ (⟨#[13]⟩ : ByteArray)) ++ a1)] rfl (by (try simp only [List.map_toArray, List.map_cons, List.map_nil]); first | done | rfl | (simp only [List.length_drop, List.length_take]; rfl)) ?_; (with_reducible refine (fold_Lines.calls ((a0 ++ (⟨#[13]⟩ : ByteArray)) ++ a1) t135 _ A38.out).mono ?_); rintro e w52 ⟨v136, rfl, ho0, hb⟩; refine ⟨_, rfl, ?_⟩; have n0_ := Aside0.mk (Kd.R_elder' (by (with_reducible repeat (first | apply Kd.R_alloc | apply Kd.R_drewN | apply Kd.R_drew)); exact HO117.out) (Kd.R_base ho0) hb); have n1_ := Aside0.mk (Kd.R_elder' (by (with_reducible repeat (first | apply Kd.R_alloc | apply Kd.R_drewN | apply Kd.R_drew)); exact HO120.out) (Kd.R_base ho0) hb); have n2_ := Aside0.mk (Kd.R_elder' (by (with_reducible repeat (first | apply Kd.R_alloc | apply Kd.R_drewN | apply Kd.R_drew)); exact HO126.out) (Kd.R_base ho0) hb); have n3_ := Aside0.mk (Kd.R_elder' (by (with_reducible repeat (first | apply Kd.R_alloc | apply Kd.R_drewN | apply Kd.R_drew)); exact HO129.out) (Kd.R_base ho0) hb); have n4_ := Aside0.mk (Kd.R_elder' (by (with_reducible repeat (first | apply Kd.R_alloc | apply Kd.R_drewN | apply Kd.R_drew)); exact HO133.out) (Kd.R_base ho0) hb); have n5_ := Aside0.mk (Kd.R_lower (Kd.R_new' (Kd.R_new' (Kd.R_new' (Kd.R_new' (Kd.R_new' ho0 (Kd.R_lt (by (with_reducible repeat (first | apply Kd.R_alloc | apply Kd.R_drewN | apply Kd.R_drew)); exact HO117.out))) (Kd.R_lt (by (with_reducible repeat (first | apply Kd.R_alloc | apply Kd.R_drewN | apply Kd.R_drew)); exact HO120.out))) (Kd.R_lt (by (with_reducible repeat (first | apply Kd.R_alloc | apply Kd.R_drewN | apply Kd.R_drew)); exact HO126.out))) (Kd.R_lt (by (with_reducible repeat (first | apply Kd.R_alloc | apply Kd.R_drewN | apply Kd.R_drew)); exact HO129.out))) (Kd.R_lt (by (with_reducible repeat (first | apply Kd.R_alloc | apply Kd.R_drewN | apply Kd.R_drew)); exact HO133.out))) (below_size (by repeat (first | (with_reducible first | exact HB.out | apply below_alloc | apply pw_below_drewN | apply below_drew1) | exact HB.out)))); have n6_ := Aside0.mk (below_step (by repeat (first | (with_reducible first | exact HB.out | apply below_alloc | apply pw_below_drewN | apply below_drew1) | exact HB.out)) hb); clear HO117; clear HO120; clear HO126; clear HO129; clear HO133; clear HB; have HO117 := n0_; have HO120 := n1_; have HO126 := n2_; have HO129 := n3_; have HO133 := n4_; have HO137 := n5_; have HB := n6_; clear n0_ n1_ n2_ n3_ n4_ n5_ n6_; (try clear hb); (try clear hb2); (try clear hk); (try clear hi); (try clear ho0); obtain ⟨Ao53, co53, eo53⟩ := Kd.R_slice HO137.out; subst eo53) | ((with_reducible refine gate_callee (f := 13) rfl ?_); refine goesL_ (some 80) rfl rfl Tryd.func13 (by kernel_rfl) rfl #[.slice Ao53 t135.length co53, .slice Ao49 y124.length co49] rfl (by (try simp only [List.map_toArray, List.map_cons, List.map_nil]); first | done | rfl | (simp only [List.length_drop, List.length_take]; rfl)) ?_; (with_reducible refine (copperplateref07_Texts.calls kj4 _ _ t135 _ _ y124 t138 _ ?side1 ?side2 ?side3 ?side4 A39.out).mono ?_); (case side1 => repeat (first | exact (Kd.R_reads' HO137.out).2.2 | (with_reducible refine Kd.C_alloc ?_ _) | (with_reducible refine Kd.C_drewN ?_ _) | (with_reducible refine Kd.C_drew ?_))); (case side2 => exact (Kd.R_reads' HO137.out).2.1); (case side3 => repeat (first | exact (Kd.R_reads' HO126.out).2.2 | (with_reducible refine Kd.C_alloc ?_ _) | (with_reducible refine Kd.C_drewN ?_ _) | (with_reducible refine Kd.C_drew ?_))); (case side4 => exact (Kd.R_reads' HO126.out).2.1); rintro e w' ⟨rfl, ⟨nd, rfl⟩⟩; refine ⟨_, rfl, ?_⟩))
                      (try simp only [Act.put, List.setIfInBounds_toArray, List.set_cons_zero, List.set_cons_succ])
                      go_cut [95] (fun v95 wc => ∃ (kq : Nat) (x95_39 : Bool), v95 = .bool x95_39 ∧ Aside0 (copperplatelaw07_FoldLines.j1 kq a2 t115 x95_39 = some r) ∧ Aside0 (kq ≤ kj4) ∧ Aside0 (Kd.R Kd.string 9 wc w.heap.size (fun _ => True) (.slice Ao44 t115.length co44) t115) ∧ Aside0 (Below w.heap.size w wc))
                      case first =>
                        have H := HC40.out
                        clear HC40
                        by_cases c54 : t130 = true
                        · subst c54
                          have H1 : (if t134 = true then (if t138 = true then (copperplatelaw07_FoldLines.j1 kj4 a2 t115 ((t115.length : Int) == 0)) else (copperplatelaw07_FoldLines.j1 kj4 a2 t115 true)) else (copperplatelaw07_FoldLines.j1 kj4 a2 t115 true)) = some r := by rw [if_pos rfl] at H; exact H
                          clear H
                          have H := H1
                          clear H1
                          by_cases c55 : t134 = true
                          · subst c55
                            have H1 : (if t138 = true then (copperplatelaw07_FoldLines.j1 kj4 a2 t115 ((t115.length : Int) == 0)) else (copperplatelaw07_FoldLines.j1 kj4 a2 t115 true)) = some r := by rw [if_pos rfl] at H; exact H
                            clear H
                            have H := H1
                            clear H1
                            by_cases c56 : t138 = true
                            · subst c56
                              have H1 : (copperplatelaw07_FoldLines.j1 kj4 a2 t115 ((t115.length : Int) == 0)) = some r := by rw [if_pos rfl] at H; exact H
                              clear H
                              have H := H1
                              clear H1
                              have H' := Aside0.mk H
                              clear H
                              go_wp2
                              go_meet
                              case rel => exact ⟨_, (((t115.length : Int) == 0)), (by first | rfl | (simp; done) | (simp [*]; done)), H', ⟨by have := HJ4.out; first | omega | exact Nat.le_refl _⟩, ⟨by (with_reducible repeat (first | apply Kd.R_alloc | apply Kd.R_drewN | apply Kd.R_drew)); exact Kd.R_mono HO117.out (fun _ hk => trivial)⟩, ⟨by repeat (first | (with_reducible first | exact HB.out | apply below_alloc | apply pw_below_drewN | apply below_drew1) | exact HB.out)⟩⟩
                            · replace c56 := Bool.eq_false_iff.mpr c56
                              subst c56
                              have H1 : (copperplatelaw07_FoldLines.j1 kj4 a2 t115 true) = some r := by rw [if_neg (show ¬ (false = true) by decide)] at H; exact H
                              clear H
                              have H := H1
                              clear H1
                              have H' := Aside0.mk H
                              clear H
                              go_wp2
                              go_meet
                              case rel => exact ⟨_, (true), (by first | rfl | (simp; done) | (simp [*]; done)), H', ⟨by have := HJ4.out; first | omega | exact Nat.le_refl _⟩, ⟨by (with_reducible repeat (first | apply Kd.R_alloc | apply Kd.R_drewN | apply Kd.R_drew)); exact Kd.R_mono HO117.out (fun _ hk => trivial)⟩, ⟨by repeat (first | (with_reducible first | exact HB.out | apply below_alloc | apply pw_below_drewN | apply below_drew1) | exact HB.out)⟩⟩
                          · replace c55 := Bool.eq_false_iff.mpr c55
                            subst c55
                            have H1 : (copperplatelaw07_FoldLines.j1 kj4 a2 t115 true) = some r := by rw [if_neg (show ¬ (false = true) by decide)] at H; exact H
                            clear H
                            have H := H1
                            clear H1
                            have H' := Aside0.mk H
                            clear H
                            go_wp2
                            go_meet
                            case rel => exact ⟨_, (true), (by first | rfl | (simp; done) | (simp [*]; done)), H', ⟨by have := HJ4.out; first | omega | exact Nat.le_refl _⟩, ⟨by (with_reducible repeat (first | apply Kd.R_alloc | apply Kd.R_drewN | apply Kd.R_drew)); exact Kd.R_mono HO117.out (fun _ hk => trivial)⟩, ⟨by repeat (first | (with_reducible first | exact HB.out | apply below_alloc | apply pw_below_drewN | apply below_drew1) | exact HB.out)⟩⟩
                        · replace c54 := Bool.eq_false_iff.mpr c54
                          subst c54
                          have H1 : (copperplatelaw07_FoldLines.j1 kj4 a2 t115 true) = some r := by rw [if_neg (show ¬ (false = true) by decide)] at H; exact H
                          clear H
                          have H := H1
                          clear H1
                          have H' := Aside0.mk H
                          clear H
                          go_wp2
                          go_meet
                          case rel => exact ⟨_, (true), (by first | rfl | (simp; done) | (simp [*]; done)), H', ⟨by have := HJ4.out; first | omega | exact Nat.le_refl _⟩, ⟨by (with_reducible repeat (first | apply Kd.R_alloc | apply Kd.R_drewN | apply Kd.R_drew)); exact Kd.R_mono HO117.out (fun _ hk => trivial)⟩, ⟨by repeat (first | (with_reducible first | exact HB.out | apply below_alloc | apply pw_below_drewN | apply below_drew1) | exact HB.out)⟩⟩
                      case rest =>
                        clear HC40
                        try clear c1
                        try clear p1
                        try clear q1
                        try clear hx1
                        try clear qi1
                        try clear c2
                        try clear p2
                        try clear q2
                        try clear hx2
                        try clear c3
                        try clear c5
                        try clear p6
                        try clear c7
                        try clear c8
                        try clear c8b0
                        try clear c8b1
                        try clear c9
                        try clear c9b0
                        try clear c9b1
                        try clear c10
                        try clear c10b0
                        try clear c10b1
                        try clear c11
                        try clear c11b0
                        try clear c11b1
                        try clear p12
                        try clear q12
                        try clear hx12
                        try clear qi12
                        try clear c13
                        try clear c13b0
                        try clear c13b1
                        try clear c14
                        try clear c14b0
                        try clear c14b1
                        try clear c16
                        try clear c16b0
                        try clear c17
                        try clear c17b0
                        try clear p18
                        try clear q18
                        try clear hx18
                        try clear c19
                        try clear c19b0
                        try clear c19b1
                        try clear c21
                        try clear c21b0
                        try clear c22
                        try clear c22b0
                        try clear p23
                        try clear q23
                        try clear hx23
                        try clear c24
                        try clear c27
                        try clear c28
                        try clear c29
                        try clear c29b0
                        try clear c29b1
                        try clear c29b2
                        try clear c30
                        try clear c30b0
                        try clear c30b1
                        try clear c30b2
                        try clear c33
                        try clear c33b0
                        try clear c33b1
                        try clear c33b2
                        try clear c34
                        try clear c34b0
                        try clear c34b1
                        try clear c34b2
                        try clear c37
                        try clear c37b0
                        try clear c37b1
                        try clear c37b2
                        try clear c54
                        try clear c55
                        try clear c56
                        try clear p1
                        try clear p12
                        try clear p18
                        try clear p2
                        try clear p23
                        try clear p6
                        try clear q1
                        try clear q12
                        try clear q18
                        try clear q2
                        try clear q23
                        obtain ⟨kq, x95_39, rfl, HA, HJ39, HO_8, HB⟩ := hcut
                        cases kq with
                        | zero => exact absurd HA.out (by simp [copperplatelaw07_FoldLines.j1])
                        | succ kj39 =>
                          have H := HA.out
                          clear HA
                          simp only [copperplatelaw07_FoldLines.j1] at H
                          by_cases c57 : x95_39 = true
                          · subst c57
                            have H1 : (some false) = some r := by rw [if_pos rfl] at H; exact H
                            clear H
                            have H := H1
                            clear H1
                            obtain rfl := Option.some.inj H
                            go_wp2
                            go_ret
                            exact ⟨by first | rfl | (simp [errW_none, errW_some] <;> rfl) | (simp [*, errW_none, errW_some] <;> rfl), by repeat (first | (with_reducible first | exact HB.out | apply below_alloc | apply pw_below_drewN | apply below_drew1) | exact HB.out)⟩
                          · replace c57 := Bool.eq_false_iff.mpr c57
                            subst c57
                            have H1 : (if a2 < 0 then (copperplatelaw07_FoldLines.j2 kj39 a2 t115 true) else (copperplatelaw07_FoldLines.j2 kj39 a2 t115 (decide (a2 ≥ (t115.length : Int))))) = some r := by rw [if_neg (show ¬ (false = true) by decide)] at H; exact H
                            clear H
                            have H := H1
                            clear H1
                            have HC58 := Aside0.mk H
                            clear H
                            go_upto_region 12 with (fail)
                            go_cut [103] (fun v103 wc => ∃ (kq : Nat) (x103_57 : Bool), v103 = .bool x103_57 ∧ Aside0 (copperplatelaw07_FoldLines.j2 kq a2 t115 x103_57 = some r) ∧ Aside0 (kq ≤ kj39) ∧ Aside0 (Kd.R Kd.string 9 wc w.heap.size (fun _ => True) (.slice Ao44 t115.length co44) t115) ∧ Aside0 (Below w.heap.size w wc))
                            case first =>
                              have H := HC58.out
                              clear HC58
                              by_cases c59 : a2 < 0
                              · rw [if_pos c59] at H
                                have c59b0 : decide (a2 < 0) = true := decide_eq_true c59
                                clear c59
                                (first | rw [c59b0] | (simp only [i64_w, i32_w]; rw [c59b0]) | skip)
                                have H' := Aside0.mk H
                                clear H
                                go_wp2
                                go_meet
                                case rel => exact ⟨_, (true), (by first | rfl | (simp; done) | (simp [*]; done)), H', ⟨by have := HJ4.out; have := HJ39.out; first | omega | exact Nat.le_refl _⟩, ⟨by (with_reducible repeat (first | apply Kd.R_alloc | apply Kd.R_drewN | apply Kd.R_drew)); exact HO_8.out⟩, ⟨by repeat (first | (with_reducible first | exact HB.out | apply below_alloc | apply pw_below_drewN | apply below_drew1) | exact HB.out)⟩⟩
                              · rw [if_neg c59] at H
                                have c59b0 : decide (a2 < 0) = false := decide_eq_false c59
                                clear c59
                                (first | rw [c59b0] | (simp only [i64_w, i32_w]; rw [c59b0]) | skip)
                                have H' := Aside0.mk H
                                clear H
                                go_wp2
                                go_meet
                                case rel => exact ⟨_, (decide (a2 ≥ (t115.length : Int))), (by first | rfl | (simp; done) | (simp [*]; done)), H', ⟨by have := HJ4.out; have := HJ39.out; first | omega | exact Nat.le_refl _⟩, ⟨by (with_reducible repeat (first | apply Kd.R_alloc | apply Kd.R_drewN | apply Kd.R_drew)); exact HO_8.out⟩, ⟨by repeat (first | (with_reducible first | exact HB.out | apply below_alloc | apply pw_below_drewN | apply below_drew1) | exact HB.out)⟩⟩
                            case rest =>
                              clear HC58
                              try clear c1
                              try clear p1
                              try clear q1
                              try clear hx1
                              try clear qi1
                              try clear c2
                              try clear p2
                              try clear q2
                              try clear hx2
                              try clear c3
                              try clear c5
                              try clear p6
                              try clear c7
                              try clear c8
                              try clear c8b0
                              try clear c8b1
                              try clear c9
                              try clear c9b0
                              try clear c9b1
                              try clear c10
                              try clear c10b0
                              try clear c10b1
                              try clear c11
                              try clear c11b0
                              try clear c11b1
                              try clear p12
                              try clear q12
                              try clear hx12
                              try clear qi12
                              try clear c13
                              try clear c13b0
                              try clear c13b1
                              try clear c14
                              try clear c14b0
                              try clear c14b1
                              try clear c16
                              try clear c16b0
                              try clear c17
                              try clear c17b0
                              try clear p18
                              try clear q18
                              try clear hx18
                              try clear c19
                              try clear c19b0
                              try clear c19b1
                              try clear c21
                              try clear c21b0
                              try clear c22
                              try clear c22b0
                              try clear p23
                              try clear q23
                              try clear hx23
                              try clear c24
                              try clear c27
                              try clear c28
                              try clear c29
                              try clear c29b0
                              try clear c29b1
                              try clear c29b2
                              try clear c30
                              try clear c30b0
                              try clear c30b1
                              try clear c30b2
                              try clear c33
                              try clear c33b0
                              try clear c33b1
                              try clear c33b2
                              try clear c34
                              try clear c34b0
                              try clear c34b1
                              try clear c34b2
                              try clear c37
                              try clear c37b0
                              try clear c37b1
                              try clear c37b2
                              try clear c54
                              try clear c55
                              try clear c56
                              try clear c57
                              try clear c59
                              try clear c59b0
                              try clear p1
                              try clear p12
                              try clear p18
                              try clear p2
                              try clear p23
                              try clear p6
                              try clear q1
                              try clear q12
                              try clear q18
                              try clear q2
                              try clear q23
                              obtain ⟨kq, x103_57, rfl, HA, HJ57, HO_8, HB⟩ := hcut
                              cases kq with
                              | zero => exact absurd HA.out (by simp [copperplatelaw07_FoldLines.j2])
                              | succ kj57 =>
                                have H := HA.out
                                clear HA
                                simp only [copperplatelaw07_FoldLines.j2] at H
                                by_cases c60 : x103_57 = true
                                · subst c60
                                  have H1 : (some true) = some r := by rw [if_pos rfl] at H; exact H
                                  clear H
                                  have H := H1
                                  clear H1
                                  obtain rfl := Option.some.inj H
                                  go_wp2
                                  go_ret
                                  exact ⟨by first | rfl | (simp [errW_none, errW_some] <;> rfl) | (simp [*, errW_none, errW_some] <;> rfl), by repeat (first | (with_reducible first | exact HB.out | apply below_alloc | apply pw_below_drewN | apply below_drew1) | exact HB.out)⟩
                                · replace c60 := Bool.eq_false_iff.mpr c60
                                  subst c60
                                  have H1 : (copperplatelaw07_FoldLines.l0 kj57 a2 t115 0) = some r := by rw [if_neg (show ¬ (false = true) by decide)] at H; exact H
                                  clear H
                                  have H := H1
                                  clear H1
                                  have H' := Aside0.mk H
                                  clear H
                                  go_wp2
                                  go_loopg [14] kj57 (fun kq v14 w' => ∃ (x14_4 : Int), v14 = .int .i64 x14_4 ∧ Aside0 (copperplatelaw07_FoldLines.l0 kq a2 t115 x14_4 = some r) ∧ Aside0 (kq ≤ kj57) ∧ Aside0 (Kd.R Kd.string 9 w' w.heap.size (fun _ => True) (.slice Ao44 t115.length co44) t115) ∧ Aside0 (Below w.heap.size w w'))
                                  case atStart => exact ⟨(0), (by first | rfl | (simp; done) | (simp [*]; done)), H', ⟨Nat.le_refl _⟩, ⟨by (with_reducible repeat (first | apply Kd.R_alloc | apply Kd.R_drewN | apply Kd.R_drew)); exact HO_8.out⟩, ⟨by repeat (first | (with_reducible first | exact HB.out | apply below_alloc | apply pw_below_drewN | apply below_drew1) | exact HB.out)⟩⟩
                                  case round =>
                                    clear H'
                                    try clear c1
                                    try clear p1
                                    try clear q1
                                    try clear hx1
                                    try clear qi1
                                    try clear c2
                                    try clear p2
                                    try clear q2
                                    try clear hx2
                                    try clear c3
                                    try clear c5
                                    try clear c6
                                    try clear p6
                                    try clear c7
                                    try clear c8
                                    try clear c8b0
                                    try clear c8b1
                                    try clear c9
                                    try clear c9b0
                                    try clear c9b1
                                    try clear c10
                                    try clear c10b0
                                    try clear c10b1
                                    try clear c11
                                    try clear c11b0
                                    try clear c11b1
                                    try clear p12
                                    try clear q12
                                    try clear hx12
                                    try clear qi12
                                    try clear c13
                                    try clear c13b0
                                    try clear c13b1
                                    try clear c14
                                    try clear c14b0
                                    try clear c14b1
                                    try clear c16
                                    try clear c16b0
                                    try clear c17
                                    try clear c17b0
                                    try clear p18
                                    try clear q18
                                    try clear hx18
                                    try clear c19
                                    try clear c19b0
                                    try clear c19b1
                                    try clear c21
                                    try clear c21b0
                                    try clear c22
                                    try clear c22b0
                                    try clear p23
                                    try clear q23
                                    try clear hx23
                                    try clear c24
                                    try clear c27
                                    try clear c28
                                    try clear c29
                                    try clear c29b0
                                    try clear c29b1
                                    try clear c29b2
                                    try clear c30
                                    try clear c30b0
                                    try clear c30b1
                                    try clear c30b2
                                    try clear c33
                                    try clear c33b0
                                    try clear c33b1
                                    try clear c33b2
                                    try clear c34
                                    try clear c34b0
                                    try clear c34b1
                                    try clear c34b2
                                    try clear c37
                                    try clear c37b0
                                    try clear c37b1
                                    try clear c37b2
                                    try clear c54
                                    try clear c55
                                    try clear c56
                                    try clear c57
                                    try clear c59
                                    try clear c59b0
                                    try clear c60
                                    try clear p1
                                    try clear p12
                                    try clear p18
                                    try clear p2
                                    try clear p23
                                    try clear p6
                                    try clear q1
                                    try clear q12
                                    try clear q18
                                    try clear q2
                                    try clear q23
                                    obtain ⟨x14_4, rfl, HA, HK4, HO_8, HB⟩ := hrel
                                    cases gk with
                                    | zero => exact absurd HA.out (by simp [copperplatelaw07_FoldLines.l0])
                                    | succ k4 =>
                                      have H := HA.out
                                      clear HA
                                      simp only [copperplatelaw07_FoldLines.l0] at H
                                      by_cases c61 : 0 ≤ a2
                                      · rw [if_pos c61] at H
                                        have c61b0 : decide (0 ≤ a2) = true := decide_eq_true c61
                                        clear c61
                                        by_cases c62 : a2 < (t115.length : Int)
                                        · rw [if_pos c62] at H
                                          have c62b0 : decide (a2 < (t115.length : Int)) = true := decide_eq_true c62
                                          clear c62
                                          by_cases c63 : x14_4 < ((rdOf ByteArray.empty t115 a2).size : Int)
                                          · rw [if_pos c63] at H
                                            have c63b0 : decide (x14_4 < ((rdOf ByteArray.empty t115 a2).size : Int)) = true := decide_eq_true c63
                                            clear c63
                                            by_cases c64 : 0 ≤ x14_4
                                            · rw [if_pos c64] at H
                                              have c64b0 : decide (0 ≤ x14_4) = true := decide_eq_true c64
                                              clear c64
                                              by_cases c66 : (bt (rdOf ByteArray.empty t115 a2) x14_4) = 10
                                              · rw [if_pos c66] at H
                                                have c66b0 : ((bt (rdOf ByteArray.empty t115 a2) x14_4) == 10) = true := beq_iff_eq.mpr c66
                                                have c66b1 : ((bt (rdOf ByteArray.empty t115 a2) x14_4) != 10) = false := bne_eq_false_iff_eq.mpr c66
                                                clear c66
                                                obtain rfl := Option.some.inj H
                                                have p139 : 0 ≤ (a2 : Int) := of_decide_eq_true (by first | (with_reducible assumption) | assumption)
                                                have q139 : a2 < (t115.length : Int) := of_decide_eq_true (by first | (with_reducible assumption) | assumption)
                                                obtain ⟨ad139, e139, hx139_0⟩ := Kd.at_string (Kd.R_reads' HO_8.out).2.2 a2 p139 q139
                                                cases e139
                                                replace p139 := eq_true p139
                                                replace q139 := eq_true q139
                                                have p140 : 0 ≤ (a2 : Int) := of_decide_eq_true (by first | (with_reducible assumption) | assumption)
                                                have q140 : a2 < (t115.length : Int) := of_decide_eq_true (by first | (with_reducible assumption) | assumption)
                                                obtain ⟨ad140, e140, hx140_0⟩ := Kd.at_string (Kd.R_reads' HO_8.out).2.2 a2 p140 q140
                                                obtain rfl : ad139 = ad140 := (by injection e140)
                                                replace p140 := eq_true p140
                                                replace q140 := eq_true q140
                                                have p65 : 0 ≤ (x14_4 : Int) := of_decide_eq_true (by first | (with_reducible assumption) | assumption)
                                                have q65 : x14_4 < ((rdOf ByteArray.empty t115 a2).size : Int) := of_decide_eq_true (by first | (with_reducible assumption) | assumption)
                                                have hx65 := bt_at (rdOf ByteArray.empty t115 a2) x14_4
                                                replace p65 := eq_true p65
                                                replace q65 := eq_true q65
                                                go_wp2
                                                go_ret
                                                exact ⟨by first | rfl | (simp [errW_none, errW_some] <;> rfl) | (simp [*, errW_none, errW_some] <;> rfl), by repeat (first | (with_reducible first | exact HB.out | apply below_alloc | apply pw_below_drewN | apply below_drew1) | exact HB.out)⟩
                                              · rw [if_neg c66] at H
                                                have c66b0 : ((bt (rdOf ByteArray.empty t115 a2) x14_4) == 10) = false := beq_eq_false_iff_ne.mpr c66
                                                have c66b1 : ((bt (rdOf ByteArray.empty t115 a2) x14_4) != 10) = true := bne_iff_ne.mpr c66
                                                by_cases c68 : (bt (rdOf ByteArray.empty t115 a2) x14_4) = 13
                                                · rw [if_pos c68] at H
                                                  have c68b0 : ((bt (rdOf ByteArray.empty t115 a2) x14_4) == 13) = true := beq_iff_eq.mpr c68
                                                  have c68b1 : ((bt (rdOf ByteArray.empty t115 a2) x14_4) != 13) = false := bne_eq_false_iff_eq.mpr c68
                                                  clear c68
                                                  obtain rfl := Option.some.inj H
                                                  have p139 : 0 ≤ (a2 : Int) := of_decide_eq_true (by first | (with_reducible assumption) | assumption)
                                                  have q139 : a2 < (t115.length : Int) := of_decide_eq_true (by first | (with_reducible assumption) | assumption)
                                                  obtain ⟨ad139, e139, hx139_0⟩ := Kd.at_string (Kd.R_reads' HO_8.out).2.2 a2 p139 q139
                                                  cases e139
                                                  replace p139 := eq_true p139
                                                  replace q139 := eq_true q139
                                                  have p140 : 0 ≤ (a2 : Int) := of_decide_eq_true (by first | (with_reducible assumption) | assumption)
                                                  have q140 : a2 < (t115.length : Int) := of_decide_eq_true (by first | (with_reducible assumption) | assumption)
                                                  obtain ⟨ad140, e140, hx140_0⟩ := Kd.at_string (Kd.R_reads' HO_8.out).2.2 a2 p140 q140
                                                  obtain rfl : ad139 = ad140 := (by injection e140)
                                                  replace p140 := eq_true p140
                                                  replace q140 := eq_true q140
                                                  have p65 : 0 ≤ (x14_4 : Int) := of_decide_eq_true (by first | (with_reducible assumption) | assumption)
                                                  have q65 : x14_4 < ((rdOf ByteArray.empty t115 a2).size : Int) := of_decide_eq_true (by first | (with_reducible assumption) | assumption)
                                                  have hx65 := bt_at (rdOf ByteArray.empty t115 a2) x14_4
                                                  replace p65 := eq_true p65
                                                  replace q65 := eq_true q65
                                                  have p141 : 0 ≤ (a2 : Int) := of_decide_eq_true (by first | (with_reducible assumption) | assumption)
                                                  have q141 : a2 < (t115.length : Int) := of_decide_eq_true (by first | (with_reducible assumption) | assumption)
                                                  obtain ⟨ad141, e141, hx141_0⟩ := Kd.at_string (Kd.R_reads' HO_8.out).2.2 a2 p141 q141
                                                  obtain rfl : ad139 = ad141 := (by injection e141)
                                                  replace p141 := eq_true p141
                                                  replace q141 := eq_true q141
                                                  have p67 : 0 ≤ (x14_4 : Int) := of_decide_eq_true (by first | (with_reducible assumption) | assumption)
                                                  have q67 : x14_4 < ((rdOf ByteArray.empty t115 a2).size : Int) := of_decide_eq_true (by first | (with_reducible assumption) | assumption)
                                                  have hx67 := bt_at (rdOf ByteArray.empty t115 a2) x14_4
                                                  replace p67 := eq_true p67
                                                  replace q67 := eq_true q67
                                                  go_wp2
                                                  go_ret
                                                  exact ⟨by first | rfl | (simp [errW_none, errW_some] <;> rfl) | (simp [*, errW_none, errW_some] <;> rfl), by repeat (first | (with_reducible first | exact HB.out | apply below_alloc | apply pw_below_drewN | apply below_drew1) | exact HB.out)⟩
                                                · rw [if_neg c68] at H
                                                  have c68b0 : ((bt (rdOf ByteArray.empty t115 a2) x14_4) == 13) = false := beq_eq_false_iff_ne.mpr c68
                                                  have c68b1 : ((bt (rdOf ByteArray.empty t115 a2) x14_4) != 13) = true := bne_iff_ne.mpr c68
                                                  have H' := Aside0.mk H
                                                  clear H
                                                  have p139 : 0 ≤ (a2 : Int) := of_decide_eq_true (by first | (with_reducible assumption) | assumption)
                                                  have q139 : a2 < (t115.length : Int) := of_decide_eq_true (by first | (with_reducible assumption) | assumption)
                                                  obtain ⟨ad139, e139, hx139_0⟩ := Kd.at_string (Kd.R_reads' HO_8.out).2.2 a2 p139 q139
                                                  cases e139
                                                  replace p139 := eq_true p139
                                                  replace q139 := eq_true q139
                                                  have p140 : 0 ≤ (a2 : Int) := of_decide_eq_true (by first | (with_reducible assumption) | assumption)
                                                  have q140 : a2 < (t115.length : Int) := of_decide_eq_true (by first | (with_reducible assumption) | assumption)
                                                  obtain ⟨ad140, e140, hx140_0⟩ := Kd.at_string (Kd.R_reads' HO_8.out).2.2 a2 p140 q140
                                                  obtain rfl : ad139 = ad140 := (by injection e140)
                                                  replace p140 := eq_true p140
                                                  replace q140 := eq_true q140
                                                  have p65 : 0 ≤ (x14_4 : Int) := of_decide_eq_true (by first | (with_reducible assumption) | assumption)
                                                  have q65 : x14_4 < ((rdOf ByteArray.empty t115 a2).size : Int) := of_decide_eq_true (by first | (with_reducible assumption) | assumption)
                                                  have hx65 := bt_at (rdOf ByteArray.empty t115 a2) x14_4
                                                  replace p65 := eq_true p65
                                                  replace q65 := eq_true q65
                                                  have p141 : 0 ≤ (a2 : Int) := of_decide_eq_true (by first | (with_reducible assumption) | assumption)
                                                  have q141 : a2 < (t115.length : Int) := of_decide_eq_true (by first | (with_reducible assumption) | assumption)
                                                  obtain ⟨ad141, e141, hx141_0⟩ := Kd.at_string (Kd.R_reads' HO_8.out).2.2 a2 p141 q141
                                                  obtain rfl : ad139 = ad141 := (by injection e141)
                                                  replace p141 := eq_true p141
                                                  replace q141 := eq_true q141
                                                  have p67 : 0 ≤ (x14_4 : Int) := of_decide_eq_true (by first | (with_reducible assumption) | assumption)
                                                  have q67 : x14_4 < ((rdOf ByteArray.empty t115 a2).size : Int) := of_decide_eq_true (by first | (with_reducible assumption) | assumption)
                                                  have hx67 := bt_at (rdOf ByteArray.empty t115 a2) x14_4
                                                  replace p67 := eq_true p67
                                                  replace q67 := eq_true q67
                                                  go_wp2
                                                  go_roundg k4
                                                  case measure => have := HJ4.out; have := HJ39.out; have := HJ57.out; have := HK4.out; omega
                                                  case rel => exact ⟨(wrap64 (x14_4 + 1)), (by first | rfl | (simp; done) | (simp [*]; done)), H', ⟨by have := HJ4.out; have := HJ39.out; have := HJ57.out; have := HK4.out; omega⟩, ⟨by (with_reducible repeat (first | apply Kd.R_alloc | apply Kd.R_drewN | apply Kd.R_drew)); exact HO_8.out⟩, ⟨by repeat (first | (with_reducible first | exact HB.out | apply below_alloc | apply pw_below_drewN | apply below_drew1) | exact HB.out)⟩⟩
                                            · rw [if_neg c64] at H
                                              exact absurd H (by simp)
                                          · rw [if_neg c63] at H
                                            have c63b0 : decide (x14_4 < ((rdOf ByteArray.empty t115 a2).size : Int)) = false := decide_eq_false c63
                                            clear c63
                                            obtain rfl := Option.some.inj H
                                            have p139 : 0 ≤ (a2 : Int) := of_decide_eq_true (by first | (with_reducible assumption) | assumption)
                                            have q139 : a2 < (t115.length : Int) := of_decide_eq_true (by first | (with_reducible assumption) | assumption)
                                            obtain ⟨ad139, e139, hx139_0⟩ := Kd.at_string (Kd.R_reads' HO_8.out).2.2 a2 p139 q139
                                            cases e139
                                            replace p139 := eq_true p139
                                            replace q139 := eq_true q139
                                            go_wp2
                                            go_ret
                                            exact ⟨by first | rfl | (simp [errW_none, errW_some] <;> rfl) | (simp [*, errW_none, errW_some] <;> rfl), by repeat (first | (with_reducible first | exact HB.out | apply below_alloc | apply pw_below_drewN | apply below_drew1) | exact HB.out)⟩
                                        · rw [if_neg c62] at H
                                          exact absurd H (by simp)
                                      · rw [if_neg c61] at H
                                        exact absurd H (by simp)
                    · rw [if_neg c37] at H
                      exact absurd H (by simp)
                  · rw [if_neg c34] at H
                    exact absurd H (by simp)
                · rw [if_neg c33] at H
                  exact absurd H (by simp)
              · rw [if_neg c30] at H
                exact absurd H (by simp)
            · rw [if_neg c29] at H
              exact absurd H (by simp)
          · rw [if_neg c28] at H
            exact absurd H (by simp)
        · rw [if_neg c27] at H
          exact absurd H (by simp)

/-- THE ONE PURE STATEMENT of copperplatelaw07_FoldLines: yours. -/
def copperplatelaw07_FoldLines.Pure : Prop := ∀ (a0 : ByteArray) (a1 : ByteArray) (a2 : Int), a0.size ≤ 140737488351232 → a1.size ≤ 140737488351232 → (Lit.int .i64 a2).wf = true → ∃ k, copperplatelaw07_FoldLines.f k a0 a1 a2 = some true
theorem copperplatelaw07_FoldLines.walk (P : copperplatelaw07_FoldLines.Pure) (a0 : ByteArray) (a1 : ByteArray) (a2 : Int) (w : World) (w0 : a0.size ≤ 140737488351232) (w1 : a1.size ≤ 140737488351232) (w2 : (Lit.int .i64 a2).wf = true) :
    Calls Tryd.prog 5 #[.string a0, .string a1, .int .i64 a2] w fun e w' => e = .returned (.bool true) ∧ Below w.heap.size w w' := by
  obtain ⟨k, h⟩ := P a0 a1 a2 w0 w1 w2
  refine (copperplatelaw07_FoldLines.calls k a0 a1 a2 true w h).mono ?_
  rintro e w' ⟨rfl, hd⟩
  exact ⟨rfl, hd⟩

end Go.Proofs.YthcneciafiaphaaDoor.J
