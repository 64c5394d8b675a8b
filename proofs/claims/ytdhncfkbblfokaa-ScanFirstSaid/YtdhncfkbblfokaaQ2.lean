-- Printed for this seat by a program of this session (qprint.py), out of the translation; Lean checks it.
import Derived.Test.YtdhncfkbblfokaaQ0
import Derived.Test.YtdhncfkbblfokaaQ1
namespace Go.Proofs.Ytdhncfkbblfokaa.Q
open Go.Proofs.Ytdhncfkbblfokaa.G
open Go.RowKit Go.Proofs.YtdhncfkbblfokaaW.PrintWords Go.Proofs.YtdhncfkbblfokaaW.PrintLast Go.Proofs.YtdhncfkbblfokaaW.PrintMore
attribute [local go_sem] max2_int min2_int max_two min_two max_three min_three max_four min_four   -- for this text's walks alone
set_option linter.unusedVariables false
set_option linter.unusedSimpArgs false

/-! ### copperplateref04_nothing: function 35 -/
mutual
def copperplateref04_nothing.j0 : Nat → ByteArray → Int → Int → Bool → Option (Int)
  | 0, _, _, _, _ => none
  | k + 1, x0, x1, x5, x27 => if x27 = true then (some 1) else (if (wrap64 ((x0.size : Int) - x1)) ≥ 3 then (if x5 = 239 then (if 0 ≤ (wrap64 (x1 + 1)) then (if (wrap64 (x1 + 1)) < (x0.size : Int) then (if (bt x0 (wrap64 (x1 + 1))) = 187 then (if 0 ≤ (wrap64 (x1 + 2)) then (if (wrap64 (x1 + 2)) < (x0.size : Int) then (copperplateref04_nothing.j1 k x0 x1 x5 ((bt x0 (wrap64 (x1 + 2))) == 191)) else (none)) else (none)) else (copperplateref04_nothing.j1 k x0 x1 x5 false)) else (none)) else (none)) else (copperplateref04_nothing.j1 k x0 x1 x5 false)) else (copperplateref04_nothing.j1 k x0 x1 x5 false))
def copperplateref04_nothing.j1 : Nat → ByteArray → Int → Int → Bool → Option (Int)
  | 0, _, _, _, _ => none
  | k + 1, x0, x1, x5, x50 => if x50 = true then (some 3) else (copperplateref04_nothing.l0 k x0 x1 x5 0)
def copperplateref04_nothing.l0 : Nat → ByteArray → Int → Int → Int → Option (Int)
  | 0, _, _, _, _ => none
  | k + 1, x0, x1, x5, x6 => if x5 = 35 then (if (wrap64 (x1 + x6)) < (x0.size : Int) then (if 0 ≤ (wrap64 (x1 + x6)) then (if (bt x0 (wrap64 (x1 + x6))) = 10 then (some x6) else (if (bt x0 (wrap64 (x1 + x6))) = 13 then (some x6) else (copperplateref04_nothing.l0 k x0 x1 x5 (wrap64 (x6 + 1))))) else (none)) else (some x6)) else (some x6)
end
def copperplateref04_nothing.f (k : Nat) (a0 : ByteArray) (a1 : Int) : Option (Int) := if 0 ≤ a1 then (if a1 < (a0.size : Int) then (if (bt a0 a1) = 9 then (copperplateref04_nothing.j0 k a0 a1 (bt a0 a1) true) else (if (bt a0 a1) = 10 then (copperplateref04_nothing.j0 k a0 a1 (bt a0 a1) true) else (if (bt a0 a1) = 13 then (copperplateref04_nothing.j0 k a0 a1 (bt a0 a1) true) else (if (bt a0 a1) = 32 then (copperplateref04_nothing.j0 k a0 a1 (bt a0 a1) true) else (copperplateref04_nothing.j0 k a0 a1 (bt a0 a1) ((bt a0 a1) == 44)))))) else (none)) else (none)
theorem copperplateref04_nothing.mono_l : ∀ k, (∀ y0 y1 y2 y3, LeO (copperplateref04_nothing.j0 k y0 y1 y2 y3) (copperplateref04_nothing.j0 (k + 1) y0 y1 y2 y3)) ∧ (∀ y0 y1 y2 y3, LeO (copperplateref04_nothing.j1 k y0 y1 y2 y3) (copperplateref04_nothing.j1 (k + 1) y0 y1 y2 y3)) ∧ (∀ y0 y1 y2 y3, LeO (copperplateref04_nothing.l0 k y0 y1 y2 y3) (copperplateref04_nothing.l0 (k + 1) y0 y1 y2 y3))
  | 0 => ⟨fun _ _ _ _ r h => by simp [copperplateref04_nothing.j0] at h, fun _ _ _ _ r h => by simp [copperplateref04_nothing.j1] at h, fun _ _ _ _ r h => by simp [copperplateref04_nothing.l0] at h⟩
  | k + 1 => by
    obtain ⟨ih0, ih1, ih2⟩ := copperplateref04_nothing.mono_l k
    refine ⟨?_, ?_, ?_⟩
    · intro y0 y1 y2 y3
      unfold copperplateref04_nothing.j0
      repeat' first
      | (with_reducible exact ih0 _ _ _ _)
      | (with_reducible exact ih1 _ _ _ _)
      | (with_reducible exact ih2 _ _ _ _)
      | (with_reducible exact LeO.refl _)
      | (with_reducible exact LeO.none _)
      | (with_reducible refine LeO.ite ?_ ?_)
      | (with_reducible refine LeO.bind ?_ (fun _ => ?_))
      | exact ih0 _ _ _ _
      | exact ih1 _ _ _ _
      | exact ih2 _ _ _ _
      | exact LeO.none _
      | refine LeO.ite ?_ ?_
      | refine LeO.bind ?_ (fun _ => ?_)
    · intro y0 y1 y2 y3
      unfold copperplateref04_nothing.j1
      repeat' first
      | (with_reducible exact ih0 _ _ _ _)
      | (with_reducible exact ih1 _ _ _ _)
      | (with_reducible exact ih2 _ _ _ _)
      | (with_reducible exact LeO.refl _)
      | (with_reducible exact LeO.none _)
      | (with_reducible refine LeO.ite ?_ ?_)
      | (with_reducible refine LeO.bind ?_ (fun _ => ?_))
      | exact ih0 _ _ _ _
      | exact ih1 _ _ _ _
      | exact ih2 _ _ _ _
      | exact LeO.none _
      | refine LeO.ite ?_ ?_
      | refine LeO.bind ?_ (fun _ => ?_)
    · intro y0 y1 y2 y3
      unfold copperplateref04_nothing.l0
      repeat' first
      | (with_reducible exact ih0 _ _ _ _)
      | (with_reducible exact ih1 _ _ _ _)
      | (with_reducible exact ih2 _ _ _ _)
      | (with_reducible exact LeO.refl _)
      | (with_reducible exact LeO.none _)
      | (with_reducible refine LeO.ite ?_ ?_)
      | (with_reducible refine LeO.bind ?_ (fun _ => ?_))
      | exact ih0 _ _ _ _
      | exact ih1 _ _ _ _
      | exact ih2 _ _ _ _
      | exact LeO.none _
      | refine LeO.ite ?_ ?_
      | refine LeO.bind ?_ (fun _ => ?_)
theorem copperplateref04_nothing.mono : ∀ a0 a1 k, LeO (copperplateref04_nothing.f k a0 a1) (copperplateref04_nothing.f (k + 1) a0 a1) := by
  intro a0 a1 k
  obtain ⟨ih0, ih1, ih2⟩ := copperplateref04_nothing.mono_l k
  unfold copperplateref04_nothing.f
  repeat' first
      | (with_reducible exact ih0 _ _ _ _)
      | (with_reducible exact ih1 _ _ _ _)
      | (with_reducible exact ih2 _ _ _ _)
      | (with_reducible exact LeO.refl _)
      | (with_reducible exact LeO.none _)
      | (with_reducible refine LeO.ite ?_ ?_)
      | (with_reducible refine LeO.bind ?_ (fun _ => ?_))
      | exact ih0 _ _ _ _
      | exact ih1 _ _ _ _
      | exact ih2 _ _ _ _
      | exact LeO.none _
      | refine LeO.ite ?_ ?_
      | refine LeO.bind ?_ (fun _ => ?_)
set_option maxHeartbeats 8000000 in
set_option maxRecDepth 100000 in
theorem copperplateref04_nothing.calls (k : Nat) (a0 : ByteArray) (a1 : Int) (r : Int) (w : World) (h : copperplateref04_nothing.f k a0 a1 = some r) :
    Calls Try.prog 35 #[.string a0, .int .i64 a1] w fun e w' => e = .returned (.int .i64 r) ∧ Drawn0 w w' := by
  have H : (if 0 ≤ a1 then (if a1 < (a0.size : Int) then (if (bt a0 a1) = 9 then (copperplateref04_nothing.j0 k a0 a1 (bt a0 a1) true) else (if (bt a0 a1) = 10 then (copperplateref04_nothing.j0 k a0 a1 (bt a0 a1) true) else (if (bt a0 a1) = 13 then (copperplateref04_nothing.j0 k a0 a1 (bt a0 a1) true) else (if (bt a0 a1) = 32 then (copperplateref04_nothing.j0 k a0 a1 (bt a0 a1) true) else (copperplateref04_nothing.j0 k a0 a1 (bt a0 a1) ((bt a0 a1) == 44)))))) else (none)) else (none)) = some r := h
  clear h
  by_cases c3 : 0 ≤ a1
  · rw [if_pos c3] at H
    have c3b0 : decide (0 ≤ a1) = true := decide_eq_true c3
    clear c3
    by_cases c4 : a1 < (a0.size : Int)
    · rw [if_pos c4] at H
      have c4b0 : decide (a1 < (a0.size : Int)) = true := decide_eq_true c4
      clear c4
      have HC6 := Aside0.mk H
      clear H
      have p5 : 0 ≤ (a1 : Int) := of_decide_eq_true (by first | (with_reducible assumption) | assumption)
      have q5 : a1 < (a0.size : Int) := of_decide_eq_true (by first | (with_reducible assumption) | assumption)
      have hx5 := bt_at a0 a1
      replace p5 := eq_true p5
      replace q5 := eq_true q5
      go_enter Try.func35, Try.ntmps35
      go_upto_region 2 with (fail)
      go_cut [27] (fun v27 wc => ∃ (kq : Nat) (x27_5 : Bool), v27 = .bool x27_5 ∧ Aside0 (copperplateref04_nothing.j0 kq a0 a1 (bt a0 a1) x27_5 = some r) ∧ Aside0 (kq ≤ k) ∧ Drawn0 w wc)
      case first =>
        have H := HC6.out
        clear HC6
        by_cases c7 : (bt a0 a1) = 9
        · rw [if_pos c7] at H
          have c7b0 : ((bt a0 a1) == 9) = true := beq_iff_eq.mpr c7
          have c7b1 : ((bt a0 a1) != 9) = false := bne_eq_false_iff_eq.mpr c7
          clear c7
          (first | rw [c7b0] | (simp only [i64_w, i32_w]; rw [c7b0]) | skip)
          have H' := Aside0.mk H
          clear H
          go_wp2
          go_meet
          case rel => exact ⟨_, (true), (by first | rfl | (simp; done) | (simp [*]; done)), H', ⟨by first | omega | exact Nat.le_refl _⟩, by repeat (first | exact Drawn0.refl _ | apply Drawn0.step)⟩
        · rw [if_neg c7] at H
          have c7b0 : ((bt a0 a1) == 9) = false := beq_eq_false_iff_ne.mpr c7
          have c7b1 : ((bt a0 a1) != 9) = true := bne_iff_ne.mpr c7
          (first | rw [c7b0] | (simp only [i64_w, i32_w]; rw [c7b0]) | skip)
          by_cases c8 : (bt a0 a1) = 10
          · rw [if_pos c8] at H
            have c8b0 : ((bt a0 a1) == 10) = true := beq_iff_eq.mpr c8
            have c8b1 : ((bt a0 a1) != 10) = false := bne_eq_false_iff_eq.mpr c8
            clear c8
            have H' := Aside0.mk H
            clear H
            go_wp2
            go_meet
            case rel => exact ⟨_, (true), (by first | rfl | (simp; done) | (simp [*]; done)), H', ⟨by first | omega | exact Nat.le_refl _⟩, by repeat (first | exact Drawn0.refl _ | apply Drawn0.step)⟩
          · rw [if_neg c8] at H
            have c8b0 : ((bt a0 a1) == 10) = false := beq_eq_false_iff_ne.mpr c8
            have c8b1 : ((bt a0 a1) != 10) = true := bne_iff_ne.mpr c8
            by_cases c9 : (bt a0 a1) = 13
            · rw [if_pos c9] at H
              have c9b0 : ((bt a0 a1) == 13) = true := beq_iff_eq.mpr c9
              have c9b1 : ((bt a0 a1) != 13) = false := bne_eq_false_iff_eq.mpr c9
              clear c9
              have H' := Aside0.mk H
              clear H
              go_wp2
              go_meet
              case rel => exact ⟨_, (true), (by first | rfl | (simp; done) | (simp [*]; done)), H', ⟨by first | omega | exact Nat.le_refl _⟩, by repeat (first | exact Drawn0.refl _ | apply Drawn0.step)⟩
            · rw [if_neg c9] at H
              have c9b0 : ((bt a0 a1) == 13) = false := beq_eq_false_iff_ne.mpr c9
              have c9b1 : ((bt a0 a1) != 13) = true := bne_iff_ne.mpr c9
              by_cases c10 : (bt a0 a1) = 32
              · rw [if_pos c10] at H
                have c10b0 : ((bt a0 a1) == 32) = true := beq_iff_eq.mpr c10
                have c10b1 : ((bt a0 a1) != 32) = false := bne_eq_false_iff_eq.mpr c10
                clear c10
                have H' := Aside0.mk H
                clear H
                go_wp2
                go_meet
                case rel => exact ⟨_, (true), (by first | rfl | (simp; done) | (simp [*]; done)), H', ⟨by first | omega | exact Nat.le_refl _⟩, by repeat (first | exact Drawn0.refl _ | apply Drawn0.step)⟩
              · rw [if_neg c10] at H
                have c10b0 : ((bt a0 a1) == 32) = false := beq_eq_false_iff_ne.mpr c10
                have c10b1 : ((bt a0 a1) != 32) = true := bne_iff_ne.mpr c10
                have H' := Aside0.mk H
                clear H
                go_wp2
                go_meet
                case rel => exact ⟨_, (((bt a0 a1) == 44)), (by first | rfl | (simp; done) | (simp [*]; done)), H', ⟨by first | omega | exact Nat.le_refl _⟩, by repeat (first | exact Drawn0.refl _ | apply Drawn0.step)⟩
      case rest =>
        clear HC6
        try clear c1
        try clear p2
        try clear c3
        try clear c3b0
        try clear c4
        try clear c4b0
        try clear p5
        try clear q5
        try clear hx5
        try clear c7
        try clear c7b0
        try clear c7b1
        try clear c8
        try clear c8b0
        try clear c8b1
        try clear c9
        try clear c9b0
        try clear c9b1
        try clear c10
        try clear c10b0
        try clear c10b1
        try clear p5
        try clear q5
        obtain ⟨kq, x27_5, rfl, HA, HJ5, ⟨mc5, rfl⟩⟩ := hcut
        cases kq with
        | zero => exact absurd HA.out (by simp [copperplateref04_nothing.j0])
        | succ kj5 =>
          have H := HA.out
          clear HA
          simp only [copperplateref04_nothing.j0] at H
          by_cases c11 : x27_5 = true
          · subst c11
            have H1 : (some 1) = some r := by rw [if_pos rfl] at H; exact H
            clear H
            have H := H1
            clear H1
            obtain rfl := Option.some.inj H
            go_wp2
            go_ret
            exact ⟨by first | rfl | (simp; done) | (simp [*]; done), by repeat (first | exact Drawn0.refl _ | apply Drawn0.step)⟩
          · replace c11 := Bool.eq_false_iff.mpr c11
            subst c11
            have H1 : (if (wrap64 ((a0.size : Int) - a1)) ≥ 3 then (if (bt a0 a1) = 239 then (if 0 ≤ (wrap64 (a1 + 1)) then (if (wrap64 (a1 + 1)) < (a0.size : Int) then (if (bt a0 (wrap64 (a1 + 1))) = 187 then (if 0 ≤ (wrap64 (a1 + 2)) then (if (wrap64 (a1 + 2)) < (a0.size : Int) then (copperplateref04_nothing.j1 kj5 a0 a1 (bt a0 a1) ((bt a0 (wrap64 (a1 + 2))) == 191)) else (none)) else (none)) else (copperplateref04_nothing.j1 kj5 a0 a1 (bt a0 a1) false)) else (none)) else (none)) else (copperplateref04_nothing.j1 kj5 a0 a1 (bt a0 a1) false)) else (copperplateref04_nothing.j1 kj5 a0 a1 (bt a0 a1) false)) = some r := by rw [if_neg (show ¬ (false = true) by decide)] at H; exact H
            clear H
            have H := H1
            clear H1
            have HC12 := Aside0.mk H
            clear H
            go_upto_region 4 with (fail)
            go_cut [50] (fun v50 wc => ∃ (kq : Nat) (x50_11 : Bool), v50 = .bool x50_11 ∧ Aside0 (copperplateref04_nothing.j1 kq a0 a1 (bt a0 a1) x50_11 = some r) ∧ Aside0 (kq ≤ kj5) ∧ Drawn0 w wc)
            case first =>
              have H := HC12.out
              clear HC12
              by_cases c13 : (wrap64 ((a0.size : Int) - a1)) ≥ 3
              · rw [if_pos c13] at H
                have c13b0 : decide (3 ≤ (wrap64 ((a0.size : Int) - a1))) = true := decide_eq_true c13
                clear c13
                (first | rw [c13b0] | (simp only [i64_w, i32_w]; rw [c13b0]) | skip)
                by_cases c14 : (bt a0 a1) = 239
                · rw [if_pos c14] at H
                  have c14b0 : ((bt a0 a1) == 239) = true := beq_iff_eq.mpr c14
                  have c14b1 : ((bt a0 a1) != 239) = false := bne_eq_false_iff_eq.mpr c14
                  clear c14
                  obtain ⟨ji15, hji15⟩ : ∃ j_ : Int, (wrap64 (a1 + 1)) = j_ := ⟨_, rfl⟩
                  replace H : (if 0 ≤ (ji15) then (if (ji15) < (a0.size : Int) then (if (bt a0 (ji15)) = 187 then (if 0 ≤ (wrap64 (a1 + 2)) then (if (wrap64 (a1 + 2)) < (a0.size : Int) then (copperplateref04_nothing.j1 kj5 a0 a1 (bt a0 a1) ((bt a0 (wrap64 (a1 + 2))) == 191)) else (none)) else (none)) else (copperplateref04_nothing.j1 kj5 a0 a1 (bt a0 a1) false)) else (none)) else (none)) = some r := by first | (rw [hji15] at H; exact H) | (simp only [hji15] at H ⊢; exact H)
                  have hji15w : (IntKind.i64.wrap (a1 + 1)) = ji15 := (i64_w _).trans hji15
                  by_cases c16 : 0 ≤ (ji15)
                  · rw [if_pos c16] at H
                    have c16b0 : decide (0 ≤ (ji15)) = true := decide_eq_true c16
                    clear c16
                    by_cases c17 : (ji15) < (a0.size : Int)
                    · rw [if_pos c17] at H
                      have c17b0 : decide ((ji15) < (a0.size : Int)) = true := decide_eq_true c17
                      clear c17
                      by_cases c19 : (bt a0 (ji15)) = 187
                      · rw [if_pos c19] at H
                        have c19b0 : ((bt a0 (ji15)) == 187) = true := beq_iff_eq.mpr c19
                        have c19b1 : ((bt a0 (ji15)) != 187) = false := bne_eq_false_iff_eq.mpr c19
                        clear c19
                        obtain ⟨ji20, hji20⟩ : ∃ j_ : Int, (wrap64 (a1 + 2)) = j_ := ⟨_, rfl⟩
                        replace H : (if 0 ≤ (ji20) then (if (ji20) < (a0.size : Int) then (copperplateref04_nothing.j1 kj5 a0 a1 (bt a0 a1) ((bt a0 (ji20)) == 191)) else (none)) else (none)) = some r := by first | (rw [hji20] at H; exact H) | (simp only [hji20] at H ⊢; exact H)
                        have hji20w : (IntKind.i64.wrap (a1 + 2)) = ji20 := (i64_w _).trans hji20
                        by_cases c21 : 0 ≤ (ji20)
                        · rw [if_pos c21] at H
                          have c21b0 : decide (0 ≤ (ji20)) = true := decide_eq_true c21
                          clear c21
                          by_cases c22 : (ji20) < (a0.size : Int)
                          · rw [if_pos c22] at H
                            have c22b0 : decide ((ji20) < (a0.size : Int)) = true := decide_eq_true c22
                            clear c22
                            have H' := Aside0.mk H
                            clear H
                            have p18 : 0 ≤ ((ji15) : Int) := of_decide_eq_true (by first | (with_reducible assumption) | assumption)
                            have q18 : (ji15) < (a0.size : Int) := of_decide_eq_true (by first | (with_reducible assumption) | assumption)
                            have hx18 := bt_at a0 (ji15)
                            replace p18 := eq_true p18
                            replace q18 := eq_true q18
                            have p23 : 0 ≤ ((ji20) : Int) := of_decide_eq_true (by first | (with_reducible assumption) | assumption)
                            have q23 : (ji20) < (a0.size : Int) := of_decide_eq_true (by first | (with_reducible assumption) | assumption)
                            have hx23 := bt_at a0 (ji20)
                            replace p23 := eq_true p23
                            replace q23 := eq_true q23
                            go_wp2
                            go_meet
                            case rel => exact ⟨_, (((bt a0 (ji20)) == 191)), (by first | rfl | (simp; done) | (simp only [← hji20] <;> (first | rfl | simp)) | (simp [*]; done)), H', ⟨by have := HJ5.out; first | omega | exact Nat.le_refl _⟩, by repeat (first | exact Drawn0.refl _ | apply Drawn0.step)⟩
                          · rw [if_neg c22] at H
                            exact absurd H (by simp)
                        · rw [if_neg c21] at H
                          exact absurd H (by simp)
                      · rw [if_neg c19] at H
                        have c19b0 : ((bt a0 (ji15)) == 187) = false := beq_eq_false_iff_ne.mpr c19
                        have c19b1 : ((bt a0 (ji15)) != 187) = true := bne_iff_ne.mpr c19
                        have H' := Aside0.mk H
                        clear H
                        have p18 : 0 ≤ ((ji15) : Int) := of_decide_eq_true (by first | (with_reducible assumption) | assumption)
                        have q18 : (ji15) < (a0.size : Int) := of_decide_eq_true (by first | (with_reducible assumption) | assumption)
                        have hx18 := bt_at a0 (ji15)
                        replace p18 := eq_true p18
                        replace q18 := eq_true q18
                        go_wp2
                        go_meet
                        case rel => exact ⟨_, (false), (by first | rfl | (simp; done) | (simp [*]; done)), H', ⟨by have := HJ5.out; first | omega | exact Nat.le_refl _⟩, by repeat (first | exact Drawn0.refl _ | apply Drawn0.step)⟩
                    · rw [if_neg c17] at H
                      exact absurd H (by simp)
                  · rw [if_neg c16] at H
                    exact absurd H (by simp)
                · rw [if_neg c14] at H
                  have c14b0 : ((bt a0 a1) == 239) = false := beq_eq_false_iff_ne.mpr c14
                  have c14b1 : ((bt a0 a1) != 239) = true := bne_iff_ne.mpr c14
                  have H' := Aside0.mk H
                  clear H
                  go_wp2
                  go_meet
                  case rel => exact ⟨_, (false), (by first | rfl | (simp; done) | (simp [*]; done)), H', ⟨by have := HJ5.out; first | omega | exact Nat.le_refl _⟩, by repeat (first | exact Drawn0.refl _ | apply Drawn0.step)⟩
              · rw [if_neg c13] at H
                have c13b0 : decide (3 ≤ (wrap64 ((a0.size : Int) - a1))) = false := decide_eq_false c13
                clear c13
                (first | rw [c13b0] | (simp only [i64_w, i32_w]; rw [c13b0]) | skip)
                have H' := Aside0.mk H
                clear H
                go_wp2
                go_meet
                case rel => exact ⟨_, (false), (by first | rfl | (simp; done) | (simp [*]; done)), H', ⟨by have := HJ5.out; first | omega | exact Nat.le_refl _⟩, by repeat (first | exact Drawn0.refl _ | apply Drawn0.step)⟩
            case rest =>
              clear HC12
              try clear c1
              try clear p1
              try clear q1
              try clear hx1
              try clear c2
              try clear p2
              try clear q2
              try clear hx2
              try clear c3
              try clear c3b0
              try clear c4
              try clear c4b0
              try clear c5
              try clear p5
              try clear q5
              try clear hx5
              try clear p6
              try clear c7
              try clear c7b0
              try clear c7b1
              try clear c8
              try clear c8b0
              try clear c8b1
              try clear c9
              try clear c9b0
              try clear c9b1
              try clear c10
              try clear c10b0
              try clear c10b1
              try clear c11
              try clear c13
              try clear c13b0
              try clear c14
              try clear c14b0
              try clear c14b1
              try clear c16
              try clear c16b0
              try clear c17
              try clear c17b0
              try clear p18
              try clear q18
              try clear hx18
              try clear c19
              try clear c19b0
              try clear c19b1
              try clear c21
              try clear c21b0
              try clear c22
              try clear c22b0
              try clear p23
              try clear q23
              try clear hx23
              try clear p18
              try clear p2
              try clear p23
              try clear p5
              try clear q18
              try clear q23
              try clear q5
              obtain ⟨kq, x50_11, rfl, HA, HJ11, ⟨mc11, rfl⟩⟩ := hcut
              cases kq with
              | zero => exact absurd HA.out (by simp [copperplateref04_nothing.j1])
              | succ kj11 =>
                have H := HA.out
                clear HA
                simp only [copperplateref04_nothing.j1] at H
                by_cases c24 : x50_11 = true
                · subst c24
                  have H1 : (some 3) = some r := by rw [if_pos rfl] at H; exact H
                  clear H
                  have H := H1
                  clear H1
                  obtain rfl := Option.some.inj H
                  go_wp2
                  go_ret
                  exact ⟨by first | rfl | (simp; done) | (simp [*]; done), by repeat (first | exact Drawn0.refl _ | apply Drawn0.step)⟩
                · replace c24 := Bool.eq_false_iff.mpr c24
                  subst c24
                  have H1 : (copperplateref04_nothing.l0 kj11 a0 a1 (bt a0 a1) 0) = some r := by rw [if_neg (show ¬ (false = true) by decide)] at H; exact H
                  clear H
                  have H := H1
                  clear H1
                  have H' := Aside0.mk H
                  clear H
                  go_wp2
                  go_loopg [6] kj11 (fun kq v6 w' => ∃ (x6_3 : Int), v6 = .int .i64 x6_3 ∧ Aside0 (copperplateref04_nothing.l0 kq a0 a1 (bt a0 a1) x6_3 = some r) ∧ Aside0 (kq ≤ kj11) ∧ Drawn0 w w')
                  case atStart => exact ⟨(0), (by first | rfl | (simp; done) | (simp [*]; done)), H', ⟨Nat.le_refl _⟩, by repeat (first | exact Drawn0.refl _ | apply Drawn0.step)⟩
                  case round =>
                    clear H'
                    try clear c1
                    try clear p1
                    try clear q1
                    try clear hx1
                    try clear c2
                    try clear p2
                    try clear q2
                    try clear hx2
                    try clear c3
                    try clear c3b0
                    try clear c4
                    try clear c4b0
                    try clear c5
                    try clear p5
                    try clear q5
                    try clear hx5
                    try clear p6
                    try clear c7
                    try clear c7b0
                    try clear c7b1
                    try clear c8
                    try clear c8b0
                    try clear c8b1
                    try clear c9
                    try clear c9b0
                    try clear c9b1
                    try clear c10
                    try clear c10b0
                    try clear c10b1
                    try clear c11
                    try clear c13
                    try clear c13b0
                    try clear c14
                    try clear c14b0
                    try clear c14b1
                    try clear c16
                    try clear c16b0
                    try clear c17
                    try clear c17b0
                    try clear p18
                    try clear q18
                    try clear hx18
                    try clear c19
                    try clear c19b0
                    try clear c19b1
                    try clear c21
                    try clear c21b0
                    try clear c22
                    try clear c22b0
                    try clear p23
                    try clear q23
                    try clear hx23
                    try clear c24
                    try clear p1
                    try clear p18
                    try clear p2
                    try clear p23
                    try clear p5
                    try clear p6
                    try clear q1
                    try clear q18
                    try clear q2
                    try clear q23
                    try clear q5
                    obtain ⟨x6_3, rfl, HA, HK3, ⟨m3, rfl⟩⟩ := hrel
                    cases gk with
                    | zero => exact absurd HA.out (by simp [copperplateref04_nothing.l0])
                    | succ k3 =>
                      have H := HA.out
                      clear HA
                      simp only [copperplateref04_nothing.l0] at H
                      by_cases c25 : (bt a0 a1) = 35
                      · rw [if_pos c25] at H
                        have c25b0 : ((bt a0 a1) == 35) = true := beq_iff_eq.mpr c25
                        have c25b1 : ((bt a0 a1) != 35) = false := bne_eq_false_iff_eq.mpr c25
                        clear c25
                        by_cases c26 : (wrap64 (a1 + x6_3)) < (a0.size : Int)
                        · rw [if_pos c26] at H
                          have c26b0 : decide ((wrap64 (a1 + x6_3)) < (a0.size : Int)) = true := decide_eq_true c26
                          clear c26
                          obtain ⟨ji27, hji27⟩ : ∃ j_ : Int, (wrap64 (a1 + x6_3)) = j_ := ⟨_, rfl⟩
                          replace H : (if 0 ≤ (ji27) then (if (bt a0 (ji27)) = 10 then (some x6_3) else (if (bt a0 (ji27)) = 13 then (some x6_3) else (copperplateref04_nothing.l0 k3 a0 a1 (bt a0 a1) (wrap64 (x6_3 + 1))))) else (none)) = some r := by first | (rw [hji27] at H; exact H) | (simp only [hji27] at H ⊢; exact H)
                          (try rw [hji27] at c26b0)
                          have hji27w : (IntKind.i64.wrap (a1 + x6_3)) = ji27 := (i64_w _).trans hji27
                          by_cases c28 : 0 ≤ (ji27)
                          · rw [if_pos c28] at H
                            have c28b0 : decide (0 ≤ (ji27)) = true := decide_eq_true c28
                            clear c28
                            by_cases c30 : (bt a0 (ji27)) = 10
                            · rw [if_pos c30] at H
                              have c30b0 : ((bt a0 (ji27)) == 10) = true := beq_iff_eq.mpr c30
                              have c30b1 : ((bt a0 (ji27)) != 10) = false := bne_eq_false_iff_eq.mpr c30
                              clear c30
                              obtain rfl := Option.some.inj H
                              have p29 : 0 ≤ ((ji27) : Int) := of_decide_eq_true (by first | (with_reducible assumption) | assumption)
                              have q29 : (ji27) < (a0.size : Int) := of_decide_eq_true (by first | (with_reducible assumption) | assumption)
                              have hx29 := bt_at a0 (ji27)
                              replace p29 := eq_true p29
                              replace q29 := eq_true q29
                              go_wp2
                              go_ret
                              exact ⟨by first | rfl | (simp; done) | (simp only [← hji27] <;> (first | rfl | simp)) | (simp [*]; done), by repeat (first | exact Drawn0.refl _ | apply Drawn0.step)⟩
                            · rw [if_neg c30] at H
                              have c30b0 : ((bt a0 (ji27)) == 10) = false := beq_eq_false_iff_ne.mpr c30
                              have c30b1 : ((bt a0 (ji27)) != 10) = true := bne_iff_ne.mpr c30
                              by_cases c32 : (bt a0 (ji27)) = 13
                              · rw [if_pos c32] at H
                                have c32b0 : ((bt a0 (ji27)) == 13) = true := beq_iff_eq.mpr c32
                                have c32b1 : ((bt a0 (ji27)) != 13) = false := bne_eq_false_iff_eq.mpr c32
                                clear c32
                                obtain rfl := Option.some.inj H
                                have p29 : 0 ≤ ((ji27) : Int) := of_decide_eq_true (by first | (with_reducible assumption) | assumption)
                                have q29 : (ji27) < (a0.size : Int) := of_decide_eq_true (by first | (with_reducible assumption) | assumption)
                                have hx29 := bt_at a0 (ji27)
                                replace p29 := eq_true p29
                                replace q29 := eq_true q29
                                have p31 : 0 ≤ ((ji27) : Int) := of_decide_eq_true (by first | (with_reducible assumption) | assumption)
                                have q31 : (ji27) < (a0.size : Int) := of_decide_eq_true (by first | (with_reducible assumption) | assumption)
                                have hx31 := bt_at a0 (ji27)
                                replace p31 := eq_true p31
                                replace q31 := eq_true q31
                                go_wp2
                                go_ret
                                exact ⟨by first | rfl | (simp; done) | (simp only [← hji27] <;> (first | rfl | simp)) | (simp [*]; done), by repeat (first | exact Drawn0.refl _ | apply Drawn0.step)⟩
                              · rw [if_neg c32] at H
                                have c32b0 : ((bt a0 (ji27)) == 13) = false := beq_eq_false_iff_ne.mpr c32
                                have c32b1 : ((bt a0 (ji27)) != 13) = true := bne_iff_ne.mpr c32
                                have H' := Aside0.mk H
                                clear H
                                have p29 : 0 ≤ ((ji27) : Int) := of_decide_eq_true (by first | (with_reducible assumption) | assumption)
                                have q29 : (ji27) < (a0.size : Int) := of_decide_eq_true (by first | (with_reducible assumption) | assumption)
                                have hx29 := bt_at a0 (ji27)
                                replace p29 := eq_true p29
                                replace q29 := eq_true q29
                                have p31 : 0 ≤ ((ji27) : Int) := of_decide_eq_true (by first | (with_reducible assumption) | assumption)
                                have q31 : (ji27) < (a0.size : Int) := of_decide_eq_true (by first | (with_reducible assumption) | assumption)
                                have hx31 := bt_at a0 (ji27)
                                replace p31 := eq_true p31
                                replace q31 := eq_true q31
                                go_wp2
                                go_roundg k3
                                case measure => have := HJ5.out; have := HJ11.out; have := HK3.out; omega
                                case rel => exact ⟨(wrap64 (x6_3 + 1)), (by first | rfl | (simp; done) | (simp [*]; done)), H', ⟨by have := HJ5.out; have := HJ11.out; have := HK3.out; omega⟩, by repeat (first | exact Drawn0.refl _ | apply Drawn0.step)⟩
                          · rw [if_neg c28] at H
                            exact absurd H (by simp)
                        · rw [if_neg c26] at H
                          have c26b0 : decide ((wrap64 (a1 + x6_3)) < (a0.size : Int)) = false := decide_eq_false c26
                          clear c26
                          obtain rfl := Option.some.inj H
                          go_wp2
                          go_ret
                          exact ⟨by first | rfl | (simp; done) | (simp [*]; done), by repeat (first | exact Drawn0.refl _ | apply Drawn0.step)⟩
                      · rw [if_neg c25] at H
                        have c25b0 : ((bt a0 a1) == 35) = false := beq_eq_false_iff_ne.mpr c25
                        have c25b1 : ((bt a0 a1) != 35) = true := bne_iff_ne.mpr c25
                        obtain rfl := Option.some.inj H
                        go_wp2
                        go_ret
                        exact ⟨by first | rfl | (simp; done) | (simp [*]; done), by repeat (first | exact Drawn0.refl _ | apply Drawn0.step)⟩
    · rw [if_neg c4] at H
      exact absurd H (by simp)
  · rw [if_neg c3] at H
    exact absurd H (by simp)

/-! ### copperplateref04_Blank: function 22 -/
def copperplateref04_Blank.l0 : Nat → ByteArray → Int → Option (Int)
  | 0, _, _ => none
  | k + 1, x0, x1 => if x1 < (x0.size : Int) then ((copperplateref04_nothing.f k x0 x1).bind fun t110 => (if t110 = 0 then (some x1) else (copperplateref04_Blank.l0 k x0 (wrap64 (x1 + t110))))) else (some x1)
def copperplateref04_Blank.f (k : Nat) (a0 : ByteArray) (a1 : Int) : Option (Int) := if a1 < 0 then (some a1) else (copperplateref04_Blank.l0 k a0 a1)
theorem copperplateref04_Blank.mono_l : ∀ k, (∀ y0 y1, LeO (copperplateref04_Blank.l0 k y0 y1) (copperplateref04_Blank.l0 (k + 1) y0 y1))
  | 0 => fun _ _ r h => by simp [copperplateref04_Blank.l0] at h
  | k + 1 => by
    have ih0 := copperplateref04_Blank.mono_l k
    · intro y0 y1
      unfold copperplateref04_Blank.l0
      repeat' first
      | (with_reducible exact ih0 _ _)
      | (with_reducible exact copperplateref04_nothing.mono _ _ _)
      | (with_reducible exact LeO.refl _)
      | (with_reducible exact LeO.none _)
      | (with_reducible refine LeO.ite ?_ ?_)
      | (with_reducible refine LeO.bind ?_ (fun _ => ?_))
      | exact ih0 _ _
      | exact copperplateref04_nothing.mono _ _ _
      | exact LeO.none _
      | refine LeO.ite ?_ ?_
      | refine LeO.bind ?_ (fun _ => ?_)
theorem copperplateref04_Blank.mono : ∀ a0 a1 k, LeO (copperplateref04_Blank.f k a0 a1) (copperplateref04_Blank.f (k + 1) a0 a1) := by
  intro a0 a1 k
  have ih0 := copperplateref04_Blank.mono_l k
  unfold copperplateref04_Blank.f
  repeat' first
      | (with_reducible exact ih0 _ _)
      | (with_reducible exact copperplateref04_nothing.mono _ _ _)
      | (with_reducible exact LeO.refl _)
      | (with_reducible exact LeO.none _)
      | (with_reducible refine LeO.ite ?_ ?_)
      | (with_reducible refine LeO.bind ?_ (fun _ => ?_))
      | exact ih0 _ _
      | exact copperplateref04_nothing.mono _ _ _
      | exact LeO.none _
      | refine LeO.ite ?_ ?_
      | refine LeO.bind ?_ (fun _ => ?_)
set_option maxHeartbeats 8000000 in
set_option maxRecDepth 100000 in
theorem copperplateref04_Blank.calls (k : Nat) (a0 : ByteArray) (a1 : Int) (r : Int) (w : World) (h : copperplateref04_Blank.f k a0 a1 = some r) :
    Calls Try.prog 22 #[.string a0, .int .i64 a1] w fun e w' => e = .returned (.int .i64 r) ∧ Drawn0 w w' := by
  have H : (if a1 < 0 then (some a1) else (copperplateref04_Blank.l0 k a0 a1)) = some r := h
  clear h
  by_cases c3 : a1 < 0
  · rw [if_pos c3] at H
    have c3b0 : decide (a1 < 0) = true := decide_eq_true c3
    clear c3
    obtain rfl := Option.some.inj H
    go_enter Try.func22, Try.ntmps22
    go_wp2
    go_ret
    exact ⟨by first | rfl | (simp; done) | (simp [*]; done), by repeat (first | exact Drawn0.refl _ | apply Drawn0.step)⟩
  · rw [if_neg c3] at H
    have c3b0 : decide (a1 < 0) = false := decide_eq_false c3
    clear c3
    have H' := Aside0.mk H
    clear H
    go_enter Try.func22, Try.ntmps22
    go_wp2
    go_loopg [1] k (fun kq v1 w' => ∃ (x1_1 : Int), v1 = .int .i64 x1_1 ∧ Aside0 (copperplateref04_Blank.l0 kq a0 x1_1 = some r) ∧ Aside0 (kq ≤ k) ∧ Drawn0 w w')
    case atStart => exact ⟨(a1), (by first | rfl | (simp; done) | (simp [*]; done)), H', ⟨Nat.le_refl _⟩, by repeat (first | exact Drawn0.refl _ | apply Drawn0.step)⟩
    case round =>
      clear H'
      try clear c2
      try clear p2
      try clear c3
      try clear c3b0
      obtain ⟨x1_1, rfl, HA, HK1, ⟨m1, rfl⟩⟩ := hrel
      cases gk with
      | zero => exact absurd HA.out (by simp [copperplateref04_Blank.l0])
      | succ k1 =>
        have H := HA.out
        clear HA
        simp only [copperplateref04_Blank.l0] at H
        by_cases c4 : x1_1 < (a0.size : Int)
        · rw [if_pos c4] at H
          have c4b0 : decide (x1_1 < (a0.size : Int)) = true := decide_eq_true c4
          clear c4
          replace H := Option.bind_eq_some_iff.mp H
          obtain ⟨t110, A50, H⟩ := H
          replace H : (if t110 = 0 then (some x1_1) else (copperplateref04_Blank.l0 k1 a0 (wrap64 (x1_1 + t110)))) = some r := H
          have A5 := Aside0.mk A50
          clear A50
          by_cases c6 : t110 = 0
          · rw [if_pos c6] at H
            have c6b0 : (t110 == 0) = true := beq_iff_eq.mpr c6
            have c6b1 : (t110 != 0) = false := bne_eq_false_iff_eq.mpr c6
            clear c6
            obtain rfl := Option.some.inj H
            go_wp2_with (first | ((with_reducible refine gate_callee (f := 35) rfl ?_); refine goesL_ (some 15) rfl rfl Try.func35 (by kernel_rfl) rfl #[.string a0, .int .i64 x1_1] rfl (by (try simp only [List.map_toArray, List.map_cons, List.map_nil]); first | done | rfl | (simp only [List.length_drop, List.length_take]; rfl)) ?_; (with_reducible refine (copperplateref04_nothing.calls k1 a0 x1_1 t110 _ A5.out).mono ?_); rintro e w' ⟨rfl, ⟨nd, rfl⟩⟩; refine ⟨_, rfl, ?_⟩))
            go_ret
            exact ⟨by first | rfl | (simp; done) | (simp [*]; done), by repeat (first | exact Drawn0.refl _ | apply Drawn0.step)⟩
          · rw [if_neg c6] at H
            have c6b0 : (t110 == 0) = false := beq_eq_false_iff_ne.mpr c6
            have c6b1 : (t110 != 0) = true := bne_iff_ne.mpr c6
            have H' := Aside0.mk H
            clear H
            go_wp2_with (first | ((with_reducible refine gate_callee (f := 35) rfl ?_); refine goesL_ (some 15) rfl rfl Try.func35 (by kernel_rfl) rfl #[.string a0, .int .i64 x1_1] rfl (by (try simp only [List.map_toArray, List.map_cons, List.map_nil]); first | done | rfl | (simp only [List.length_drop, List.length_take]; rfl)) ?_; (with_reducible refine (copperplateref04_nothing.calls k1 a0 x1_1 t110 _ A5.out).mono ?_); rintro e w' ⟨rfl, ⟨nd, rfl⟩⟩; refine ⟨_, rfl, ?_⟩))
            go_roundg k1
            case measure => have := HK1.out; omega
            case rel => exact ⟨(wrap64 (x1_1 + t110)), (by first | rfl | (simp; done) | (simp [*]; done)), H', ⟨by have := HK1.out; omega⟩, by repeat (first | exact Drawn0.refl _ | apply Drawn0.step)⟩
        · rw [if_neg c4] at H
          have c4b0 : decide (x1_1 < (a0.size : Int)) = false := decide_eq_false c4
          clear c4
          obtain rfl := Option.some.inj H
          go_wp2
          go_ret
          exact ⟨by first | rfl | (simp; done) | (simp [*]; done), by repeat (first | exact Drawn0.refl _ | apply Drawn0.step)⟩

/-! ### copperplatelaw04_ScanTells: function 3 -/
def copperplatelaw04_ScanTells.j0 : Nat → Int → ByteArray → Int → Bool → Bool → Option (Bool)
  | 0, _, _, _, _, _ => none
  | k + 1, x0, x1, x2, x7, x16 => if x16 = true then (some x7) else ((copperplateref04_Begins.f x0).bind fun t112 => ((scan_Begins.f x0).bind fun t113 => (if (t113 == t112) = true then ((scan_Name.f x1 x2).bind fun t114 => ((copperplateref04_Name.f k x1 x2).bind fun t115 => (if t114 = t115 then ((scan_Digits.f x1 x2).bind fun t116 => ((copperplateref04_Digits.f k x1 x2).bind fun t117 => (if t116 = t117 then ((scan_Blank.f x1 x2).bind fun t118 => ((copperplateref04_Blank.f k x1 x2).bind fun t119 => (some (t118 == t119)))) else (some false)))) else (some false)))) else (some false))))
def copperplatelaw04_ScanTells.f (k : Nat) (a0 : Int) (a1 : ByteArray) (a2 : Int) : Option (Bool) := (copperplatelaw04_awake.f).bind fun t111 => (if t111 = true then (copperplatelaw04_ScanTells.j0 k a0 a1 a2 t111 (decide ((a1.size : Int) > 600))) else (copperplatelaw04_ScanTells.j0 k a0 a1 a2 t111 true))
theorem copperplatelaw04_ScanTells.mono_l : ∀ k, (∀ y0 y1 y2 y3 y4, LeO (copperplatelaw04_ScanTells.j0 k y0 y1 y2 y3 y4) (copperplatelaw04_ScanTells.j0 (k + 1) y0 y1 y2 y3 y4))
  | 0 => fun _ _ _ _ _ r h => by simp [copperplatelaw04_ScanTells.j0] at h
  | k + 1 => by
    have ih0 := copperplatelaw04_ScanTells.mono_l k
    · intro y0 y1 y2 y3 y4
      unfold copperplatelaw04_ScanTells.j0
      repeat' first
      | (with_reducible exact ih0 _ _ _ _ _)
      | (with_reducible exact copperplateref04_Blank.mono _ _ _)
      | (with_reducible exact copperplateref04_Digits.mono _ _ _)
      | (with_reducible exact copperplateref04_Name.mono _ _ _)
      | (with_reducible exact LeO.refl _)
      | (with_reducible exact LeO.none _)
      | (with_reducible refine LeO.ite ?_ ?_)
      | (with_reducible refine LeO.bind ?_ (fun _ => ?_))
      | exact ih0 _ _ _ _ _
      | exact copperplateref04_Blank.mono _ _ _
      | exact copperplateref04_Digits.mono _ _ _
      | exact copperplateref04_Name.mono _ _ _
      | exact LeO.none _
      | refine LeO.ite ?_ ?_
      | refine LeO.bind ?_ (fun _ => ?_)
theorem copperplatelaw04_ScanTells.mono : ∀ a0 a1 a2 k, LeO (copperplatelaw04_ScanTells.f k a0 a1 a2) (copperplatelaw04_ScanTells.f (k + 1) a0 a1 a2) := by
  intro a0 a1 a2 k
  have ih0 := copperplatelaw04_ScanTells.mono_l k
  unfold copperplatelaw04_ScanTells.f
  repeat' first
      | (with_reducible exact ih0 _ _ _ _ _)
      | (with_reducible exact copperplateref04_Blank.mono _ _ _)
      | (with_reducible exact copperplateref04_Digits.mono _ _ _)
      | (with_reducible exact copperplateref04_Name.mono _ _ _)
      | (with_reducible exact LeO.refl _)
      | (with_reducible exact LeO.none _)
      | (with_reducible refine LeO.ite ?_ ?_)
      | (with_reducible refine LeO.bind ?_ (fun _ => ?_))
      | exact ih0 _ _ _ _ _
      | exact copperplateref04_Blank.mono _ _ _
      | exact copperplateref04_Digits.mono _ _ _
      | exact copperplateref04_Name.mono _ _ _
      | exact LeO.none _
      | refine LeO.ite ?_ ?_
      | refine LeO.bind ?_ (fun _ => ?_)
set_option maxHeartbeats 8000000 in
set_option maxRecDepth 100000 in
theorem copperplatelaw04_ScanTells.calls (k : Nat) (a0 : Int) (a1 : ByteArray) (a2 : Int) (r : Bool) (w : World) (h : copperplatelaw04_ScanTells.f k a0 a1 a2 = some r) :
    Calls Try.prog 3 #[.int .u8 a0, .string a1, .int .i64 a2] w fun e w' => e = .returned (.bool r) ∧ Below w.heap.size w w' := by
  have HB := Aside0.mk (Below.refl w.heap.size w)
  have H : ((copperplatelaw04_awake.f).bind fun t111 => (if t111 = true then (copperplatelaw04_ScanTells.j0 k a0 a1 a2 t111 (decide ((a1.size : Int) > 600))) else (copperplatelaw04_ScanTells.j0 k a0 a1 a2 t111 true))) = some r := h
  clear h
  replace H := Option.bind_eq_some_iff.mp H
  obtain ⟨t111, A40, H⟩ := H
  replace H : (if t111 = true then (copperplatelaw04_ScanTells.j0 k a0 a1 a2 t111 (decide ((a1.size : Int) > 600))) else (copperplatelaw04_ScanTells.j0 k a0 a1 a2 t111 true)) = some r := H
  have A4 := Aside0.mk A40
  clear A40
  have HC5 := Aside0.mk H
  clear H
  go_enter Try.func3, Try.ntmps3
  go_upto_region 2 with (first | ((with_reducible refine gate_callee (f := 14) rfl ?_); refine goesL_ (some 9) rfl rfl Try.func14 (by kernel_rfl) rfl #[] rfl (by (try simp only [List.map_toArray, List.map_cons, List.map_nil]); first | done | rfl | (simp only [List.length_drop, List.length_take]; rfl)) ?_; (with_reducible refine (copperplatelaw04_awake.calls  t111 _ A4.out).mono ?_); rintro e w6 ⟨rfl, hb⟩; refine ⟨_, rfl, ?_⟩; have n0_ := Aside0.mk (below_step (by repeat (first | (with_reducible first | exact HB.out | apply below_alloc | apply pw_below_drewN | apply below_drew1) | exact HB.out)) hb); clear HB; have HB := n0_; clear n0_; (try clear hb); (try clear hb2); (try clear hk); (try clear hi)))
  (try simp only [Act.put, List.setIfInBounds_toArray, List.set_cons_zero, List.set_cons_succ])
  go_cut [16] (fun v16 wc => ∃ (kq : Nat) (x16_4 : Bool), v16 = .bool x16_4 ∧ Aside0 (copperplatelaw04_ScanTells.j0 kq a0 a1 a2 t111 x16_4 = some r) ∧ Aside0 (kq ≤ k) ∧ Aside0 (Below w.heap.size w wc))
  case first =>
    have H := HC5.out
    clear HC5
    by_cases c7 : t111 = true
    · subst c7
      have H1 : (copperplatelaw04_ScanTells.j0 k a0 a1 a2 true (decide ((a1.size : Int) > 600))) = some r := by rw [if_pos rfl] at H; exact H
      clear H
      have H := H1
      clear H1
      have H' := Aside0.mk H
      clear H
      go_wp2
      go_meet
      case rel => exact ⟨_, (decide ((a1.size : Int) > 600)), (by first | rfl | (simp; done) | (simp [*]; done)), H', ⟨by first | omega | exact Nat.le_refl _⟩, ⟨by repeat (first | (with_reducible first | exact HB.out | apply below_alloc | apply pw_below_drewN | apply below_drew1) | exact HB.out)⟩⟩
    · replace c7 := Bool.eq_false_iff.mpr c7
      subst c7
      have H1 : (copperplatelaw04_ScanTells.j0 k a0 a1 a2 false true) = some r := by rw [if_neg (show ¬ (false = true) by decide)] at H; exact H
      clear H
      have H := H1
      clear H1
      have H' := Aside0.mk H
      clear H
      go_wp2
      go_meet
      case rel => exact ⟨_, (true), (by first | rfl | (simp; done) | (simp [*]; done)), H', ⟨by first | omega | exact Nat.le_refl _⟩, ⟨by repeat (first | (with_reducible first | exact HB.out | apply below_alloc | apply pw_below_drewN | apply below_drew1) | exact HB.out)⟩⟩
  case rest =>
    clear HC5
    try clear c1
    try clear p2
    try clear c3
    try clear c7
    obtain ⟨kq, x16_4, rfl, HA, HJ4, HB⟩ := hcut
    cases kq with
    | zero => exact absurd HA.out (by simp [copperplatelaw04_ScanTells.j0])
    | succ kj4 =>
      have H := HA.out
      clear HA
      simp only [copperplatelaw04_ScanTells.j0] at H
      by_cases c8 : x16_4 = true
      · subst c8
        have H1 : (some t111) = some r := by rw [if_pos rfl] at H; exact H
        clear H
        have H := H1
        clear H1
        obtain rfl := Option.some.inj H
        go_wp2
        go_ret
        exact ⟨by first | rfl | (simp [errW_none, errW_some] <;> rfl) | (simp [*, errW_none, errW_some] <;> rfl), by repeat (first | (with_reducible first | exact HB.out | apply below_alloc | apply pw_below_drewN | apply below_drew1) | exact HB.out)⟩
      · replace c8 := Bool.eq_false_iff.mpr c8
        subst c8
        have H1 : ((copperplateref04_Begins.f a0).bind fun t112 => ((scan_Begins.f a0).bind fun t113 => (if (t113 == t112) = true then ((scan_Name.f a1 a2).bind fun t114 => ((copperplateref04_Name.f kj4 a1 a2).bind fun t115 => (if t114 = t115 then ((scan_Digits.f a1 a2).bind fun t116 => ((copperplateref04_Digits.f kj4 a1 a2).bind fun t117 => (if t116 = t117 then ((scan_Blank.f a1 a2).bind fun t118 => ((copperplateref04_Blank.f kj4 a1 a2).bind fun t119 => (some (t118 == t119)))) else (some false)))) else (some false)))) else (some false)))) = some r := by rw [if_neg (show ¬ (false = true) by decide)] at H; exact H
        clear H
        have H := H1
        clear H1
        replace H := Option.bind_eq_some_iff.mp H
        obtain ⟨t112, A90, H⟩ := H
        replace H : ((scan_Begins.f a0).bind fun t113 => (if (t113 == t112) = true then ((scan_Name.f a1 a2).bind fun t114 => ((copperplateref04_Name.f kj4 a1 a2).bind fun t115 => (if t114 = t115 then ((scan_Digits.f a1 a2).bind fun t116 => ((copperplateref04_Digits.f kj4 a1 a2).bind fun t117 => (if t116 = t117 then ((scan_Blank.f a1 a2).bind fun t118 => ((copperplateref04_Blank.f kj4 a1 a2).bind fun t119 => (some (t118 == t119)))) else (some false)))) else (some false)))) else (some false))) = some r := H
        have A9 := Aside0.mk A90
        clear A90
        replace H := Option.bind_eq_some_iff.mp H
        obtain ⟨t113, A100, H⟩ := H
        replace H : (if (t113 == t112) = true then ((scan_Name.f a1 a2).bind fun t114 => ((copperplateref04_Name.f kj4 a1 a2).bind fun t115 => (if t114 = t115 then ((scan_Digits.f a1 a2).bind fun t116 => ((copperplateref04_Digits.f kj4 a1 a2).bind fun t117 => (if t116 = t117 then ((scan_Blank.f a1 a2).bind fun t118 => ((copperplateref04_Blank.f kj4 a1 a2).bind fun t119 => (some (t118 == t119)))) else (some false)))) else (some false)))) else (some false)) = some r := H
        have A10 := Aside0.mk A100
        clear A100
        by_cases c11 : (t113 == t112) = true
        · rw [if_pos c11] at H
          have c11b0 : (t113 == t112) = true := c11
          (try (have c11b1 : decide (t113 = t112) = true := by simpa using c11))
          (try (have c11b2 : (t113 == t112) = true := by simpa using c11))
          clear c11
          replace H := Option.bind_eq_some_iff.mp H
          obtain ⟨t114, A120, H⟩ := H
          replace H : ((copperplateref04_Name.f kj4 a1 a2).bind fun t115 => (if t114 = t115 then ((scan_Digits.f a1 a2).bind fun t116 => ((copperplateref04_Digits.f kj4 a1 a2).bind fun t117 => (if t116 = t117 then ((scan_Blank.f a1 a2).bind fun t118 => ((copperplateref04_Blank.f kj4 a1 a2).bind fun t119 => (some (t118 == t119)))) else (some false)))) else (some false))) = some r := H
          have A12 := Aside0.mk A120
          clear A120
          replace H := Option.bind_eq_some_iff.mp H
          obtain ⟨t115, A130, H⟩ := H
          replace H : (if t114 = t115 then ((scan_Digits.f a1 a2).bind fun t116 => ((copperplateref04_Digits.f kj4 a1 a2).bind fun t117 => (if t116 = t117 then ((scan_Blank.f a1 a2).bind fun t118 => ((copperplateref04_Blank.f kj4 a1 a2).bind fun t119 => (some (t118 == t119)))) else (some false)))) else (some false)) = some r := H
          have A13 := Aside0.mk A130
          clear A130
          by_cases c14 : t114 = t115
          · rw [if_pos c14] at H
            have c14b0 : (t114 == t115) = true := beq_iff_eq.mpr c14
            have c14b1 : (t114 != t115) = false := bne_eq_false_iff_eq.mpr c14
            clear c14
            replace H := Option.bind_eq_some_iff.mp H
            obtain ⟨t116, A150, H⟩ := H
            replace H : ((copperplateref04_Digits.f kj4 a1 a2).bind fun t117 => (if t116 = t117 then ((scan_Blank.f a1 a2).bind fun t118 => ((copperplateref04_Blank.f kj4 a1 a2).bind fun t119 => (some (t118 == t119)))) else (some false))) = some r := H
            have A15 := Aside0.mk A150
            clear A150
            replace H := Option.bind_eq_some_iff.mp H
            obtain ⟨t117, A160, H⟩ := H
            replace H : (if t116 = t117 then ((scan_Blank.f a1 a2).bind fun t118 => ((copperplateref04_Blank.f kj4 a1 a2).bind fun t119 => (some (t118 == t119)))) else (some false)) = some r := H
            have A16 := Aside0.mk A160
            clear A160
            by_cases c17 : t116 = t117
            · rw [if_pos c17] at H
              have c17b0 : (t116 == t117) = true := beq_iff_eq.mpr c17
              have c17b1 : (t116 != t117) = false := bne_eq_false_iff_eq.mpr c17
              clear c17
              replace H := Option.bind_eq_some_iff.mp H
              obtain ⟨t118, A180, H⟩ := H
              replace H : ((copperplateref04_Blank.f kj4 a1 a2).bind fun t119 => (some (t118 == t119))) = some r := H
              have A18 := Aside0.mk A180
              clear A180
              replace H := Option.bind_eq_some_iff.mp H
              obtain ⟨t119, A190, H⟩ := H
              replace H : (some (t118 == t119)) = some r := H
              have A19 := Aside0.mk A190
              clear A190
              obtain rfl := Option.some.inj H
              go_wp2_with (first | ((with_reducible refine gate_callee (f := 15) rfl ?_); refine goesL_ (some 19) rfl rfl Try.func15 (by kernel_rfl) rfl #[.int .u8 a0] rfl (by (try simp only [List.map_toArray, List.map_cons, List.map_nil]); first | done | rfl | (simp only [List.length_drop, List.length_take]; rfl)) ?_; (with_reducible refine (copperplateref04_Begins.calls a0 t112 _ A9.out).mono ?_); rintro e w' ⟨rfl, ⟨nd, rfl⟩⟩; refine ⟨_, rfl, ?_⟩) | ((with_reducible refine gate_callee (f := 16) rfl ?_); refine goesL_ (some 21) rfl rfl Try.func16 (by kernel_rfl) rfl #[.int .u8 a0] rfl (by (try simp only [List.map_toArray, List.map_cons, List.map_nil]); first | done | rfl | (simp only [List.length_drop, List.length_take]; rfl)) ?_; (with_reducible refine (scan_Begins.calls a0 t113 _ A10.out).mono ?_); rintro e w' ⟨rfl, ⟨nd, rfl⟩⟩; refine ⟨_, rfl, ?_⟩) | (go_at_call 17; (with_reducible refine (scan_Name.calls a1 a2 t114 _ A12.out).mono ?_); rintro e w20 ⟨rfl, hb⟩; have n0_ := Aside0.mk (below_step (by repeat (first | (with_reducible first | exact HB.out | apply below_alloc | apply pw_below_drewN | apply below_drew1) | exact HB.out)) hb); clear HB; have HB := n0_; clear n0_; (try clear hb); (try clear hb2); (try clear hk); (try clear hi)) | (go_at_call 18; (with_reducible refine (copperplateref04_Name.calls kj4 a1 a2 t115 _ A13.out).mono ?_); rintro e w' ⟨rfl, ⟨nd, rfl⟩⟩) | (go_at_call 19; (with_reducible refine (scan_Digits.calls a1 a2 t116 _ A15.out).mono ?_); rintro e w21 ⟨rfl, hb⟩; have n0_ := Aside0.mk (below_step (by repeat (first | (with_reducible first | exact HB.out | apply below_alloc | apply pw_below_drewN | apply below_drew1) | exact HB.out)) hb); clear HB; have HB := n0_; clear n0_; (try clear hb); (try clear hb2); (try clear hk); (try clear hi)) | (go_at_call 20; (with_reducible refine (copperplateref04_Digits.calls kj4 a1 a2 t117 _ A16.out).mono ?_); rintro e w' ⟨rfl, ⟨nd, rfl⟩⟩) | (go_at_call 21; (with_reducible refine (scan_Blank.calls a1 a2 t118 _ A18.out).mono ?_); rintro e w22 ⟨rfl, hb⟩; have n0_ := Aside0.mk (below_step (by repeat (first | (with_reducible first | exact HB.out | apply below_alloc | apply pw_below_drewN | apply below_drew1) | exact HB.out)) hb); clear HB; have HB := n0_; clear n0_; (try clear hb); (try clear hb2); (try clear hk); (try clear hi)) | (go_at_call 22; (with_reducible refine (copperplateref04_Blank.calls kj4 a1 a2 t119 _ A19.out).mono ?_); rintro e w' ⟨rfl, ⟨nd, rfl⟩⟩))
              go_ret
              exact ⟨by first | rfl | (simp [errW_none, errW_some] <;> rfl) | (simp [*, errW_none, errW_some] <;> rfl), by repeat (first | (with_reducible first | exact HB.out | apply below_alloc | apply pw_below_drewN | apply below_drew1) | exact HB.out)⟩
            · rw [if_neg c17] at H
              have c17b0 : (t116 == t117) = false := beq_eq_false_iff_ne.mpr c17
              have c17b1 : (t116 != t117) = true := bne_iff_ne.mpr c17
              obtain rfl := Option.some.inj H
              go_wp2_with (first | ((with_reducible refine gate_callee (f := 15) rfl ?_); refine goesL_ (some 19) rfl rfl Try.func15 (by kernel_rfl) rfl #[.int .u8 a0] rfl (by (try simp only [List.map_toArray, List.map_cons, List.map_nil]); first | done | rfl | (simp only [List.length_drop, List.length_take]; rfl)) ?_; (with_reducible refine (copperplateref04_Begins.calls a0 t112 _ A9.out).mono ?_); rintro e w' ⟨rfl, ⟨nd, rfl⟩⟩; refine ⟨_, rfl, ?_⟩) | ((with_reducible refine gate_callee (f := 16) rfl ?_); refine goesL_ (some 21) rfl rfl Try.func16 (by kernel_rfl) rfl #[.int .u8 a0] rfl (by (try simp only [List.map_toArray, List.map_cons, List.map_nil]); first | done | rfl | (simp only [List.length_drop, List.length_take]; rfl)) ?_; (with_reducible refine (scan_Begins.calls a0 t113 _ A10.out).mono ?_); rintro e w' ⟨rfl, ⟨nd, rfl⟩⟩; refine ⟨_, rfl, ?_⟩) | (go_at_call 17; (with_reducible refine (scan_Name.calls a1 a2 t114 _ A12.out).mono ?_); rintro e w23 ⟨rfl, hb⟩; have n0_ := Aside0.mk (below_step (by repeat (first | (with_reducible first | exact HB.out | apply below_alloc | apply pw_below_drewN | apply below_drew1) | exact HB.out)) hb); clear HB; have HB := n0_; clear n0_; (try clear hb); (try clear hb2); (try clear hk); (try clear hi)) | (go_at_call 18; (with_reducible refine (copperplateref04_Name.calls kj4 a1 a2 t115 _ A13.out).mono ?_); rintro e w' ⟨rfl, ⟨nd, rfl⟩⟩) | (go_at_call 19; (with_reducible refine (scan_Digits.calls a1 a2 t116 _ A15.out).mono ?_); rintro e w24 ⟨rfl, hb⟩; have n0_ := Aside0.mk (below_step (by repeat (first | (with_reducible first | exact HB.out | apply below_alloc | apply pw_below_drewN | apply below_drew1) | exact HB.out)) hb); clear HB; have HB := n0_; clear n0_; (try clear hb); (try clear hb2); (try clear hk); (try clear hi)) | (go_at_call 20; (with_reducible refine (copperplateref04_Digits.calls kj4 a1 a2 t117 _ A16.out).mono ?_); rintro e w' ⟨rfl, ⟨nd, rfl⟩⟩))
              go_ret
              exact ⟨by first | rfl | (simp [errW_none, errW_some] <;> rfl) | (simp [*, errW_none, errW_some] <;> rfl), by repeat (first | (with_reducible first | exact HB.out | apply below_alloc | apply pw_below_drewN | apply below_drew1) | exact HB.out)⟩
          · rw [if_neg c14] at H
            have c14b0 : (t114 == t115) = false := beq_eq_false_iff_ne.mpr c14
            have c14b1 : (t114 != t115) = true := bne_iff_ne.mpr c14
            obtain rfl := Option.some.inj H
            go_wp2_with (first | ((with_reducible refine gate_callee (f := 15) rfl ?_); refine goesL_ (some 19) rfl rfl Try.func15 (by kernel_rfl) rfl #[.int .u8 a0] rfl (by (try simp only [List.map_toArray, List.map_cons, List.map_nil]); first | done | rfl | (simp only [List.length_drop, List.length_take]; rfl)) ?_; (with_reducible refine (copperplateref04_Begins.calls a0 t112 _ A9.out).mono ?_); rintro e w' ⟨rfl, ⟨nd, rfl⟩⟩; refine ⟨_, rfl, ?_⟩) | ((with_reducible refine gate_callee (f := 16) rfl ?_); refine goesL_ (some 21) rfl rfl Try.func16 (by kernel_rfl) rfl #[.int .u8 a0] rfl (by (try simp only [List.map_toArray, List.map_cons, List.map_nil]); first | done | rfl | (simp only [List.length_drop, List.length_take]; rfl)) ?_; (with_reducible refine (scan_Begins.calls a0 t113 _ A10.out).mono ?_); rintro e w' ⟨rfl, ⟨nd, rfl⟩⟩; refine ⟨_, rfl, ?_⟩) | (go_at_call 17; (with_reducible refine (scan_Name.calls a1 a2 t114 _ A12.out).mono ?_); rintro e w25 ⟨rfl, hb⟩; have n0_ := Aside0.mk (below_step (by repeat (first | (with_reducible first | exact HB.out | apply below_alloc | apply pw_below_drewN | apply below_drew1) | exact HB.out)) hb); clear HB; have HB := n0_; clear n0_; (try clear hb); (try clear hb2); (try clear hk); (try clear hi)) | (go_at_call 18; (with_reducible refine (copperplateref04_Name.calls kj4 a1 a2 t115 _ A13.out).mono ?_); rintro e w' ⟨rfl, ⟨nd, rfl⟩⟩))
            go_ret
            exact ⟨by first | rfl | (simp [errW_none, errW_some] <;> rfl) | (simp [*, errW_none, errW_some] <;> rfl), by repeat (first | (with_reducible first | exact HB.out | apply below_alloc | apply pw_below_drewN | apply below_drew1) | exact HB.out)⟩
        · rw [if_neg c11] at H
          have c11b0 : (t113 == t112) = false := by simpa using c11
          (try (have c11b1 : decide (t113 = t112) = false := by simpa using c11))
          (try (have c11b2 : (t113 == t112) = false := by simpa using c11))
          (try (have c11b3 : ¬ (t113 = t112) := by simpa using c11))
          clear c11
          obtain rfl := Option.some.inj H
          go_wp2_with (first | ((with_reducible refine gate_callee (f := 15) rfl ?_); refine goesL_ (some 19) rfl rfl Try.func15 (by kernel_rfl) rfl #[.int .u8 a0] rfl (by (try simp only [List.map_toArray, List.map_cons, List.map_nil]); first | done | rfl | (simp only [List.length_drop, List.length_take]; rfl)) ?_; (with_reducible refine (copperplateref04_Begins.calls a0 t112 _ A9.out).mono ?_); rintro e w' ⟨rfl, ⟨nd, rfl⟩⟩; refine ⟨_, rfl, ?_⟩) | ((with_reducible refine gate_callee (f := 16) rfl ?_); refine goesL_ (some 21) rfl rfl Try.func16 (by kernel_rfl) rfl #[.int .u8 a0] rfl (by (try simp only [List.map_toArray, List.map_cons, List.map_nil]); first | done | rfl | (simp only [List.length_drop, List.length_take]; rfl)) ?_; (with_reducible refine (scan_Begins.calls a0 t113 _ A10.out).mono ?_); rintro e w' ⟨rfl, ⟨nd, rfl⟩⟩; refine ⟨_, rfl, ?_⟩))
          go_ret
          exact ⟨by first | rfl | (simp [errW_none, errW_some] <;> rfl) | (simp [*, errW_none, errW_some] <;> rfl), by repeat (first | (with_reducible first | exact HB.out | apply below_alloc | apply pw_below_drewN | apply below_drew1) | exact HB.out)⟩

/-- THE ONE PURE STATEMENT of copperplatelaw04_ScanTells: yours. -/
def copperplatelaw04_ScanTells.Pure : Prop := ∀ (a0 : Int) (a1 : ByteArray) (a2 : Int), (Lit.int .u8 a0).wf = true → a1.size ≤ 140737488351232 → (Lit.int .i64 a2).wf = true → ∃ k, copperplatelaw04_ScanTells.f k a0 a1 a2 = some true
theorem copperplatelaw04_ScanTells.walk (P : copperplatelaw04_ScanTells.Pure) (a0 : Int) (a1 : ByteArray) (a2 : Int) (w : World) (w0 : (Lit.int .u8 a0).wf = true) (w1 : a1.size ≤ 140737488351232) (w2 : (Lit.int .i64 a2).wf = true) :
    Calls Try.prog 3 #[.int .u8 a0, .string a1, .int .i64 a2] w fun e w' => e = .returned (.bool true) ∧ Below w.heap.size w w' := by
  obtain ⟨k, h⟩ := P a0 a1 a2 w0 w1 w2
  refine (copperplatelaw04_ScanTells.calls k a0 a1 a2 true w h).mono ?_
  rintro e w' ⟨rfl, hd⟩
  exact ⟨rfl, hd⟩

end Go.Proofs.Ytdhncfkbblfokaa.Q
