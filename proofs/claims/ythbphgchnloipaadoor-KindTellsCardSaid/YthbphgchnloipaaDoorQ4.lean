-- Printed for this seat by a program of this session (qprint.py), out of the translation; Lean checks it.
import Derived.Test.YthbphgchnloipaaDoorQ0
namespace Go.Proofs.YthbphgchnloipaaDoor.Q
open Go.Proofs.YthbphgchnloipaaDoor.G
open Go.RowKit Go.Proofs.YthbphgchnloipaaDoorW.PrintWords Go.Proofs.YthbphgchnloipaaDoorW.PrintLast Go.Proofs.YthbphgchnloipaaDoorW.PrintMore
attribute [local go_sem] max2_int min2_int max_two min_two max_three min_three max_four min_four   -- for this text's walks alone
set_option linter.unusedVariables false
set_option linter.unusedSimpArgs false

/-! ### copperplatelaw09_FewToks: function 9 -/
mutual
def copperplatelaw09_FewToks.l0 : Nat → List (S23) → Int → Option (Bool)
  | 0, _, _ => none
  | k + 1, x0, x3 => if x3 < (x0.length : Int) then (copperplatelaw09_FewToks.j1 k x0 x3 (decide (x3 ≤ 100))) else (copperplatelaw09_FewToks.j1 k x0 x3 false)
def copperplatelaw09_FewToks.j1 : Nat → List (S23) → Int → Bool → Option (Bool)
  | 0, _, _, _ => none
  | k + 1, x0, x3, x11 => if x11 = true then (if 0 ≤ x3 then (if x3 < (x0.length : Int) then (if (((rd_T23 x0 x3).f1).size : Int) > 600 then (some false) else (copperplatelaw09_FewToks.l0 k x0 (wrap64 (x3 + 1)))) else (none)) else (none)) else (some (decide ((x0.length : Int) ≤ 100)))
end
def copperplatelaw09_FewToks.f (k : Nat) (l0 : List (S23)) : Option (Bool) := copperplatelaw09_FewToks.l0 k l0 0
theorem copperplatelaw09_FewToks.mono_l : ∀ k, (∀ y0 y1, LeO (copperplatelaw09_FewToks.l0 k y0 y1) (copperplatelaw09_FewToks.l0 (k + 1) y0 y1)) ∧ (∀ y0 y1 y2, LeO (copperplatelaw09_FewToks.j1 k y0 y1 y2) (copperplatelaw09_FewToks.j1 (k + 1) y0 y1 y2))
  | 0 => ⟨fun _ _ r h => by simp [copperplatelaw09_FewToks.l0] at h, fun _ _ _ r h => by simp [copperplatelaw09_FewToks.j1] at h⟩
  | k + 1 => by
    obtain ⟨ih0, ih1⟩ := copperplatelaw09_FewToks.mono_l k
    refine ⟨?_, ?_⟩
    · intro y0 y1
      unfold copperplatelaw09_FewToks.l0
      repeat' first
      | (with_reducible exact ih0 _ _)
      | (with_reducible exact ih1 _ _ _)
      | (with_reducible exact LeO.refl _)
      | (with_reducible exact LeO.none _)
      | (with_reducible refine LeO.ite ?_ ?_)
      | (with_reducible refine LeO.bind ?_ (fun _ => ?_))
      | exact ih0 _ _
      | exact ih1 _ _ _
      | exact LeO.none _
      | refine LeO.ite ?_ ?_
      | refine LeO.bind ?_ (fun _ => ?_)
    · intro y0 y1 y2
      unfold copperplatelaw09_FewToks.j1
      repeat' first
      | (with_reducible exact ih0 _ _)
      | (with_reducible exact ih1 _ _ _)
      | (with_reducible exact LeO.refl _)
      | (with_reducible exact LeO.none _)
      | (with_reducible refine LeO.ite ?_ ?_)
      | (with_reducible refine LeO.bind ?_ (fun _ => ?_))
      | exact ih0 _ _
      | exact ih1 _ _ _
      | exact LeO.none _
      | refine LeO.ite ?_ ?_
      | refine LeO.bind ?_ (fun _ => ?_)
theorem copperplatelaw09_FewToks.mono : ∀ a0 k, LeO (copperplatelaw09_FewToks.f k a0) (copperplatelaw09_FewToks.f (k + 1) a0) := by
  intro a0 k
  obtain ⟨ih0, ih1⟩ := copperplatelaw09_FewToks.mono_l k
  unfold copperplatelaw09_FewToks.f
  repeat' first
      | (with_reducible exact ih0 _ _)
      | (with_reducible exact ih1 _ _ _)
      | (with_reducible exact LeO.refl _)
      | (with_reducible exact LeO.none _)
      | (with_reducible refine LeO.ite ?_ ?_)
      | (with_reducible refine LeO.bind ?_ (fun _ => ?_))
      | exact ih0 _ _
      | exact ih1 _ _ _
      | exact LeO.none _
      | refine LeO.ite ?_ ?_
      | refine LeO.bind ?_ (fun _ => ?_)
set_option maxHeartbeats 8000000 in
set_option maxRecDepth 100000 in
theorem copperplatelaw09_FewToks.calls (k : Nat) (A0 : Option Addr) (c0 : Nat) (l0 : List (S23)) (r : Bool) (w : World) (hr0 : Kd.C k23 w A0 l0.length l0) (hc0 : l0.length ≤ c0) (h : copperplatelaw09_FewToks.f k l0 = some r) :
    Calls Tryd.prog 9 #[.slice A0 l0.length c0] w fun e w' => e = .returned (.bool r) ∧ Drawn0 w w' := by
  have HR0 := Aside0.mk hr0
  have HC0 := Aside0.mk hc0
  clear hr0 hc0
  have H : (copperplatelaw09_FewToks.l0 k l0 0) = some r := h
  clear h
  have H' := Aside0.mk H
  clear H
  go_enter Tryd.func9, Tryd.ntmps9
  go_wp2
  go_loopg [3] k (fun kq v3 w' => ∃ (x3_1 : Int), v3 = .int .i64 x3_1 ∧ Aside0 (copperplatelaw09_FewToks.l0 kq l0 x3_1 = some r) ∧ Aside0 (kq ≤ k) ∧ Drawn0 w w')
  case atStart => exact ⟨(0), (by first | rfl | (simp; done) | (simp [*]; done)), H', ⟨Nat.le_refl _⟩, by repeat (first | exact Drawn0.refl _ | apply Drawn0.step)⟩
  case round =>
    clear H'
    obtain ⟨x3_1, rfl, HA, HK1, ⟨m1, rfl⟩⟩ := hrel
    cases gk with
    | zero => exact absurd HA.out (by simp [copperplatelaw09_FewToks.l0])
    | succ k1 =>
      have H := HA.out
      clear HA
      simp only [copperplatelaw09_FewToks.l0] at H
      have HC2 := Aside0.mk H
      clear H
      go_upto_region 2 with (fail)
      go_cut [11] (fun v11 wc => ∃ (kq : Nat) (x11_1 : Bool), v11 = .bool x11_1 ∧ Aside0 (copperplatelaw09_FewToks.j1 kq l0 x3_1 x11_1 = some r) ∧ Aside0 (kq ≤ k1) ∧ Drawn0 w wc)
      case first =>
        have H := HC2.out
        clear HC2
        by_cases c3 : x3_1 < (l0.length : Int)
        · rw [if_pos c3] at H
          have c3b0 : decide (x3_1 < (l0.length : Int)) = true := decide_eq_true c3
          clear c3
          (first | rw [c3b0] | (simp only [i64_w, i32_w]; rw [c3b0]) | skip)
          have H' := Aside0.mk H
          clear H
          go_wp2
          go_meet
          case rel => exact ⟨_, (decide (x3_1 ≤ 100)), (by first | rfl | (simp; done) | (simp [*]; done)), H', ⟨by have := HK1.out; first | omega | exact Nat.le_refl _⟩, by repeat (first | exact Drawn0.refl _ | apply Drawn0.step)⟩
        · rw [if_neg c3] at H
          have c3b0 : decide (x3_1 < (l0.length : Int)) = false := decide_eq_false c3
          clear c3
          (first | rw [c3b0] | (simp only [i64_w, i32_w]; rw [c3b0]) | skip)
          have H' := Aside0.mk H
          clear H
          go_wp2
          go_meet
          case rel => exact ⟨_, (false), (by first | rfl | (simp; done) | (simp [*]; done)), H', ⟨by have := HK1.out; first | omega | exact Nat.le_refl _⟩, by repeat (first | exact Drawn0.refl _ | apply Drawn0.step)⟩
      case rest =>
        clear HC2
        try clear p2
        try clear c3
        try clear c3b0
        obtain ⟨kq, x11_1, rfl, HA, HJ1, ⟨mc1, rfl⟩⟩ := hcut
        cases kq with
        | zero => exact absurd HA.out (by simp [copperplatelaw09_FewToks.j1])
        | succ kj1 =>
          have H := HA.out
          clear HA
          simp only [copperplatelaw09_FewToks.j1] at H
          by_cases c4 : x11_1 = true
          · subst c4
            have H1 : (if 0 ≤ x3_1 then (if x3_1 < (l0.length : Int) then (if (((rd_T23 l0 x3_1).f1).size : Int) > 600 then (some false) else (copperplatelaw09_FewToks.l0 kj1 l0 (wrap64 (x3_1 + 1)))) else (none)) else (none)) = some r := by rw [if_pos rfl] at H; exact H
            clear H
            have H := H1
            clear H1
            by_cases c5 : 0 ≤ x3_1
            · rw [if_pos c5] at H
              have c5b0 : decide (0 ≤ x3_1) = true := decide_eq_true c5
              clear c5
              by_cases c6 : x3_1 < (l0.length : Int)
              · rw [if_pos c6] at H
                have c6b0 : decide (x3_1 < (l0.length : Int)) = true := decide_eq_true c6
                clear c6
                by_cases c7 : (((rd_T23 l0 x3_1).f1).size : Int) > 600
                · rw [if_pos c7] at H
                  have c7b0 : decide (600 < (((rd_T23 l0 x3_1).f1).size : Int)) = true := decide_eq_true c7
                  have c7b1 : decide (600 < ((rd_T23 l0 x3_1).f1).size) = true := decide_eq_true (by omega)
                  clear c7
                  obtain rfl := Option.some.inj H
                  have p144 : 0 ≤ (x3_1 : Int) := of_decide_eq_true (by first | (with_reducible assumption) | assumption)
                  have q144 : x3_1 < (l0.length : Int) := of_decide_eq_true (by first | (with_reducible assumption) | assumption)
                  obtain ⟨ad144, e144, hx144_0, hx144_1, hx144_2, hx144_3⟩ := at_T23 HR0.out x3_1 p144 q144
                  cases e144
                  replace p144 := eq_true p144
                  replace q144 := eq_true q144
                  go_wp2
                  go_ret
                  exact ⟨by first | rfl | (simp; done) | (simp [*]; done), by repeat (first | exact Drawn0.refl _ | apply Drawn0.step)⟩
                · rw [if_neg c7] at H
                  have c7b0 : decide (600 < (((rd_T23 l0 x3_1).f1).size : Int)) = false := decide_eq_false c7
                  have c7b1 : decide (600 < ((rd_T23 l0 x3_1).f1).size) = false := decide_eq_false (by omega)
                  clear c7
                  have H' := Aside0.mk H
                  clear H
                  have p144 : 0 ≤ (x3_1 : Int) := of_decide_eq_true (by first | (with_reducible assumption) | assumption)
                  have q144 : x3_1 < (l0.length : Int) := of_decide_eq_true (by first | (with_reducible assumption) | assumption)
                  obtain ⟨ad144, e144, hx144_0, hx144_1, hx144_2, hx144_3⟩ := at_T23 HR0.out x3_1 p144 q144
                  cases e144
                  replace p144 := eq_true p144
                  replace q144 := eq_true q144
                  go_wp2
                  go_roundg kj1
                  case measure => have := HK1.out; have := HJ1.out; omega
                  case rel => exact ⟨(wrap64 (x3_1 + 1)), (by first | rfl | (simp; done) | (simp [*]; done)), H', ⟨by have := HK1.out; have := HJ1.out; omega⟩, by repeat (first | exact Drawn0.refl _ | apply Drawn0.step)⟩
              · rw [if_neg c6] at H
                exact absurd H (by simp)
            · rw [if_neg c5] at H
              exact absurd H (by simp)
          · replace c4 := Bool.eq_false_iff.mpr c4
            subst c4
            have H1 : (some (decide ((l0.length : Int) ≤ 100))) = some r := by rw [if_neg (show ¬ (false = true) by decide)] at H; exact H
            clear H
            have H := H1
            clear H1
            obtain rfl := Option.some.inj H
            go_wp2
            go_ret
            exact ⟨by first | rfl | (simp; done) | (simp [*]; done), by repeat (first | exact Drawn0.refl _ | apply Drawn0.step)⟩

/-! ### copperplateref10_name: function 19 -/
def copperplateref10_name.f (a0 : ByteArray) : Option (Int) := if a0.toList = ([113, 117, 101, 114, 121] : List UInt8) then (some 19) else (if a0.toList = ([109, 117, 116, 97, 116, 105, 111, 110] : List UInt8) then (some 20) else (if a0.toList = ([115, 117, 98, 115, 99, 114, 105, 112, 116, 105, 111, 110] : List UInt8) then (some 21) else (if a0.toList = ([102, 114, 97, 103, 109, 101, 110, 116] : List UInt8) then (some 22) else (if a0.toList = ([111, 110] : List UInt8) then (some 23) else (if a0.toList = ([116, 121, 112, 101] : List UInt8) then (some 24) else (if a0.toList = ([105, 110, 116, 101, 114, 102, 97, 99, 101] : List UInt8) then (some 25) else (if a0.toList = ([101, 110, 117, 109] : List UInt8) then (some 26) else (if a0.toList = ([117, 110, 105, 111, 110] : List UInt8) then (some 27) else (if a0.toList = ([105, 110, 112, 117, 116] : List UInt8) then (some 28) else (if a0.toList = ([115, 99, 97, 108, 97, 114] : List UInt8) then (some 29) else (if a0.toList = ([105, 109, 112, 108, 101, 109, 101, 110, 116, 115] : List UInt8) then (some 30) else (some 18))))))))))))
set_option maxHeartbeats 8000000 in
set_option maxRecDepth 100000 in
theorem copperplateref10_name.calls (a0 : ByteArray) (r : Int) (w : World) (h : copperplateref10_name.f a0 = some r) :
    Calls Tryd.prog 19 #[.string a0] w fun e w' => e = .returned (.int .i64 r) ∧ Drawn0 w w' := by
  have H : (if a0.toList = ([113, 117, 101, 114, 121] : List UInt8) then (some 19) else (if a0.toList = ([109, 117, 116, 97, 116, 105, 111, 110] : List UInt8) then (some 20) else (if a0.toList = ([115, 117, 98, 115, 99, 114, 105, 112, 116, 105, 111, 110] : List UInt8) then (some 21) else (if a0.toList = ([102, 114, 97, 103, 109, 101, 110, 116] : List UInt8) then (some 22) else (if a0.toList = ([111, 110] : List UInt8) then (some 23) else (if a0.toList = ([116, 121, 112, 101] : List UInt8) then (some 24) else (if a0.toList = ([105, 110, 116, 101, 114, 102, 97, 99, 101] : List UInt8) then (some 25) else (if a0.toList = ([101, 110, 117, 109] : List UInt8) then (some 26) else (if a0.toList = ([117, 110, 105, 111, 110] : List UInt8) then (some 27) else (if a0.toList = ([105, 110, 112, 117, 116] : List UInt8) then (some 28) else (if a0.toList = ([115, 99, 97, 108, 97, 114] : List UInt8) then (some 29) else (if a0.toList = ([105, 109, 112, 108, 101, 109, 101, 110, 116, 115] : List UInt8) then (some 30) else (some 18))))))))))))) = some r := h
  clear h
  by_cases c2 : a0.toList = ([113, 117, 101, 114, 121] : List UInt8)
  · rw [if_pos c2] at H
    have c2b0 : (a0.toList == ([113, 117, 101, 114, 121] : List UInt8)) = true := beq_iff_eq.mpr c2
    have c2b1 : (a0.toList != ([113, 117, 101, 114, 121] : List UInt8)) = false := bne_eq_false_iff_eq.mpr c2
    clear c2
    obtain rfl := Option.some.inj H
    go_enter Tryd.func19, Tryd.ntmps19
    go_wp2
    go_ret
    exact ⟨by first | rfl | (simp; done) | (simp [*]; done), by repeat (first | exact Drawn0.refl _ | apply Drawn0.step)⟩
  · rw [if_neg c2] at H
    have c2b0 : (a0.toList == ([113, 117, 101, 114, 121] : List UInt8)) = false := beq_eq_false_iff_ne.mpr c2
    have c2b1 : (a0.toList != ([113, 117, 101, 114, 121] : List UInt8)) = true := bne_iff_ne.mpr c2
    by_cases c3 : a0.toList = ([109, 117, 116, 97, 116, 105, 111, 110] : List UInt8)
    · rw [if_pos c3] at H
      have c3b0 : (a0.toList == ([109, 117, 116, 97, 116, 105, 111, 110] : List UInt8)) = true := beq_iff_eq.mpr c3
      have c3b1 : (a0.toList != ([109, 117, 116, 97, 116, 105, 111, 110] : List UInt8)) = false := bne_eq_false_iff_eq.mpr c3
      clear c3
      obtain rfl := Option.some.inj H
      go_enter Tryd.func19, Tryd.ntmps19
      go_wp2
      go_ret
      exact ⟨by first | rfl | (simp; done) | (simp [*]; done), by repeat (first | exact Drawn0.refl _ | apply Drawn0.step)⟩
    · rw [if_neg c3] at H
      have c3b0 : (a0.toList == ([109, 117, 116, 97, 116, 105, 111, 110] : List UInt8)) = false := beq_eq_false_iff_ne.mpr c3
      have c3b1 : (a0.toList != ([109, 117, 116, 97, 116, 105, 111, 110] : List UInt8)) = true := bne_iff_ne.mpr c3
      by_cases c4 : a0.toList = ([115, 117, 98, 115, 99, 114, 105, 112, 116, 105, 111, 110] : List UInt8)
      · rw [if_pos c4] at H
        have c4b0 : (a0.toList == ([115, 117, 98, 115, 99, 114, 105, 112, 116, 105, 111, 110] : List UInt8)) = true := beq_iff_eq.mpr c4
        have c4b1 : (a0.toList != ([115, 117, 98, 115, 99, 114, 105, 112, 116, 105, 111, 110] : List UInt8)) = false := bne_eq_false_iff_eq.mpr c4
        clear c4
        obtain rfl := Option.some.inj H
        go_enter Tryd.func19, Tryd.ntmps19
        go_wp2
        go_ret
        exact ⟨by first | rfl | (simp; done) | (simp [*]; done), by repeat (first | exact Drawn0.refl _ | apply Drawn0.step)⟩
      · rw [if_neg c4] at H
        have c4b0 : (a0.toList == ([115, 117, 98, 115, 99, 114, 105, 112, 116, 105, 111, 110] : List UInt8)) = false := beq_eq_false_iff_ne.mpr c4
        have c4b1 : (a0.toList != ([115, 117, 98, 115, 99, 114, 105, 112, 116, 105, 111, 110] : List UInt8)) = true := bne_iff_ne.mpr c4
        by_cases c5 : a0.toList = ([102, 114, 97, 103, 109, 101, 110, 116] : List UInt8)
        · rw [if_pos c5] at H
          have c5b0 : (a0.toList == ([102, 114, 97, 103, 109, 101, 110, 116] : List UInt8)) = true := beq_iff_eq.mpr c5
          have c5b1 : (a0.toList != ([102, 114, 97, 103, 109, 101, 110, 116] : List UInt8)) = false := bne_eq_false_iff_eq.mpr c5
          clear c5
          obtain rfl := Option.some.inj H
          go_enter Tryd.func19, Tryd.ntmps19
          go_wp2
          go_ret
          exact ⟨by first | rfl | (simp; done) | (simp [*]; done), by repeat (first | exact Drawn0.refl _ | apply Drawn0.step)⟩
        · rw [if_neg c5] at H
          have c5b0 : (a0.toList == ([102, 114, 97, 103, 109, 101, 110, 116] : List UInt8)) = false := beq_eq_false_iff_ne.mpr c5
          have c5b1 : (a0.toList != ([102, 114, 97, 103, 109, 101, 110, 116] : List UInt8)) = true := bne_iff_ne.mpr c5
          by_cases c6 : a0.toList = ([111, 110] : List UInt8)
          · rw [if_pos c6] at H
            have c6b0 : (a0.toList == ([111, 110] : List UInt8)) = true := beq_iff_eq.mpr c6
            have c6b1 : (a0.toList != ([111, 110] : List UInt8)) = false := bne_eq_false_iff_eq.mpr c6
            clear c6
            obtain rfl := Option.some.inj H
            go_enter Tryd.func19, Tryd.ntmps19
            go_wp2
            go_ret
            exact ⟨by first | rfl | (simp; done) | (simp [*]; done), by repeat (first | exact Drawn0.refl _ | apply Drawn0.step)⟩
          · rw [if_neg c6] at H
            have c6b0 : (a0.toList == ([111, 110] : List UInt8)) = false := beq_eq_false_iff_ne.mpr c6
            have c6b1 : (a0.toList != ([111, 110] : List UInt8)) = true := bne_iff_ne.mpr c6
            by_cases c7 : a0.toList = ([116, 121, 112, 101] : List UInt8)
            · rw [if_pos c7] at H
              have c7b0 : (a0.toList == ([116, 121, 112, 101] : List UInt8)) = true := beq_iff_eq.mpr c7
              have c7b1 : (a0.toList != ([116, 121, 112, 101] : List UInt8)) = false := bne_eq_false_iff_eq.mpr c7
              clear c7
              obtain rfl := Option.some.inj H
              go_enter Tryd.func19, Tryd.ntmps19
              go_wp2
              go_ret
              exact ⟨by first | rfl | (simp; done) | (simp [*]; done), by repeat (first | exact Drawn0.refl _ | apply Drawn0.step)⟩
            · rw [if_neg c7] at H
              have c7b0 : (a0.toList == ([116, 121, 112, 101] : List UInt8)) = false := beq_eq_false_iff_ne.mpr c7
              have c7b1 : (a0.toList != ([116, 121, 112, 101] : List UInt8)) = true := bne_iff_ne.mpr c7
              by_cases c8 : a0.toList = ([105, 110, 116, 101, 114, 102, 97, 99, 101] : List UInt8)
              · rw [if_pos c8] at H
                have c8b0 : (a0.toList == ([105, 110, 116, 101, 114, 102, 97, 99, 101] : List UInt8)) = true := beq_iff_eq.mpr c8
                have c8b1 : (a0.toList != ([105, 110, 116, 101, 114, 102, 97, 99, 101] : List UInt8)) = false := bne_eq_false_iff_eq.mpr c8
                clear c8
                obtain rfl := Option.some.inj H
                go_enter Tryd.func19, Tryd.ntmps19
                go_wp2
                go_ret
                exact ⟨by first | rfl | (simp; done) | (simp [*]; done), by repeat (first | exact Drawn0.refl _ | apply Drawn0.step)⟩
              · rw [if_neg c8] at H
                have c8b0 : (a0.toList == ([105, 110, 116, 101, 114, 102, 97, 99, 101] : List UInt8)) = false := beq_eq_false_iff_ne.mpr c8
                have c8b1 : (a0.toList != ([105, 110, 116, 101, 114, 102, 97, 99, 101] : List UInt8)) = true := bne_iff_ne.mpr c8
                by_cases c9 : a0.toList = ([101, 110, 117, 109] : List UInt8)
                · rw [if_pos c9] at H
                  have c9b0 : (a0.toList == ([101, 110, 117, 109] : List UInt8)) = true := beq_iff_eq.mpr c9
                  have c9b1 : (a0.toList != ([101, 110, 117, 109] : List UInt8)) = false := bne_eq_false_iff_eq.mpr c9
                  clear c9
                  obtain rfl := Option.some.inj H
                  go_enter Tryd.func19, Tryd.ntmps19
                  go_wp2
                  go_ret
                  exact ⟨by first | rfl | (simp; done) | (simp [*]; done), by repeat (first | exact Drawn0.refl _ | apply Drawn0.step)⟩
                · rw [if_neg c9] at H
                  have c9b0 : (a0.toList == ([101, 110, 117, 109] : List UInt8)) = false := beq_eq_false_iff_ne.mpr c9
                  have c9b1 : (a0.toList != ([101, 110, 117, 109] : List UInt8)) = true := bne_iff_ne.mpr c9
                  by_cases c10 : a0.toList = ([117, 110, 105, 111, 110] : List UInt8)
                  · rw [if_pos c10] at H
                    have c10b0 : (a0.toList == ([117, 110, 105, 111, 110] : List UInt8)) = true := beq_iff_eq.mpr c10
                    have c10b1 : (a0.toList != ([117, 110, 105, 111, 110] : List UInt8)) = false := bne_eq_false_iff_eq.mpr c10
                    clear c10
                    obtain rfl := Option.some.inj H
                    go_enter Tryd.func19, Tryd.ntmps19
                    go_wp2
                    go_ret
                    exact ⟨by first | rfl | (simp; done) | (simp [*]; done), by repeat (first | exact Drawn0.refl _ | apply Drawn0.step)⟩
                  · rw [if_neg c10] at H
                    have c10b0 : (a0.toList == ([117, 110, 105, 111, 110] : List UInt8)) = false := beq_eq_false_iff_ne.mpr c10
                    have c10b1 : (a0.toList != ([117, 110, 105, 111, 110] : List UInt8)) = true := bne_iff_ne.mpr c10
                    by_cases c11 : a0.toList = ([105, 110, 112, 117, 116] : List UInt8)
                    · rw [if_pos c11] at H
                      have c11b0 : (a0.toList == ([105, 110, 112, 117, 116] : List UInt8)) = true := beq_iff_eq.mpr c11
                      have c11b1 : (a0.toList != ([105, 110, 112, 117, 116] : List UInt8)) = false := bne_eq_false_iff_eq.mpr c11
                      clear c11
                      obtain rfl := Option.some.inj H
                      go_enter Tryd.func19, Tryd.ntmps19
                      go_wp2
                      go_ret
                      exact ⟨by first | rfl | (simp; done) | (simp [*]; done), by repeat (first | exact Drawn0.refl _ | apply Drawn0.step)⟩
                    · rw [if_neg c11] at H
                      have c11b0 : (a0.toList == ([105, 110, 112, 117, 116] : List UInt8)) = false := beq_eq_false_iff_ne.mpr c11
                      have c11b1 : (a0.toList != ([105, 110, 112, 117, 116] : List UInt8)) = true := bne_iff_ne.mpr c11
                      by_cases c12 : a0.toList = ([115, 99, 97, 108, 97, 114] : List UInt8)
                      · rw [if_pos c12] at H
                        have c12b0 : (a0.toList == ([115, 99, 97, 108, 97, 114] : List UInt8)) = true := beq_iff_eq.mpr c12
                        have c12b1 : (a0.toList != ([115, 99, 97, 108, 97, 114] : List UInt8)) = false := bne_eq_false_iff_eq.mpr c12
                        clear c12
                        obtain rfl := Option.some.inj H
                        go_enter Tryd.func19, Tryd.ntmps19
                        go_wp2
                        go_ret
                        exact ⟨by first | rfl | (simp; done) | (simp [*]; done), by repeat (first | exact Drawn0.refl _ | apply Drawn0.step)⟩
                      · rw [if_neg c12] at H
                        have c12b0 : (a0.toList == ([115, 99, 97, 108, 97, 114] : List UInt8)) = false := beq_eq_false_iff_ne.mpr c12
                        have c12b1 : (a0.toList != ([115, 99, 97, 108, 97, 114] : List UInt8)) = true := bne_iff_ne.mpr c12
                        by_cases c13 : a0.toList = ([105, 109, 112, 108, 101, 109, 101, 110, 116, 115] : List UInt8)
                        · rw [if_pos c13] at H
                          have c13b0 : (a0.toList == ([105, 109, 112, 108, 101, 109, 101, 110, 116, 115] : List UInt8)) = true := beq_iff_eq.mpr c13
                          have c13b1 : (a0.toList != ([105, 109, 112, 108, 101, 109, 101, 110, 116, 115] : List UInt8)) = false := bne_eq_false_iff_eq.mpr c13
                          clear c13
                          obtain rfl := Option.some.inj H
                          go_enter Tryd.func19, Tryd.ntmps19
                          go_wp2
                          go_ret
                          exact ⟨by first | rfl | (simp; done) | (simp [*]; done), by repeat (first | exact Drawn0.refl _ | apply Drawn0.step)⟩
                        · rw [if_neg c13] at H
                          have c13b0 : (a0.toList == ([105, 109, 112, 108, 101, 109, 101, 110, 116, 115] : List UInt8)) = false := beq_eq_false_iff_ne.mpr c13
                          have c13b1 : (a0.toList != ([105, 109, 112, 108, 101, 109, 101, 110, 116, 115] : List UInt8)) = true := bne_iff_ne.mpr c13
                          obtain rfl := Option.some.inj H
                          go_enter Tryd.func19, Tryd.ntmps19
                          go_wp2
                          go_ret
                          exact ⟨by first | rfl | (simp; done) | (simp [*]; done), by repeat (first | exact Drawn0.refl _ | apply Drawn0.step)⟩

/-! ### copperplateref10_punct: function 20 -/
def copperplateref10_punct.f (a0 : ByteArray) : Option (Int) := if a0.toList = ([33] : List UInt8) then (some 1) else (if a0.toList = ([36] : List UInt8) then (some 2) else (if a0.toList = ([38] : List UInt8) then (some 3) else (if a0.toList = ([40] : List UInt8) then (some 4) else (if a0.toList = ([41] : List UInt8) then (some 5) else (if a0.toList = ([46, 46, 46] : List UInt8) then (some 6) else (if a0.toList = ([58] : List UInt8) then (some 7) else (if a0.toList = ([61] : List UInt8) then (some 8) else (if a0.toList = ([64] : List UInt8) then (some 9) else (if a0.toList = ([91] : List UInt8) then (some 10) else (if a0.toList = ([93] : List UInt8) then (some 11) else (if a0.toList = ([123] : List UInt8) then (some 12) else (if a0.toList = ([124] : List UInt8) then (some 13) else (if a0.toList = ([125] : List UInt8) then (some 14) else (some 0))))))))))))))
set_option maxHeartbeats 8000000 in
set_option maxRecDepth 100000 in
theorem copperplateref10_punct.calls (a0 : ByteArray) (r : Int) (w : World) (h : copperplateref10_punct.f a0 = some r) :
    Calls Tryd.prog 20 #[.string a0] w fun e w' => e = .returned (.int .i64 r) ∧ Drawn0 w w' := by
  have H : (if a0.toList = ([33] : List UInt8) then (some 1) else (if a0.toList = ([36] : List UInt8) then (some 2) else (if a0.toList = ([38] : List UInt8) then (some 3) else (if a0.toList = ([40] : List UInt8) then (some 4) else (if a0.toList = ([41] : List UInt8) then (some 5) else (if a0.toList = ([46, 46, 46] : List UInt8) then (some 6) else (if a0.toList = ([58] : List UInt8) then (some 7) else (if a0.toList = ([61] : List UInt8) then (some 8) else (if a0.toList = ([64] : List UInt8) then (some 9) else (if a0.toList = ([91] : List UInt8) then (some 10) else (if a0.toList = ([93] : List UInt8) then (some 11) else (if a0.toList = ([123] : List UInt8) then (some 12) else (if a0.toList = ([124] : List UInt8) then (some 13) else (if a0.toList = ([125] : List UInt8) then (some 14) else (some 0))))))))))))))) = some r := h
  clear h
  by_cases c2 : a0.toList = ([33] : List UInt8)
  · rw [if_pos c2] at H
    have c2b0 : (a0.toList == ([33] : List UInt8)) = true := beq_iff_eq.mpr c2
    have c2b1 : (a0.toList != ([33] : List UInt8)) = false := bne_eq_false_iff_eq.mpr c2
    clear c2
    obtain rfl := Option.some.inj H
    go_enter Tryd.func20, Tryd.ntmps20
    go_wp2
    go_ret
    exact ⟨by first | rfl | (simp; done) | (simp [*]; done), by repeat (first | exact Drawn0.refl _ | apply Drawn0.step)⟩
  · rw [if_neg c2] at H
    have c2b0 : (a0.toList == ([33] : List UInt8)) = false := beq_eq_false_iff_ne.mpr c2
    have c2b1 : (a0.toList != ([33] : List UInt8)) = true := bne_iff_ne.mpr c2
    by_cases c3 : a0.toList = ([36] : List UInt8)
    · rw [if_pos c3] at H
      have c3b0 : (a0.toList == ([36] : List UInt8)) = true := beq_iff_eq.mpr c3
      have c3b1 : (a0.toList != ([36] : List UInt8)) = false := bne_eq_false_iff_eq.mpr c3
      clear c3
      obtain rfl := Option.some.inj H
      go_enter Tryd.func20, Tryd.ntmps20
      go_wp2
      go_ret
      exact ⟨by first | rfl | (simp; done) | (simp [*]; done), by repeat (first | exact Drawn0.refl _ | apply Drawn0.step)⟩
    · rw [if_neg c3] at H
      have c3b0 : (a0.toList == ([36] : List UInt8)) = false := beq_eq_false_iff_ne.mpr c3
      have c3b1 : (a0.toList != ([36] : List UInt8)) = true := bne_iff_ne.mpr c3
      by_cases c4 : a0.toList = ([38] : List UInt8)
      · rw [if_pos c4] at H
        have c4b0 : (a0.toList == ([38] : List UInt8)) = true := beq_iff_eq.mpr c4
        have c4b1 : (a0.toList != ([38] : List UInt8)) = false := bne_eq_false_iff_eq.mpr c4
        clear c4
        obtain rfl := Option.some.inj H
        go_enter Tryd.func20, Tryd.ntmps20
        go_wp2
        go_ret
        exact ⟨by first | rfl | (simp; done) | (simp [*]; done), by repeat (first | exact Drawn0.refl _ | apply Drawn0.step)⟩
      · rw [if_neg c4] at H
        have c4b0 : (a0.toList == ([38] : List UInt8)) = false := beq_eq_false_iff_ne.mpr c4
        have c4b1 : (a0.toList != ([38] : List UInt8)) = true := bne_iff_ne.mpr c4
        by_cases c5 : a0.toList = ([40] : List UInt8)
        · rw [if_pos c5] at H
          have c5b0 : (a0.toList == ([40] : List UInt8)) = true := beq_iff_eq.mpr c5
          have c5b1 : (a0.toList != ([40] : List UInt8)) = false := bne_eq_false_iff_eq.mpr c5
          clear c5
          obtain rfl := Option.some.inj H
          go_enter Tryd.func20, Tryd.ntmps20
          go_wp2
          go_ret
          exact ⟨by first | rfl | (simp; done) | (simp [*]; done), by repeat (first | exact Drawn0.refl _ | apply Drawn0.step)⟩
        · rw [if_neg c5] at H
          have c5b0 : (a0.toList == ([40] : List UInt8)) = false := beq_eq_false_iff_ne.mpr c5
          have c5b1 : (a0.toList != ([40] : List UInt8)) = true := bne_iff_ne.mpr c5
          by_cases c6 : a0.toList = ([41] : List UInt8)
          · rw [if_pos c6] at H
            have c6b0 : (a0.toList == ([41] : List UInt8)) = true := beq_iff_eq.mpr c6
            have c6b1 : (a0.toList != ([41] : List UInt8)) = false := bne_eq_false_iff_eq.mpr c6
            clear c6
            obtain rfl := Option.some.inj H
            go_enter Tryd.func20, Tryd.ntmps20
            go_wp2
            go_ret
            exact ⟨by first | rfl | (simp; done) | (simp [*]; done), by repeat (first | exact Drawn0.refl _ | apply Drawn0.step)⟩
          · rw [if_neg c6] at H
            have c6b0 : (a0.toList == ([41] : List UInt8)) = false := beq_eq_false_iff_ne.mpr c6
            have c6b1 : (a0.toList != ([41] : List UInt8)) = true := bne_iff_ne.mpr c6
            by_cases c7 : a0.toList = ([46, 46, 46] : List UInt8)
            · rw [if_pos c7] at H
              have c7b0 : (a0.toList == ([46, 46, 46] : List UInt8)) = true := beq_iff_eq.mpr c7
              have c7b1 : (a0.toList != ([46, 46, 46] : List UInt8)) = false := bne_eq_false_iff_eq.mpr c7
              clear c7
              obtain rfl := Option.some.inj H
              go_enter Tryd.func20, Tryd.ntmps20
              go_wp2
              go_ret
              exact ⟨by first | rfl | (simp; done) | (simp [*]; done), by repeat (first | exact Drawn0.refl _ | apply Drawn0.step)⟩
            · rw [if_neg c7] at H
              have c7b0 : (a0.toList == ([46, 46, 46] : List UInt8)) = false := beq_eq_false_iff_ne.mpr c7
              have c7b1 : (a0.toList != ([46, 46, 46] : List UInt8)) = true := bne_iff_ne.mpr c7
              by_cases c8 : a0.toList = ([58] : List UInt8)
              · rw [if_pos c8] at H
                have c8b0 : (a0.toList == ([58] : List UInt8)) = true := beq_iff_eq.mpr c8
                have c8b1 : (a0.toList != ([58] : List UInt8)) = false := bne_eq_false_iff_eq.mpr c8
                clear c8
                obtain rfl := Option.some.inj H
                go_enter Tryd.func20, Tryd.ntmps20
                go_wp2
                go_ret
                exact ⟨by first | rfl | (simp; done) | (simp [*]; done), by repeat (first | exact Drawn0.refl _ | apply Drawn0.step)⟩
              · rw [if_neg c8] at H
                have c8b0 : (a0.toList == ([58] : List UInt8)) = false := beq_eq_false_iff_ne.mpr c8
                have c8b1 : (a0.toList != ([58] : List UInt8)) = true := bne_iff_ne.mpr c8
                by_cases c9 : a0.toList = ([61] : List UInt8)
                · rw [if_pos c9] at H
                  have c9b0 : (a0.toList == ([61] : List UInt8)) = true := beq_iff_eq.mpr c9
                  have c9b1 : (a0.toList != ([61] : List UInt8)) = false := bne_eq_false_iff_eq.mpr c9
                  clear c9
                  obtain rfl := Option.some.inj H
                  go_enter Tryd.func20, Tryd.ntmps20
                  go_wp2
                  go_ret
                  exact ⟨by first | rfl | (simp; done) | (simp [*]; done), by repeat (first | exact Drawn0.refl _ | apply Drawn0.step)⟩
                · rw [if_neg c9] at H
                  have c9b0 : (a0.toList == ([61] : List UInt8)) = false := beq_eq_false_iff_ne.mpr c9
                  have c9b1 : (a0.toList != ([61] : List UInt8)) = true := bne_iff_ne.mpr c9
                  by_cases c10 : a0.toList = ([64] : List UInt8)
                  · rw [if_pos c10] at H
                    have c10b0 : (a0.toList == ([64] : List UInt8)) = true := beq_iff_eq.mpr c10
                    have c10b1 : (a0.toList != ([64] : List UInt8)) = false := bne_eq_false_iff_eq.mpr c10
                    clear c10
                    obtain rfl := Option.some.inj H
                    go_enter Tryd.func20, Tryd.ntmps20
                    go_wp2
                    go_ret
                    exact ⟨by first | rfl | (simp; done) | (simp [*]; done), by repeat (first | exact Drawn0.refl _ | apply Drawn0.step)⟩
                  · rw [if_neg c10] at H
                    have c10b0 : (a0.toList == ([64] : List UInt8)) = false := beq_eq_false_iff_ne.mpr c10
                    have c10b1 : (a0.toList != ([64] : List UInt8)) = true := bne_iff_ne.mpr c10
                    by_cases c11 : a0.toList = ([91] : List UInt8)
                    · rw [if_pos c11] at H
                      have c11b0 : (a0.toList == ([91] : List UInt8)) = true := beq_iff_eq.mpr c11
                      have c11b1 : (a0.toList != ([91] : List UInt8)) = false := bne_eq_false_iff_eq.mpr c11
                      clear c11
                      obtain rfl := Option.some.inj H
                      go_enter Tryd.func20, Tryd.ntmps20
                      go_wp2
                      go_ret
                      exact ⟨by first | rfl | (simp; done) | (simp [*]; done), by repeat (first | exact Drawn0.refl _ | apply Drawn0.step)⟩
                    · rw [if_neg c11] at H
                      have c11b0 : (a0.toList == ([91] : List UInt8)) = false := beq_eq_false_iff_ne.mpr c11
                      have c11b1 : (a0.toList != ([91] : List UInt8)) = true := bne_iff_ne.mpr c11
                      by_cases c12 : a0.toList = ([93] : List UInt8)
                      · rw [if_pos c12] at H
                        have c12b0 : (a0.toList == ([93] : List UInt8)) = true := beq_iff_eq.mpr c12
                        have c12b1 : (a0.toList != ([93] : List UInt8)) = false := bne_eq_false_iff_eq.mpr c12
                        clear c12
                        obtain rfl := Option.some.inj H
                        go_enter Tryd.func20, Tryd.ntmps20
                        go_wp2
                        go_ret
                        exact ⟨by first | rfl | (simp; done) | (simp [*]; done), by repeat (first | exact Drawn0.refl _ | apply Drawn0.step)⟩
                      · rw [if_neg c12] at H
                        have c12b0 : (a0.toList == ([93] : List UInt8)) = false := beq_eq_false_iff_ne.mpr c12
                        have c12b1 : (a0.toList != ([93] : List UInt8)) = true := bne_iff_ne.mpr c12
                        by_cases c13 : a0.toList = ([123] : List UInt8)
                        · rw [if_pos c13] at H
                          have c13b0 : (a0.toList == ([123] : List UInt8)) = true := beq_iff_eq.mpr c13
                          have c13b1 : (a0.toList != ([123] : List UInt8)) = false := bne_eq_false_iff_eq.mpr c13
                          clear c13
                          obtain rfl := Option.some.inj H
                          go_enter Tryd.func20, Tryd.ntmps20
                          go_wp2
                          go_ret
                          exact ⟨by first | rfl | (simp; done) | (simp [*]; done), by repeat (first | exact Drawn0.refl _ | apply Drawn0.step)⟩
                        · rw [if_neg c13] at H
                          have c13b0 : (a0.toList == ([123] : List UInt8)) = false := beq_eq_false_iff_ne.mpr c13
                          have c13b1 : (a0.toList != ([123] : List UInt8)) = true := bne_iff_ne.mpr c13
                          by_cases c14 : a0.toList = ([124] : List UInt8)
                          · rw [if_pos c14] at H
                            have c14b0 : (a0.toList == ([124] : List UInt8)) = true := beq_iff_eq.mpr c14
                            have c14b1 : (a0.toList != ([124] : List UInt8)) = false := bne_eq_false_iff_eq.mpr c14
                            clear c14
                            obtain rfl := Option.some.inj H
                            go_enter Tryd.func20, Tryd.ntmps20
                            go_wp2
                            go_ret
                            exact ⟨by first | rfl | (simp; done) | (simp [*]; done), by repeat (first | exact Drawn0.refl _ | apply Drawn0.step)⟩
                          · rw [if_neg c14] at H
                            have c14b0 : (a0.toList == ([124] : List UInt8)) = false := beq_eq_false_iff_ne.mpr c14
                            have c14b1 : (a0.toList != ([124] : List UInt8)) = true := bne_iff_ne.mpr c14
                            by_cases c15 : a0.toList = ([125] : List UInt8)
                            · rw [if_pos c15] at H
                              have c15b0 : (a0.toList == ([125] : List UInt8)) = true := beq_iff_eq.mpr c15
                              have c15b1 : (a0.toList != ([125] : List UInt8)) = false := bne_eq_false_iff_eq.mpr c15
                              clear c15
                              obtain rfl := Option.some.inj H
                              go_enter Tryd.func20, Tryd.ntmps20
                              go_wp2
                              go_ret
                              exact ⟨by first | rfl | (simp; done) | (simp [*]; done), by repeat (first | exact Drawn0.refl _ | apply Drawn0.step)⟩
                            · rw [if_neg c15] at H
                              have c15b0 : (a0.toList == ([125] : List UInt8)) = false := beq_eq_false_iff_ne.mpr c15
                              have c15b1 : (a0.toList != ([125] : List UInt8)) = true := bne_iff_ne.mpr c15
                              obtain rfl := Option.some.inj H
                              go_enter Tryd.func20, Tryd.ntmps20
                              go_wp2
                              go_ret
                              exact ⟨by first | rfl | (simp; done) | (simp [*]; done), by repeat (first | exact Drawn0.refl _ | apply Drawn0.step)⟩

/-! ### copperplateref10_Text: function 11 -/
def copperplateref10_Text.l0 : Nat → Int → List ByteArray → Int → Option (ByteArray × Bool)
  | 0, _, _, _ => none
  | k + 1, x0, x4, x5 => if x5 < (x4.length : Int) then (if 0 ≤ x5 then ((copperplateref10_name.f (rdOf ByteArray.empty x4 x5)).bind fun t149 => (if x5 < 14 then ((copperplateref10_punct.f (rdOf ByteArray.empty x4 x5)).bind fun t151 => (if t151 = x0 then (some (rdOf ByteArray.empty x4 x5, true)) else (copperplateref10_Text.l0 k x0 x4 (wrap64 (x5 + 1))))) else (if t149 = x0 then (some (rdOf ByteArray.empty x4 x5, true)) else (copperplateref10_Text.l0 k x0 x4 (wrap64 (x5 + 1)))))) else (none)) else (some ((⟨#[]⟩ : ByteArray), false))
def copperplateref10_Text.f (k : Nat) (a0 : Int) : Option (ByteArray × Bool) := copperplateref10_Text.l0 k a0 (([(⟨#[33]⟩ : ByteArray), (⟨#[36]⟩ : ByteArray), (⟨#[38]⟩ : ByteArray), (⟨#[40]⟩ : ByteArray), (⟨#[41]⟩ : ByteArray), (⟨#[46, 46, 46]⟩ : ByteArray), (⟨#[58]⟩ : ByteArray), (⟨#[61]⟩ : ByteArray), (⟨#[64]⟩ : ByteArray), (⟨#[91]⟩ : ByteArray), (⟨#[93]⟩ : ByteArray), (⟨#[123]⟩ : ByteArray), (⟨#[124]⟩ : ByteArray), (⟨#[125]⟩ : ByteArray), (⟨#[113, 117, 101, 114, 121]⟩ : ByteArray), (⟨#[109, 117, 116, 97, 116, 105, 111, 110]⟩ : ByteArray), (⟨#[115, 117, 98, 115, 99, 114, 105, 112, 116, 105, 111, 110]⟩ : ByteArray), (⟨#[102, 114, 97, 103, 109, 101, 110, 116]⟩ : ByteArray), (⟨#[111, 110]⟩ : ByteArray), (⟨#[116, 121, 112, 101]⟩ : ByteArray), (⟨#[105, 110, 116, 101, 114, 102, 97, 99, 101]⟩ : ByteArray), (⟨#[101, 110, 117, 109]⟩ : ByteArray), (⟨#[117, 110, 105, 111, 110]⟩ : ByteArray), (⟨#[105, 110, 112, 117, 116]⟩ : ByteArray), (⟨#[115, 99, 97, 108, 97, 114]⟩ : ByteArray), (⟨#[105, 109, 112, 108, 101, 109, 101, 110, 116, 115]⟩ : ByteArray)] : List ByteArray)) 0
theorem copperplateref10_Text.mono_l : ∀ k, (∀ y0 y1 y2, LeO (copperplateref10_Text.l0 k y0 y1 y2) (copperplateref10_Text.l0 (k + 1) y0 y1 y2))
  | 0 => fun _ _ _ r h => by simp [copperplateref10_Text.l0] at h
  | k + 1 => by
    have ih0 := copperplateref10_Text.mono_l k
    · intro y0 y1 y2
      unfold copperplateref10_Text.l0
      repeat' first
      | (with_reducible exact ih0 _ _ _)
      | (with_reducible exact LeO.refl _)
      | (with_reducible exact LeO.none _)
      | (with_reducible refine LeO.ite ?_ ?_)
      | (with_reducible refine LeO.bind ?_ (fun _ => ?_))
      | exact ih0 _ _ _
      | exact LeO.none _
      | refine LeO.ite ?_ ?_
      | refine LeO.bind ?_ (fun _ => ?_)
theorem copperplateref10_Text.mono : ∀ a0 k, LeO (copperplateref10_Text.f k a0) (copperplateref10_Text.f (k + 1) a0) := by
  intro a0 k
  have ih0 := copperplateref10_Text.mono_l k
  unfold copperplateref10_Text.f
  repeat' first
      | (with_reducible exact ih0 _ _ _)
      | (with_reducible exact LeO.refl _)
      | (with_reducible exact LeO.none _)
      | (with_reducible refine LeO.ite ?_ ?_)
      | (with_reducible refine LeO.bind ?_ (fun _ => ?_))
      | exact ih0 _ _ _
      | exact LeO.none _
      | refine LeO.ite ?_ ?_
      | refine LeO.bind ?_ (fun _ => ?_)
set_option maxHeartbeats 8000000 in
set_option maxRecDepth 100000 in
theorem copperplateref10_Text.calls (k : Nat) (a0 : Int) (r1 : ByteArray) (r2 : Bool) (w : World) (h : copperplateref10_Text.f k a0 = some (r1, r2)) :
    Calls Tryd.prog 11 #[.int .i64 a0] w fun e w' => e = .returned (.tuple #[.string r1, .bool r2]) ∧ Below w.heap.size w w' := by
  have HB := Aside0.mk (Below.refl w.heap.size w)
  have H : (copperplateref10_Text.l0 k a0 (([(⟨#[33]⟩ : ByteArray), (⟨#[36]⟩ : ByteArray), (⟨#[38]⟩ : ByteArray), (⟨#[40]⟩ : ByteArray), (⟨#[41]⟩ : ByteArray), (⟨#[46, 46, 46]⟩ : ByteArray), (⟨#[58]⟩ : ByteArray), (⟨#[61]⟩ : ByteArray), (⟨#[64]⟩ : ByteArray), (⟨#[91]⟩ : ByteArray), (⟨#[93]⟩ : ByteArray), (⟨#[123]⟩ : ByteArray), (⟨#[124]⟩ : ByteArray), (⟨#[125]⟩ : ByteArray), (⟨#[113, 117, 101, 114, 121]⟩ : ByteArray), (⟨#[109, 117, 116, 97, 116, 105, 111, 110]⟩ : ByteArray), (⟨#[115, 117, 98, 115, 99, 114, 105, 112, 116, 105, 111, 110]⟩ : ByteArray), (⟨#[102, 114, 97, 103, 109, 101, 110, 116]⟩ : ByteArray), (⟨#[111, 110]⟩ : ByteArray), (⟨#[116, 121, 112, 101]⟩ : ByteArray), (⟨#[105, 110, 116, 101, 114, 102, 97, 99, 101]⟩ : ByteArray), (⟨#[101, 110, 117, 109]⟩ : ByteArray), (⟨#[117, 110, 105, 111, 110]⟩ : ByteArray), (⟨#[105, 110, 112, 117, 116]⟩ : ByteArray), (⟨#[115, 99, 97, 108, 97, 114]⟩ : ByteArray), (⟨#[105, 109, 112, 108, 101, 109, 101, 110, 116, 115]⟩ : ByteArray)] : List ByteArray)) 0) = some (r1, r2) := h
  clear h
  obtain ⟨y145, hy145⟩ : ∃ y_ : List ByteArray, y_ = (([(⟨#[33]⟩ : ByteArray), (⟨#[36]⟩ : ByteArray), (⟨#[38]⟩ : ByteArray), (⟨#[40]⟩ : ByteArray), (⟨#[41]⟩ : ByteArray), (⟨#[46, 46, 46]⟩ : ByteArray), (⟨#[58]⟩ : ByteArray), (⟨#[61]⟩ : ByteArray), (⟨#[64]⟩ : ByteArray), (⟨#[91]⟩ : ByteArray), (⟨#[93]⟩ : ByteArray), (⟨#[123]⟩ : ByteArray), (⟨#[124]⟩ : ByteArray), (⟨#[125]⟩ : ByteArray), (⟨#[113, 117, 101, 114, 121]⟩ : ByteArray), (⟨#[109, 117, 116, 97, 116, 105, 111, 110]⟩ : ByteArray), (⟨#[115, 117, 98, 115, 99, 114, 105, 112, 116, 105, 111, 110]⟩ : ByteArray), (⟨#[102, 114, 97, 103, 109, 101, 110, 116]⟩ : ByteArray), (⟨#[111, 110]⟩ : ByteArray), (⟨#[116, 121, 112, 101]⟩ : ByteArray), (⟨#[105, 110, 116, 101, 114, 102, 97, 99, 101]⟩ : ByteArray), (⟨#[101, 110, 117, 109]⟩ : ByteArray), (⟨#[117, 110, 105, 111, 110]⟩ : ByteArray), (⟨#[105, 110, 112, 117, 116]⟩ : ByteArray), (⟨#[115, 99, 97, 108, 97, 114]⟩ : ByteArray), (⟨#[105, 109, 112, 108, 101, 109, 101, 110, 116, 115]⟩ : ByteArray)] : List ByteArray)) := ⟨_, rfl⟩
  replace H : (copperplateref10_Text.l0 k a0 y145 0) = some (r1, r2) := by first | (rw [hy145]; with_reducible exact H) | (have H2_ := (Option.bind_some _ _).symm.trans H; rw [hy145]; with_reducible exact H2_) | (have H2_ := (Option.bind_some _ _).symm.trans H; with_reducible exact H2_) | with_reducible exact H | (rw [hy145]; exact H) | exact H
  have Ny145 := Aside0.mk hy145
  clear hy145
  have H' := Aside0.mk H
  clear H
  go_enter Tryd.func11, Tryd.ntmps11
  go_wp2_with (first | ((with_reducible refine gate_dst (N := 7) rfl ?_); refine Kd.R_lit Kd.string _ 9 ?hg (N := 7) ?hd (xs := ([(⟨#[33]⟩ : ByteArray), (⟨#[36]⟩ : ByteArray), (⟨#[38]⟩ : ByteArray), (⟨#[40]⟩ : ByteArray), (⟨#[41]⟩ : ByteArray), (⟨#[46, 46, 46]⟩ : ByteArray), (⟨#[58]⟩ : ByteArray), (⟨#[61]⟩ : ByteArray), (⟨#[64]⟩ : ByteArray), (⟨#[91]⟩ : ByteArray), (⟨#[93]⟩ : ByteArray), (⟨#[123]⟩ : ByteArray), (⟨#[124]⟩ : ByteArray), (⟨#[125]⟩ : ByteArray), (⟨#[113, 117, 101, 114, 121]⟩ : ByteArray), (⟨#[109, 117, 116, 97, 116, 105, 111, 110]⟩ : ByteArray), (⟨#[115, 117, 98, 115, 99, 114, 105, 112, 116, 105, 111, 110]⟩ : ByteArray), (⟨#[102, 114, 97, 103, 109, 101, 110, 116]⟩ : ByteArray), (⟨#[111, 110]⟩ : ByteArray), (⟨#[116, 121, 112, 101]⟩ : ByteArray), (⟨#[105, 110, 116, 101, 114, 102, 97, 99, 101]⟩ : ByteArray), (⟨#[101, 110, 117, 109]⟩ : ByteArray), (⟨#[117, 110, 105, 111, 110]⟩ : ByteArray), (⟨#[105, 110, 112, 117, 116]⟩ : ByteArray), (⟨#[115, 99, 97, 108, 97, 114]⟩ : ByteArray), (⟨#[105, 109, 112, 108, 101, 109, 101, 110, 116, 115]⟩ : ByteArray)] : List ByteArray)) (inner := [.string (⟨#[33]⟩ : ByteArray), .string (⟨#[36]⟩ : ByteArray), .string (⟨#[38]⟩ : ByteArray), .string (⟨#[40]⟩ : ByteArray), .string (⟨#[41]⟩ : ByteArray), .string (⟨#[46, 46, 46]⟩ : ByteArray), .string (⟨#[58]⟩ : ByteArray), .string (⟨#[61]⟩ : ByteArray), .string (⟨#[64]⟩ : ByteArray), .string (⟨#[91]⟩ : ByteArray), .string (⟨#[93]⟩ : ByteArray), .string (⟨#[123]⟩ : ByteArray), .string (⟨#[124]⟩ : ByteArray), .string (⟨#[125]⟩ : ByteArray), .string (⟨#[113, 117, 101, 114, 121]⟩ : ByteArray), .string (⟨#[109, 117, 116, 97, 116, 105, 111, 110]⟩ : ByteArray), .string (⟨#[115, 117, 98, 115, 99, 114, 105, 112, 116, 105, 111, 110]⟩ : ByteArray), .string (⟨#[102, 114, 97, 103, 109, 101, 110, 116]⟩ : ByteArray), .string (⟨#[111, 110]⟩ : ByteArray), .string (⟨#[116, 121, 112, 101]⟩ : ByteArray), .string (⟨#[105, 110, 116, 101, 114, 102, 97, 99, 101]⟩ : ByteArray), .string (⟨#[101, 110, 117, 109]⟩ : ByteArray), .string (⟨#[117, 110, 105, 111, 110]⟩ : ByteArray), .string (⟨#[105, 110, 112, 117, 116]⟩ : ByteArray), .string (⟨#[115, 99, 97, 108, 97, 114]⟩ : ByteArray), .string (⟨#[105, 109, 112, 108, 101, 109, 101, 110, 116, 115]⟩ : ByteArray)]) (ok := fun _ => True) (okp := fun _ => True) ?hr ?hp (fun _ hk => hk) trivial (Below.refl _ _) (Nat.le_refl _) (by simp) ?_; (case hd => rfl); (case hg => rfl); (case hr => first | (go_simp; done) | (go_simp; rfl)); (case hp => exact (Reps.one (show Kd.M Kd.string _ _ _ (⟨#[33]⟩ : ByteArray) [.string (⟨#[33]⟩ : ByteArray)] from rfl) (Reps.one (show Kd.M Kd.string _ _ _ (⟨#[36]⟩ : ByteArray) [.string (⟨#[36]⟩ : ByteArray)] from rfl) (Reps.one (show Kd.M Kd.string _ _ _ (⟨#[38]⟩ : ByteArray) [.string (⟨#[38]⟩ : ByteArray)] from rfl) (Reps.one (show Kd.M Kd.string _ _ _ (⟨#[40]⟩ : ByteArray) [.string (⟨#[40]⟩ : ByteArray)] from rfl) (Reps.one (show Kd.M Kd.string _ _ _ (⟨#[41]⟩ : ByteArray) [.string (⟨#[41]⟩ : ByteArray)] from rfl) (Reps.one (show Kd.M Kd.string _ _ _ (⟨#[46, 46, 46]⟩ : ByteArray) [.string (⟨#[46, 46, 46]⟩ : ByteArray)] from rfl) (Reps.one (show Kd.M Kd.string _ _ _ (⟨#[58]⟩ : ByteArray) [.string (⟨#[58]⟩ : ByteArray)] from rfl) (Reps.one (show Kd.M Kd.string _ _ _ (⟨#[61]⟩ : ByteArray) [.string (⟨#[61]⟩ : ByteArray)] from rfl) (Reps.one (show Kd.M Kd.string _ _ _ (⟨#[64]⟩ : ByteArray) [.string (⟨#[64]⟩ : ByteArray)] from rfl) (Reps.one (show Kd.M Kd.string _ _ _ (⟨#[91]⟩ : ByteArray) [.string (⟨#[91]⟩ : ByteArray)] from rfl) (Reps.one (show Kd.M Kd.string _ _ _ (⟨#[93]⟩ : ByteArray) [.string (⟨#[93]⟩ : ByteArray)] from rfl) (Reps.one (show Kd.M Kd.string _ _ _ (⟨#[123]⟩ : ByteArray) [.string (⟨#[123]⟩ : ByteArray)] from rfl) (Reps.one (show Kd.M Kd.string _ _ _ (⟨#[124]⟩ : ByteArray) [.string (⟨#[124]⟩ : ByteArray)] from rfl) (Reps.one (show Kd.M Kd.string _ _ _ (⟨#[125]⟩ : ByteArray) [.string (⟨#[125]⟩ : ByteArray)] from rfl) (Reps.one (show Kd.M Kd.string _ _ _ (⟨#[113, 117, 101, 114, 121]⟩ : ByteArray) [.string (⟨#[113, 117, 101, 114, 121]⟩ : ByteArray)] from rfl) (Reps.one (show Kd.M Kd.string _ _ _ (⟨#[109, 117, 116, 97, 116, 105, 111, 110]⟩ : ByteArray) [.string (⟨#[109, 117, 116, 97, 116, 105, 111, 110]⟩ : ByteArray)] from rfl) (Reps.one (show Kd.M Kd.string _ _ _ (⟨#[115, 117, 98, 115, 99, 114, 105, 112, 116, 105, 111, 110]⟩ : ByteArray) [.string (⟨#[115, 117, 98, 115, 99, 114, 105, 112, 116, 105, 111, 110]⟩ : ByteArray)] from rfl) (Reps.one (show Kd.M Kd.string _ _ _ (⟨#[102, 114, 97, 103, 109, 101, 110, 116]⟩ : ByteArray) [.string (⟨#[102, 114, 97, 103, 109, 101, 110, 116]⟩ : ByteArray)] from rfl) (Reps.one (show Kd.M Kd.string _ _ _ (⟨#[111, 110]⟩ : ByteArray) [.string (⟨#[111, 110]⟩ : ByteArray)] from rfl) (Reps.one (show Kd.M Kd.string _ _ _ (⟨#[116, 121, 112, 101]⟩ : ByteArray) [.string (⟨#[116, 121, 112, 101]⟩ : ByteArray)] from rfl) (Reps.one (show Kd.M Kd.string _ _ _ (⟨#[105, 110, 116, 101, 114, 102, 97, 99, 101]⟩ : ByteArray) [.string (⟨#[105, 110, 116, 101, 114, 102, 97, 99, 101]⟩ : ByteArray)] from rfl) (Reps.one (show Kd.M Kd.string _ _ _ (⟨#[101, 110, 117, 109]⟩ : ByteArray) [.string (⟨#[101, 110, 117, 109]⟩ : ByteArray)] from rfl) (Reps.one (show Kd.M Kd.string _ _ _ (⟨#[117, 110, 105, 111, 110]⟩ : ByteArray) [.string (⟨#[117, 110, 105, 111, 110]⟩ : ByteArray)] from rfl) (Reps.one (show Kd.M Kd.string _ _ _ (⟨#[105, 110, 112, 117, 116]⟩ : ByteArray) [.string (⟨#[105, 110, 112, 117, 116]⟩ : ByteArray)] from rfl) (Reps.one (show Kd.M Kd.string _ _ _ (⟨#[115, 99, 97, 108, 97, 114]⟩ : ByteArray) [.string (⟨#[115, 99, 97, 108, 97, 114]⟩ : ByteArray)] from rfl) (Reps.one (show Kd.M Kd.string _ _ _ (⟨#[105, 109, 112, 108, 101, 109, 101, 110, 116, 115]⟩ : ByteArray) [.string (⟨#[105, 109, 112, 108, 101, 109, 101, 110, 116, 115]⟩ : ByteArray)] from rfl) (Reps.none _ _)))))))))))))))))))))))))))); intro v146 w2 ho3 hb hg_ hnew_; clear hg_ hnew_; (first | rw [← Ny145.out] at ho3 | (simp only [Int.reduceToNat] at ho3; rw [← Ny145.out] at ho3)); have n0_ := Aside0.mk (Kd.R_lower ho3 (below_size (by repeat (first | (with_reducible first | exact HB.out | apply below_alloc | apply pw_below_drewN | apply below_drew1) | exact HB.out)))); have n1_ := Aside0.mk (below_step (by repeat (first | (with_reducible first | exact HB.out | apply below_alloc | apply pw_below_drewN | apply below_drew1) | exact HB.out)) hb); clear HB; have HO147 := n0_; have HB := n1_; clear n0_ n1_; clear hb ho3))
  go_loopg [5] k (fun kq v5 w' => ∃ (x5_1 : Int), v5 = .int .i64 x5_1 ∧ Aside0 (copperplateref10_Text.l0 kq a0 y145 x5_1 = some (r1, r2)) ∧ Aside0 (kq ≤ k) ∧ Aside0 (Kd.R Kd.string 9 w' w.heap.size (fun _ => True) v146 y145) ∧ Aside0 (Below w.heap.size w w'))
  case atStart => exact ⟨(0), (by first | rfl | (simp; done) | (simp [*]; done)), H', ⟨Nat.le_refl _⟩, ⟨by (with_reducible repeat (first | apply Kd.R_alloc | apply Kd.R_drewN | apply Kd.R_drew)); exact HO147.out⟩, ⟨by repeat (first | (with_reducible first | exact HB.out | apply below_alloc | apply pw_below_drewN | apply below_drew1) | exact HB.out)⟩⟩
  case round =>
    clear H'
    try clear c1
    try clear p2
    obtain ⟨x5_1, rfl, HA, HK1, HO_4, HB⟩ := hrel
    cases gk with
    | zero => exact absurd HA.out (by simp [copperplateref10_Text.l0])
    | succ k1 =>
      have H := HA.out
      clear HA
      simp only [copperplateref10_Text.l0] at H
      by_cases c4 : x5_1 < (y145.length : Int)
      · rw [if_pos c4] at H
        have c4b0 : decide (x5_1 < (y145.length : Int)) = true := decide_eq_true c4
        clear c4
        by_cases c5 : 0 ≤ x5_1
        · rw [if_pos c5] at H
          have c5b0 : decide (0 ≤ x5_1) = true := decide_eq_true c5
          clear c5
          replace H := Option.bind_eq_some_iff.mp H
          obtain ⟨t149, A60, H⟩ := H
          replace H : (if x5_1 < 14 then ((copperplateref10_punct.f (rdOf ByteArray.empty y145 x5_1)).bind fun t151 => (if t151 = a0 then (some (rdOf ByteArray.empty y145 x5_1, true)) else (copperplateref10_Text.l0 k1 a0 y145 (wrap64 (x5_1 + 1))))) else (if t149 = a0 then (some (rdOf ByteArray.empty y145 x5_1, true)) else (copperplateref10_Text.l0 k1 a0 y145 (wrap64 (x5_1 + 1))))) = some (r1, r2) := H
          have A6 := Aside0.mk A60
          clear A60
          by_cases c7 : x5_1 < 14
          · rw [if_pos c7] at H
            have c7b0 : decide (x5_1 < 14) = true := decide_eq_true c7
            clear c7
            replace H := Option.bind_eq_some_iff.mp H
            obtain ⟨t151, A80, H⟩ := H
            replace H : (if t151 = a0 then (some (rdOf ByteArray.empty y145 x5_1, true)) else (copperplateref10_Text.l0 k1 a0 y145 (wrap64 (x5_1 + 1)))) = some (r1, r2) := H
            have A8 := Aside0.mk A80
            clear A80
            by_cases c9 : t151 = a0
            · rw [if_pos c9] at H
              have c9b0 : (t151 == a0) = true := beq_iff_eq.mpr c9
              have c9b1 : (t151 != a0) = false := bne_eq_false_iff_eq.mpr c9
              clear c9
              simp only [Option.some.injEq, Prod.mk.injEq] at H
              obtain ⟨rfl, rfl⟩ := H
              obtain ⟨Ao10, co10, eo10⟩ := Kd.R_slice HO_4.out
              subst eo10
              have p148 : 0 ≤ (x5_1 : Int) := of_decide_eq_true (by first | (with_reducible assumption) | assumption)
              have q148 : x5_1 < (y145.length : Int) := of_decide_eq_true (by first | (with_reducible assumption) | assumption)
              obtain ⟨ad148, e148, hx148_0⟩ := Kd.at_string (Kd.R_reads' HO_4.out).2.2 x5_1 p148 q148
              cases e148
              replace p148 := eq_true p148
              replace q148 := eq_true q148
              go_wp2_with (first | ((with_reducible refine gate_callee (f := 19) rfl ?_); refine goesL_ (some 18) rfl rfl Tryd.func19 (by kernel_rfl) rfl #[.string (rdOf ByteArray.empty y145 x5_1)] rfl (by (try simp only [List.map_toArray, List.map_cons, List.map_nil]); first | done | rfl | (simp only [List.length_drop, List.length_take]; rfl)) ?_; (with_reducible refine (copperplateref10_name.calls (rdOf ByteArray.empty y145 x5_1) t149 _ A6.out).mono ?_); rintro e w' ⟨rfl, ⟨nd, rfl⟩⟩; refine ⟨_, rfl, ?_⟩; have p150 : 0 ≤ (x5_1 : Int) := of_decide_eq_true (by first | (with_reducible assumption) | assumption); have q150 : x5_1 < (y145.length : Int) := of_decide_eq_true (by first | (with_reducible assumption) | assumption); obtain ⟨ad150, e150, hx150_0⟩ := Kd.at_string (Kd.R_reads' HO_4.out).2.2 x5_1 p150 q150; obtain rfl : ad148 = ad150 := (by injection e150); replace p150 := eq_true p150; replace q150 := eq_true q150) | ((with_reducible refine gate_callee (f := 20) rfl ?_); refine goesL_ (some 25) rfl rfl Tryd.func20 (by kernel_rfl) rfl #[.string (rdOf ByteArray.empty y145 x5_1)] rfl (by (try simp only [List.map_toArray, List.map_cons, List.map_nil]); first | done | rfl | (simp only [List.length_drop, List.length_take]; rfl)) ?_; (with_reducible refine (copperplateref10_punct.calls (rdOf ByteArray.empty y145 x5_1) t151 _ A8.out).mono ?_); rintro e w' ⟨rfl, ⟨nd, rfl⟩⟩; refine ⟨_, rfl, ?_⟩; have p152 : 0 ≤ (x5_1 : Int) := of_decide_eq_true (by first | (with_reducible assumption) | assumption); have q152 : x5_1 < (y145.length : Int) := of_decide_eq_true (by first | (with_reducible assumption) | assumption); obtain ⟨ad152, e152, hx152_0⟩ := Kd.at_string (Kd.R_reads' HO_4.out).2.2 x5_1 p152 q152; obtain rfl : ad148 = ad152 := (by injection e152); replace p152 := eq_true p152; replace q152 := eq_true q152))
              go_ret2
              exact ⟨by first | rfl | (simp [errW_none, errW_some] <;> rfl) | (simp [*, errW_none, errW_some] <;> rfl), by repeat (first | (with_reducible first | exact HB.out | apply below_alloc | apply pw_below_drewN | apply below_drew1) | exact HB.out)⟩
            · rw [if_neg c9] at H
              have c9b0 : (t151 == a0) = false := beq_eq_false_iff_ne.mpr c9
              have c9b1 : (t151 != a0) = true := bne_iff_ne.mpr c9
              have H' := Aside0.mk H
              clear H
              obtain ⟨Ao11, co11, eo11⟩ := Kd.R_slice HO_4.out
              subst eo11
              have p148 : 0 ≤ (x5_1 : Int) := of_decide_eq_true (by first | (with_reducible assumption) | assumption)
              have q148 : x5_1 < (y145.length : Int) := of_decide_eq_true (by first | (with_reducible assumption) | assumption)
              obtain ⟨ad148, e148, hx148_0⟩ := Kd.at_string (Kd.R_reads' HO_4.out).2.2 x5_1 p148 q148
              cases e148
              replace p148 := eq_true p148
              replace q148 := eq_true q148
              go_wp2_with (first | ((with_reducible refine gate_callee (f := 19) rfl ?_); refine goesL_ (some 18) rfl rfl Tryd.func19 (by kernel_rfl) rfl #[.string (rdOf ByteArray.empty y145 x5_1)] rfl (by (try simp only [List.map_toArray, List.map_cons, List.map_nil]); first | done | rfl | (simp only [List.length_drop, List.length_take]; rfl)) ?_; (with_reducible refine (copperplateref10_name.calls (rdOf ByteArray.empty y145 x5_1) t149 _ A6.out).mono ?_); rintro e w' ⟨rfl, ⟨nd, rfl⟩⟩; refine ⟨_, rfl, ?_⟩; have p150 : 0 ≤ (x5_1 : Int) := of_decide_eq_true (by first | (with_reducible assumption) | assumption); have q150 : x5_1 < (y145.length : Int) := of_decide_eq_true (by first | (with_reducible assumption) | assumption); obtain ⟨ad150, e150, hx150_0⟩ := Kd.at_string (Kd.R_reads' HO_4.out).2.2 x5_1 p150 q150; obtain rfl : ad148 = ad150 := (by injection e150); replace p150 := eq_true p150; replace q150 := eq_true q150) | ((with_reducible refine gate_callee (f := 20) rfl ?_); refine goesL_ (some 25) rfl rfl Tryd.func20 (by kernel_rfl) rfl #[.string (rdOf ByteArray.empty y145 x5_1)] rfl (by (try simp only [List.map_toArray, List.map_cons, List.map_nil]); first | done | rfl | (simp only [List.length_drop, List.length_take]; rfl)) ?_; (with_reducible refine (copperplateref10_punct.calls (rdOf ByteArray.empty y145 x5_1) t151 _ A8.out).mono ?_); rintro e w' ⟨rfl, ⟨nd, rfl⟩⟩; refine ⟨_, rfl, ?_⟩))
              go_roundg k1
              case measure => have := HK1.out; omega
              case rel => exact ⟨(wrap64 (x5_1 + 1)), (by first | rfl | (simp; done) | (simp [*]; done)), H', ⟨by have := HK1.out; omega⟩, ⟨by (with_reducible repeat (first | apply Kd.R_alloc | apply Kd.R_drewN | apply Kd.R_drew)); exact HO_4.out⟩, ⟨by repeat (first | (with_reducible first | exact HB.out | apply below_alloc | apply pw_below_drewN | apply below_drew1) | exact HB.out)⟩⟩
          · rw [if_neg c7] at H
            have c7b0 : decide (x5_1 < 14) = false := decide_eq_false c7
            clear c7
            by_cases c12 : t149 = a0
            · rw [if_pos c12] at H
              have c12b0 : (t149 == a0) = true := beq_iff_eq.mpr c12
              have c12b1 : (t149 != a0) = false := bne_eq_false_iff_eq.mpr c12
              clear c12
              simp only [Option.some.injEq, Prod.mk.injEq] at H
              obtain ⟨rfl, rfl⟩ := H
              obtain ⟨Ao13, co13, eo13⟩ := Kd.R_slice HO_4.out
              subst eo13
              have p148 : 0 ≤ (x5_1 : Int) := of_decide_eq_true (by first | (with_reducible assumption) | assumption)
              have q148 : x5_1 < (y145.length : Int) := of_decide_eq_true (by first | (with_reducible assumption) | assumption)
              obtain ⟨ad148, e148, hx148_0⟩ := Kd.at_string (Kd.R_reads' HO_4.out).2.2 x5_1 p148 q148
              cases e148
              replace p148 := eq_true p148
              replace q148 := eq_true q148
              go_wp2_with (first | ((with_reducible refine gate_callee (f := 19) rfl ?_); refine goesL_ (some 18) rfl rfl Tryd.func19 (by kernel_rfl) rfl #[.string (rdOf ByteArray.empty y145 x5_1)] rfl (by (try simp only [List.map_toArray, List.map_cons, List.map_nil]); first | done | rfl | (simp only [List.length_drop, List.length_take]; rfl)) ?_; (with_reducible refine (copperplateref10_name.calls (rdOf ByteArray.empty y145 x5_1) t149 _ A6.out).mono ?_); rintro e w' ⟨rfl, ⟨nd, rfl⟩⟩; refine ⟨_, rfl, ?_⟩; have p153 : 0 ≤ (x5_1 : Int) := of_decide_eq_true (by first | (with_reducible assumption) | assumption); have q153 : x5_1 < (y145.length : Int) := of_decide_eq_true (by first | (with_reducible assumption) | assumption); obtain ⟨ad153, e153, hx153_0⟩ := Kd.at_string (Kd.R_reads' HO_4.out).2.2 x5_1 p153 q153; obtain rfl : ad148 = ad153 := (by injection e153); replace p153 := eq_true p153; replace q153 := eq_true q153))
              go_ret2
              exact ⟨by first | rfl | (simp [errW_none, errW_some] <;> rfl) | (simp [*, errW_none, errW_some] <;> rfl), by repeat (first | (with_reducible first | exact HB.out | apply below_alloc | apply pw_below_drewN | apply below_drew1) | exact HB.out)⟩
            · rw [if_neg c12] at H
              have c12b0 : (t149 == a0) = false := beq_eq_false_iff_ne.mpr c12
              have c12b1 : (t149 != a0) = true := bne_iff_ne.mpr c12
              have H' := Aside0.mk H
              clear H
              obtain ⟨Ao14, co14, eo14⟩ := Kd.R_slice HO_4.out
              subst eo14
              have p148 : 0 ≤ (x5_1 : Int) := of_decide_eq_true (by first | (with_reducible assumption) | assumption)
              have q148 : x5_1 < (y145.length : Int) := of_decide_eq_true (by first | (with_reducible assumption) | assumption)
              obtain ⟨ad148, e148, hx148_0⟩ := Kd.at_string (Kd.R_reads' HO_4.out).2.2 x5_1 p148 q148
              cases e148
              replace p148 := eq_true p148
              replace q148 := eq_true q148
              go_wp2_with (first | ((with_reducible refine gate_callee (f := 19) rfl ?_); refine goesL_ (some 18) rfl rfl Tryd.func19 (by kernel_rfl) rfl #[.string (rdOf ByteArray.empty y145 x5_1)] rfl (by (try simp only [List.map_toArray, List.map_cons, List.map_nil]); first | done | rfl | (simp only [List.length_drop, List.length_take]; rfl)) ?_; (with_reducible refine (copperplateref10_name.calls (rdOf ByteArray.empty y145 x5_1) t149 _ A6.out).mono ?_); rintro e w' ⟨rfl, ⟨nd, rfl⟩⟩; refine ⟨_, rfl, ?_⟩))
              go_roundg k1
              case measure => have := HK1.out; omega
              case rel => exact ⟨(wrap64 (x5_1 + 1)), (by first | rfl | (simp; done) | (simp [*]; done)), H', ⟨by have := HK1.out; omega⟩, ⟨by (with_reducible repeat (first | apply Kd.R_alloc | apply Kd.R_drewN | apply Kd.R_drew)); exact HO_4.out⟩, ⟨by repeat (first | (with_reducible first | exact HB.out | apply below_alloc | apply pw_below_drewN | apply below_drew1) | exact HB.out)⟩⟩
        · rw [if_neg c5] at H
          exact absurd H (by simp)
      · rw [if_neg c4] at H
        have c4b0 : decide (x5_1 < (y145.length : Int)) = false := decide_eq_false c4
        clear c4
        simp only [Option.some.injEq, Prod.mk.injEq] at H
        obtain ⟨rfl, rfl⟩ := H
        obtain ⟨Ao15, co15, eo15⟩ := Kd.R_slice HO_4.out
        subst eo15
        go_wp2
        go_ret2
        exact ⟨by first | rfl | (simp [errW_none, errW_some] <;> rfl) | (simp [*, errW_none, errW_some] <;> rfl), by repeat (first | (with_reducible first | exact HB.out | apply below_alloc | apply pw_below_drewN | apply below_drew1) | exact HB.out)⟩

/-! ### copperplateref10_Ints: function 12 -/
def copperplateref10_Ints.l0 : Nat → List Int → List Int → Int → Option (Bool)
  | 0, _, _, _ => none
  | k + 1, x0, x1, x5 => if x5 < (x0.length : Int) then (if 0 ≤ x5 then (if x5 < (x1.length : Int) then (if (rd x0 x5) = (rd x1 x5) then (copperplateref10_Ints.l0 k x0 x1 (wrap64 (x5 + 1))) else (some false)) else (none)) else (none)) else (some true)
def copperplateref10_Ints.f (k : Nat) (l0 : List Int) (l1 : List Int) : Option (Bool) := if (l0.length : Int) = (l1.length : Int) then (copperplateref10_Ints.l0 k l0 l1 0) else (some false)
theorem copperplateref10_Ints.mono_l : ∀ k, (∀ y0 y1 y2, LeO (copperplateref10_Ints.l0 k y0 y1 y2) (copperplateref10_Ints.l0 (k + 1) y0 y1 y2))
  | 0 => fun _ _ _ r h => by simp [copperplateref10_Ints.l0] at h
  | k + 1 => by
    have ih0 := copperplateref10_Ints.mono_l k
    · intro y0 y1 y2
      unfold copperplateref10_Ints.l0
      repeat' first
      | (with_reducible exact ih0 _ _ _)
      | (with_reducible exact LeO.refl _)
      | (with_reducible exact LeO.none _)
      | (with_reducible refine LeO.ite ?_ ?_)
      | (with_reducible refine LeO.bind ?_ (fun _ => ?_))
      | exact ih0 _ _ _
      | exact LeO.none _
      | refine LeO.ite ?_ ?_
      | refine LeO.bind ?_ (fun _ => ?_)
theorem copperplateref10_Ints.mono : ∀ a0 a1 k, LeO (copperplateref10_Ints.f k a0 a1) (copperplateref10_Ints.f (k + 1) a0 a1) := by
  intro a0 a1 k
  have ih0 := copperplateref10_Ints.mono_l k
  unfold copperplateref10_Ints.f
  repeat' first
      | (with_reducible exact ih0 _ _ _)
      | (with_reducible exact LeO.refl _)
      | (with_reducible exact LeO.none _)
      | (with_reducible refine LeO.ite ?_ ?_)
      | (with_reducible refine LeO.bind ?_ (fun _ => ?_))
      | exact ih0 _ _ _
      | exact LeO.none _
      | refine LeO.ite ?_ ?_
      | refine LeO.bind ?_ (fun _ => ?_)
set_option maxHeartbeats 8000000 in
set_option maxRecDepth 100000 in
theorem copperplateref10_Ints.calls (k : Nat) (A0 : Option Addr) (c0 : Nat) (l0 : List Int) (A1 : Option Addr) (c1 : Nat) (l1 : List Int) (r : Bool) (w : World) (hr0 : Kd.C (Kd.int .i64) w A0 l0.length l0) (hc0 : l0.length ≤ c0) (hr1 : Kd.C (Kd.int .i64) w A1 l1.length l1) (hc1 : l1.length ≤ c1) (h : copperplateref10_Ints.f k l0 l1 = some r) :
    Calls Tryd.prog 12 #[.slice A0 l0.length c0, .slice A1 l1.length c1] w fun e w' => e = .returned (.bool r) ∧ Drawn0 w w' := by
  have HR0 := Aside0.mk hr0
  have HC0 := Aside0.mk hc0
  clear hr0 hc0
  have HR1 := Aside0.mk hr1
  have HC1 := Aside0.mk hc1
  clear hr1 hc1
  have H : (if (l0.length : Int) = (l1.length : Int) then (copperplateref10_Ints.l0 k l0 l1 0) else (some false)) = some r := h
  clear h
  by_cases c3 : (l0.length : Int) = (l1.length : Int)
  · rw [if_pos c3] at H
    have c3b0 : ((l0.length : Int) == (l1.length : Int)) = true := beq_iff_eq.mpr c3
    have c3b1 : ((l0.length : Int) != (l1.length : Int)) = false := bne_eq_false_iff_eq.mpr c3
    have c3b2 : (l0.length == l1.length) = true := by first | simpa using c3 | (simp at c3 ⊢; omega)
    clear c3
    have H' := Aside0.mk H
    clear H
    go_enter Tryd.func12, Tryd.ntmps12
    go_wp2
    repeat (go_quiet (fail); try go_wp2)
    go_loopg [5] k (fun kq v5 w' => ∃ (x5_1 : Int), v5 = .int .i64 x5_1 ∧ Aside0 (copperplateref10_Ints.l0 kq l0 l1 x5_1 = some r) ∧ Aside0 (kq ≤ k) ∧ Drawn0 w w')
    case atStart => exact ⟨(0), (by first | rfl | (simp; done) | (simp [*]; done)), H', ⟨Nat.le_refl _⟩, by repeat (first | exact Drawn0.refl _ | apply Drawn0.step)⟩
    case round =>
      clear H'
      try clear c1
      try clear p2
      try clear c3
      try clear c3b0
      try clear c3b1
      try clear c3b2
      obtain ⟨x5_1, rfl, HA, HK1, ⟨m1, rfl⟩⟩ := hrel
      cases gk with
      | zero => exact absurd HA.out (by simp [copperplateref10_Ints.l0])
      | succ k1 =>
        have H := HA.out
        clear HA
        simp only [copperplateref10_Ints.l0] at H
        by_cases c4 : x5_1 < (l0.length : Int)
        · rw [if_pos c4] at H
          have c4b0 : decide (x5_1 < (l0.length : Int)) = true := decide_eq_true c4
          clear c4
          by_cases c5 : 0 ≤ x5_1
          · rw [if_pos c5] at H
            have c5b0 : decide (0 ≤ x5_1) = true := decide_eq_true c5
            clear c5
            by_cases c6 : x5_1 < (l1.length : Int)
            · rw [if_pos c6] at H
              have c6b0 : decide (x5_1 < (l1.length : Int)) = true := decide_eq_true c6
              clear c6
              by_cases c7 : (rd l0 x5_1) = (rd l1 x5_1)
              · rw [if_pos c7] at H
                have c7b0 : ((rd l0 x5_1) == (rd l1 x5_1)) = true := beq_iff_eq.mpr c7
                have c7b1 : ((rd l0 x5_1) != (rd l1 x5_1)) = false := bne_eq_false_iff_eq.mpr c7
                clear c7
                have H' := Aside0.mk H
                clear H
                have p154 : 0 ≤ (x5_1 : Int) := of_decide_eq_true (by first | (with_reducible assumption) | assumption)
                have q154 : x5_1 < (l0.length : Int) := of_decide_eq_true (by first | (with_reducible assumption) | assumption)
                obtain ⟨ad154, e154, hx154_0⟩ := Kd.at_int HR0.out x5_1 p154 q154
                cases e154
                replace p154 := eq_true p154
                replace q154 := eq_true q154
                have p155 : 0 ≤ (x5_1 : Int) := of_decide_eq_true (by first | (with_reducible assumption) | assumption)
                have q155 : x5_1 < (l1.length : Int) := of_decide_eq_true (by first | (with_reducible assumption) | assumption)
                obtain ⟨ad155, e155, hx155_0⟩ := Kd.at_int HR1.out x5_1 p155 q155
                cases e155
                replace p155 := eq_true p155
                replace q155 := eq_true q155
                go_wp2
                repeat (go_quiet (fail); try go_wp2)
                go_roundg k1
                case measure => have := HK1.out; omega
                case rel => exact ⟨(wrap64 (x5_1 + 1)), (by first | rfl | (simp; done) | (simp [*]; done)), H', ⟨by have := HK1.out; omega⟩, by repeat (first | exact Drawn0.refl _ | apply Drawn0.step)⟩
              · rw [if_neg c7] at H
                have c7b0 : ((rd l0 x5_1) == (rd l1 x5_1)) = false := beq_eq_false_iff_ne.mpr c7
                have c7b1 : ((rd l0 x5_1) != (rd l1 x5_1)) = true := bne_iff_ne.mpr c7
                obtain rfl := Option.some.inj H
                have p154 : 0 ≤ (x5_1 : Int) := of_decide_eq_true (by first | (with_reducible assumption) | assumption)
                have q154 : x5_1 < (l0.length : Int) := of_decide_eq_true (by first | (with_reducible assumption) | assumption)
                obtain ⟨ad154, e154, hx154_0⟩ := Kd.at_int HR0.out x5_1 p154 q154
                cases e154
                replace p154 := eq_true p154
                replace q154 := eq_true q154
                have p155 : 0 ≤ (x5_1 : Int) := of_decide_eq_true (by first | (with_reducible assumption) | assumption)
                have q155 : x5_1 < (l1.length : Int) := of_decide_eq_true (by first | (with_reducible assumption) | assumption)
                obtain ⟨ad155, e155, hx155_0⟩ := Kd.at_int HR1.out x5_1 p155 q155
                cases e155
                replace p155 := eq_true p155
                replace q155 := eq_true q155
                go_wp2
                repeat (go_quiet (fail); try go_wp2)
                go_ret
                exact ⟨by first | rfl | (simp; done) | (simp [*]; done), by repeat (first | exact Drawn0.refl _ | apply Drawn0.step)⟩
            · rw [if_neg c6] at H
              exact absurd H (by simp)
          · rw [if_neg c5] at H
            exact absurd H (by simp)
        · rw [if_neg c4] at H
          have c4b0 : decide (x5_1 < (l0.length : Int)) = false := decide_eq_false c4
          clear c4
          obtain rfl := Option.some.inj H
          go_wp2
          repeat (go_quiet (fail); try go_wp2)
          go_ret
          exact ⟨by first | rfl | (simp; done) | (simp [*]; done), by repeat (first | exact Drawn0.refl _ | apply Drawn0.step)⟩
  · rw [if_neg c3] at H
    have c3b0 : ((l0.length : Int) == (l1.length : Int)) = false := beq_eq_false_iff_ne.mpr c3
    have c3b1 : ((l0.length : Int) != (l1.length : Int)) = true := bne_iff_ne.mpr c3
    have c3b2 : (l0.length == l1.length) = false := by first | simpa using c3 | (simp at c3 ⊢; omega)
    obtain rfl := Option.some.inj H
    go_enter Tryd.func12, Tryd.ntmps12
    go_wp2
    repeat (go_quiet (fail); try go_wp2)
    go_ret
    exact ⟨by first | rfl | (simp; done) | (simp [*]; done), by repeat (first | exact Drawn0.refl _ | apply Drawn0.step)⟩

end Go.Proofs.YthbphgchnloipaaDoor.Q
