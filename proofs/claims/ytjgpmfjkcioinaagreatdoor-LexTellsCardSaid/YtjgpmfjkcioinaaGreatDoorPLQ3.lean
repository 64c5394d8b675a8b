/-
  Texts of this seat, put together by bundle.py.
-/
import Derived.Test.YtjgpmfjkcioinaaGreatDoorPLGG9
import Derived.Test.YtjgpmfjkcioinaaGreatDoorPLQ2
namespace Go.Proofs.YtjgpmfjkcioinaaGreatDoor.Q
open Go.Proofs.YtjgpmfjkcioinaaGreatDoor.G
open Go.RowKit Go.Proofs.YtjgpmfjkcioinaaGreatDoorW.PrintWords Go.Proofs.YtjgpmfjkcioinaaGreatDoorW.PrintLast Go.Proofs.YtjgpmfjkcioinaaGreatDoorW.PrintMore
attribute [local go_sem] max2_int min2_int max_two min_two max_three min_three max_four min_four
set_option linter.unusedVariables false
set_option linter.unusedSimpArgs false
def copperplateref04_Digits.l0 : Nat → ByteArray → Int → Option (Int)
 | 0, _, _ => none
 | k + 1, x0, x1 => if x1 < (x0.size : Int) then (if 0 ≤ x1 then (if (bt x0 x1) ≥ 48 then (if (bt x0 x1) ≤ 57 then (copperplateref04_Digits.l0 k x0 (wrap64 (x1 + 1))) else (some x1)) else (some x1)) else (none)) else (some x1)
def copperplateref04_Digits.f (k : Nat) (a0 : ByteArray) (a1 : Int) : Option (Int) := if a1 < 0 then (some a1) else (copperplateref04_Digits.l0 k a0 a1)
theorem copperplateref04_Digits.mono_l : ∀ k, (∀ y0 y1, LeO (copperplateref04_Digits.l0 k y0 y1) (copperplateref04_Digits.l0 (k + 1) y0 y1))
 | 0 => fun _ _ r h => by simp [copperplateref04_Digits.l0] at h
 | k + 1 => by
  have ih0 := copperplateref04_Digits.mono_l k
  ·intro y0 y1
   unfold copperplateref04_Digits.l0
   repeat' first
   | (with_reducible exact ih0 _ _)
   | (with_reducible exact LeO.refl _)
   | (with_reducible exact LeO.none _)
   | (with_reducible refine LeO.ite ?_ ?_)
   | (with_reducible refine LeO.bind ?_ (fun _ => ?_))
   | exact ih0 _ _
   | exact LeO.none _
   | refine LeO.ite ?_ ?_
   | refine LeO.bind ?_ (fun _ => ?_)
theorem copperplateref04_Digits.mono : ∀ a0 a1 k, LeO (copperplateref04_Digits.f k a0 a1) (copperplateref04_Digits.f (k + 1) a0 a1) := by
 intro a0 a1 k
 have ih0 := copperplateref04_Digits.mono_l k
 unfold copperplateref04_Digits.f
 repeat' first
   | (with_reducible exact ih0 _ _)
   | (with_reducible exact LeO.refl _)
   | (with_reducible exact LeO.none _)
   | (with_reducible refine LeO.ite ?_ ?_)
   | (with_reducible refine LeO.bind ?_ (fun _ => ?_))
   | exact ih0 _ _
   | exact LeO.none _
   | refine LeO.ite ?_ ?_
   | refine LeO.bind ?_ (fun _ => ?_)
set_option maxHeartbeats 8000000 in
set_option maxRecDepth 100000 in
theorem copperplateref04_Digits.calls (k : Nat) (a0 : ByteArray) (a1 : Int) (r : Int) (w : World) (h : copperplateref04_Digits.f k a0 a1 = some r) :
  Calls Tryz.prog 59 #[.string a0, .int .i64 a1] w fun e w' => e = .returned (.int .i64 r) ∧ Drawn0 w w' := by
 have H : (if a1 < 0 then (some a1) else (copperplateref04_Digits.l0 k a0 a1)) = some r := h
 clear h
 by_cases c3 : a1 < 0
 ·rw [if_pos c3] at H
  have c3b0 : decide (a1 < 0) = true := decide_eq_true c3
  clear c3
  obtain rfl := Option.some.inj H
  go_enter Tryz.func59, Tryz.ntmps59
  go_wp2
  go_ret
  exact ⟨by first | rfl | (simp; done) | (simp [*]; done), by repeat (first | exact Drawn0.refl _ | apply Drawn0.step)⟩
 ·rw [if_neg c3] at H
  have c3b0 : decide (a1 < 0) = false := decide_eq_false c3
  clear c3
  have H' := Aside0.mk H
  clear H
  go_enter Tryz.func59, Tryz.ntmps59
  go_wp2
  go_loopg [1] k (fun kq v1 w' => ∃ (x1_1 : Int), v1 = .int .i64 x1_1 ∧ Aside0 (copperplateref04_Digits.l0 kq a0 x1_1 = some r) ∧ Aside0 (kq ≤ k) ∧ Drawn0 w w')
  case atStart => exact ⟨(a1), (by first | rfl | (simp; done) | (simp [*]; done)), H', ⟨Nat.le_refl _⟩, by repeat (first | exact Drawn0.refl _ | apply Drawn0.step)⟩
  case round =>
   clear H'
   try clear p2
   try clear c3
   try clear c3b0
   obtain ⟨x1_1, rfl, HA, HK1, ⟨m1, rfl⟩⟩ := hrel
   cases gk with
   | zero => exact absurd HA.out (by simp [copperplateref04_Digits.l0])
   | succ k1 =>
    have H := HA.out
    clear HA
    simp only [copperplateref04_Digits.l0] at H
    by_cases c4 : x1_1 < (a0.size : Int)
    ·rw [if_pos c4] at H
     have c4b0 : decide (x1_1 < (a0.size : Int)) = true := decide_eq_true c4
     clear c4
     by_cases c5 : 0 ≤ x1_1
     ·rw [if_pos c5] at H
      have c5b0 : decide (0 ≤ x1_1) = true := decide_eq_true c5
      clear c5
      by_cases c7 : (bt a0 x1_1) ≥ 48
      ·rw [if_pos c7] at H
       have c7b0 : decide (48 ≤ (bt a0 x1_1)) = true := decide_eq_true c7
       clear c7
       by_cases c9 : (bt a0 x1_1) ≤ 57
       ·rw [if_pos c9] at H
        have c9b0 : decide ((bt a0 x1_1) ≤ 57) = true := decide_eq_true c9
        clear c9
        have H' := Aside0.mk H
        clear H
        have p6 : 0 ≤ (x1_1 : Int) := of_decide_eq_true (by first | (with_reducible assumption) | assumption)
        have q6 : x1_1 < (a0.size : Int) := of_decide_eq_true (by first | (with_reducible assumption) | assumption)
        have hx6 := bt_at a0 x1_1
        replace p6 := eq_true p6
        replace q6 := eq_true q6
        have p8 : 0 ≤ (x1_1 : Int) := of_decide_eq_true (by first | (with_reducible assumption) | assumption)
        have q8 : x1_1 < (a0.size : Int) := of_decide_eq_true (by first | (with_reducible assumption) | assumption)
        have hx8 := bt_at a0 x1_1
        replace p8 := eq_true p8
        replace q8 := eq_true q8
        go_wp2
        go_roundg k1
        case measure => have := HK1.out; omega
        case rel => exact ⟨(wrap64 (x1_1 + 1)), (by first | rfl | (simp; done) | (simp [*]; done)), H', ⟨by have := HK1.out; omega⟩, by repeat (first | exact Drawn0.refl _ | apply Drawn0.step)⟩
       ·rw [if_neg c9] at H
        have c9b0 : decide ((bt a0 x1_1) ≤ 57) = false := decide_eq_false c9
        clear c9
        obtain rfl := Option.some.inj H
        have p6 : 0 ≤ (x1_1 : Int) := of_decide_eq_true (by first | (with_reducible assumption) | assumption)
        have q6 : x1_1 < (a0.size : Int) := of_decide_eq_true (by first | (with_reducible assumption) | assumption)
        have hx6 := bt_at a0 x1_1
        replace p6 := eq_true p6
        replace q6 := eq_true q6
        have p8 : 0 ≤ (x1_1 : Int) := of_decide_eq_true (by first | (with_reducible assumption) | assumption)
        have q8 : x1_1 < (a0.size : Int) := of_decide_eq_true (by first | (with_reducible assumption) | assumption)
        have hx8 := bt_at a0 x1_1
        replace p8 := eq_true p8
        replace q8 := eq_true q8
        go_wp2
        go_ret
        exact ⟨by first | rfl | (simp; done) | (simp [*]; done), by repeat (first | exact Drawn0.refl _ | apply Drawn0.step)⟩
      ·rw [if_neg c7] at H
       have c7b0 : decide (48 ≤ (bt a0 x1_1)) = false := decide_eq_false c7
       clear c7
       obtain rfl := Option.some.inj H
       have p6 : 0 ≤ (x1_1 : Int) := of_decide_eq_true (by first | (with_reducible assumption) | assumption)
       have q6 : x1_1 < (a0.size : Int) := of_decide_eq_true (by first | (with_reducible assumption) | assumption)
       have hx6 := bt_at a0 x1_1
       replace p6 := eq_true p6
       replace q6 := eq_true q6
       go_wp2
       go_ret
       exact ⟨by first | rfl | (simp; done) | (simp [*]; done), by repeat (first | exact Drawn0.refl _ | apply Drawn0.step)⟩
     ·rw [if_neg c5] at H
      exact absurd H (by simp)
    ·rw [if_neg c4] at H
     have c4b0 : decide (x1_1 < (a0.size : Int)) = false := decide_eq_false c4
     clear c4
     obtain rfl := Option.some.inj H
     go_wp2
     go_ret
     exact ⟨by first | rfl | (simp; done) | (simp [*]; done), by repeat (first | exact Drawn0.refl _ | apply Drawn0.step)⟩
def copperplateref05_whole.f (k : Nat) (a0 : ByteArray) (a1 : Int) : Option (Int) := (copperplateref05_at.f k a0 a1 (⟨#[48]⟩ : ByteArray)).bind fun t105 => (if t105 = true then (some (wrap64 (a1 + 1))) else ((copperplateref04_Digits.f k a0 a1).bind fun t106 => (some t106)))
theorem copperplateref05_whole.mono : ∀ a0 a1 k, LeO (copperplateref05_whole.f k a0 a1) (copperplateref05_whole.f (k + 1) a0 a1) := by
 intro a0 a1 k
 unfold copperplateref05_whole.f
 repeat' first
   | (with_reducible exact copperplateref04_Digits.mono _ _ _)
   | (with_reducible exact copperplateref05_at.mono _ _ _ _)
   | (with_reducible exact LeO.refl _)
   | (with_reducible exact LeO.none _)
   | (with_reducible refine LeO.ite ?_ ?_)
   | (with_reducible refine LeO.bind ?_ (fun _ => ?_))
   | exact copperplateref04_Digits.mono _ _ _
   | exact copperplateref05_at.mono _ _ _ _
   | exact LeO.none _
   | refine LeO.ite ?_ ?_
   | refine LeO.bind ?_ (fun _ => ?_)
set_option maxHeartbeats 8000000 in
set_option maxRecDepth 100000 in
theorem copperplateref05_whole.calls (k : Nat) (a0 : ByteArray) (a1 : Int) (r : Int) (w : World) (h : copperplateref05_whole.f k a0 a1 = some r) :
  Calls Tryz.prog 58 #[.string a0, .int .i64 a1] w fun e w' => e = .returned (.int .i64 r) ∧ Drawn0 w w' := by
 have H : ((copperplateref05_at.f k a0 a1 (⟨#[48]⟩ : ByteArray)).bind fun t105 => (if t105 = true then (some (wrap64 (a1 + 1))) else ((copperplateref04_Digits.f k a0 a1).bind fun t106 => (some t106)))) = some r := h
 clear h
 replace H := Option.bind_eq_some_iff.mp H
 obtain ⟨t105, A30, H⟩ := H
 replace H : (if t105 = true then (some (wrap64 (a1 + 1))) else ((copperplateref04_Digits.f k a0 a1).bind fun t106 => (some t106))) = some r := H
 have A3 := Aside0.mk A30
 clear A30
 by_cases c4 : t105 = true
 ·subst c4
  have H1 : (some (wrap64 (a1 + 1))) = some r := by rw [if_pos rfl] at H; exact H
  clear H
  have H := H1
  clear H1
  obtain rfl := Option.some.inj H
  go_enter Tryz.func58, Tryz.ntmps58
  go_wp2_with (first | ((with_reducible refine gate_callee (f := 57) rfl ?_); refine goesL_ (some 8) rfl rfl Tryz.func57 (by kernel_rfl) rfl #[.string a0, .int .i64 a1, .string (⟨#[48]⟩ : ByteArray)] rfl gz ?_; (with_reducible refine (copperplateref05_at.calls k a0 a1 (⟨#[48]⟩ : ByteArray) true _ A3.out).mono ?_); rintro e w' ⟨rfl, ⟨nd, rfl⟩⟩; refine ⟨_, rfl, ?_⟩))
  go_ret
  exact ⟨by first | rfl | (simp; done) | (simp [*]; done), by repeat (first | exact Drawn0.refl _ | apply Drawn0.step)⟩
 ·replace c4 := Bool.eq_false_iff.mpr c4
  subst c4
  have H1 : ((copperplateref04_Digits.f k a0 a1).bind fun t106 => (some t106)) = some r := by rw [if_neg (show ¬ (false = true) by decide)] at H; exact H
  clear H
  have H := H1
  clear H1
  replace H := Option.bind_eq_some_iff.mp H
  obtain ⟨t106, A50, H⟩ := H
  replace H : (some t106) = some r := H
  have A5 := Aside0.mk A50
  clear A50
  obtain rfl := Option.some.inj H
  go_enter Tryz.func58, Tryz.ntmps58
  go_wp2_with (first | ((with_reducible refine gate_callee (f := 57) rfl ?_); refine goesL_ (some 8) rfl rfl Tryz.func57 (by kernel_rfl) rfl #[.string a0, .int .i64 a1, .string (⟨#[48]⟩ : ByteArray)] rfl gz ?_; (with_reducible refine (copperplateref05_at.calls k a0 a1 (⟨#[48]⟩ : ByteArray) false _ A3.out).mono ?_); rintro e w' ⟨rfl, ⟨nd, rfl⟩⟩; refine ⟨_, rfl, ?_⟩) | ((with_reducible refine gate_callee (f := 59) rfl ?_); refine goesL_ (some 14) rfl rfl Tryz.func59 (by kernel_rfl) rfl #[.string a0, .int .i64 a1] rfl gz ?_; (with_reducible refine (copperplateref04_Digits.calls k a0 a1 t106 _ A5.out).mono ?_); rintro e w' ⟨rfl, ⟨nd, rfl⟩⟩; refine ⟨_, rfl, ?_⟩))
  go_ret
  exact ⟨by first | rfl | (simp; done) | (simp [*]; done), by repeat (first | exact Drawn0.refl _ | apply Drawn0.step)⟩
mutual
def copperplateref05_Number.j0 : Nat → ByteArray → Int → Bool → Option (Int × Int × Bool)
 | 0, _, _, _ => none
 | k + 1, x0, x1, x21 => if x21 = true then (some (0, x1, false)) else ((copperplateref05_at.f k x0 x1 (⟨#[45]⟩ : ByteArray)).bind fun t107 => (if t107 = true then (copperplateref05_Number.j1 k x0 (wrap64 (x1 + 1)) 3) else (copperplateref05_Number.j1 k x0 x1 3)))
def copperplateref05_Number.j1 : Nat → ByteArray → Int → Int → Option (Int × Int × Bool)
 | 0, _, _, _ => none
 | k + 1, x0, x1, x7 => (copperplateref05_whole.f k x0 x1).bind fun t108 => (if t108 = x1 then (some (0, x1, false)) else ((copperplateref05_at.f k x0 t108 (⟨#[46]⟩ : ByteArray)).bind fun t109 => (if t109 = true then ((copperplateref04_Digits.f k x0 (wrap64 (t108 + 1))).bind fun t110 => (if t110 = (wrap64 (t108 + 1)) then (some (0, t110, false)) else (copperplateref05_Number.j2 k x0 t110 4))) else (copperplateref05_Number.j2 k x0 t108 x7))))
def copperplateref05_Number.j2 : Nat → ByteArray → Int → Int → Option (Int × Int × Bool)
 | 0, _, _, _ => none
 | k + 1, x0, x1, x7 => (copperplateref05_at.f k x0 x1 (⟨#[101, 69]⟩ : ByteArray)).bind fun t111 => (if t111 = true then ((copperplateref05_at.f k x0 (wrap64 (x1 + 1)) (⟨#[43, 45]⟩ : ByteArray)).bind fun t112 => (if t112 = true then ((copperplateref04_Digits.f k x0 (wrap64 ((wrap64 (x1 + 1)) + 1))).bind fun t113 => (if t113 = (wrap64 ((wrap64 (x1 + 1)) + 1)) then (some (0, wrap64 ((wrap64 (x1 + 1)) + 1), false)) else (copperplateref05_Number.j3 k x0 t113 4))) else ((copperplateref04_Digits.f k x0 (wrap64 (x1 + 1))).bind fun t114 => (if t114 = (wrap64 (x1 + 1)) then (some (0, wrap64 (x1 + 1), false)) else (copperplateref05_Number.j3 k x0 t114 4))))) else (copperplateref05_Number.j3 k x0 x1 x7))
def copperplateref05_Number.j3 : Nat → ByteArray → Int → Int → Option (Int × Int × Bool)
 | 0, _, _, _ => none
 | k + 1, x0, x1, x7 => (copperplateref05_at.f k x0 x1 (⟨#[48, 49, 50, 51, 52, 53, 54, 55, 56, 57, 46]⟩ : ByteArray)).bind fun t115 => (if t115 = true then (some (0, x1, false)) else (if x1 < (x0.size : Int) then (if 0 ≤ x1 then ((copperplateref04_Begins.f (bt x0 x1)).bind fun t116 => (if t116 = true then (some (0, x1, false)) else (some (x7, x1, true)))) else (none)) else (some (x7, x1, true))))
end
def copperplateref05_Number.f (k : Nat) (a0 : ByteArray) (a1 : Int) : Option (Int × Int × Bool) := if a1 < 0 then (copperplateref05_Number.j0 k a0 a1 true) else (copperplateref05_Number.j0 k a0 a1 (decide (a1 ≥ (a0.size : Int))))
theorem copperplateref05_Number.mono_l : ∀ k, (∀ y0 y1 y2, LeO (copperplateref05_Number.j0 k y0 y1 y2) (copperplateref05_Number.j0 (k + 1) y0 y1 y2)) ∧ (∀ y0 y1 y2, LeO (copperplateref05_Number.j1 k y0 y1 y2) (copperplateref05_Number.j1 (k + 1) y0 y1 y2)) ∧ (∀ y0 y1 y2, LeO (copperplateref05_Number.j2 k y0 y1 y2) (copperplateref05_Number.j2 (k + 1) y0 y1 y2)) ∧ (∀ y0 y1 y2, LeO (copperplateref05_Number.j3 k y0 y1 y2) (copperplateref05_Number.j3 (k + 1) y0 y1 y2))
 | 0 => ⟨fun _ _ _ r h => by simp [copperplateref05_Number.j0] at h, fun _ _ _ r h => by simp [copperplateref05_Number.j1] at h, fun _ _ _ r h => by simp [copperplateref05_Number.j2] at h, fun _ _ _ r h => by simp [copperplateref05_Number.j3] at h⟩
 | k + 1 => by
  obtain ⟨ih0, ih1, ih2, ih3⟩ := copperplateref05_Number.mono_l k
  refine ⟨?_, ?_, ?_, ?_⟩
  ·intro y0 y1 y2
   unfold copperplateref05_Number.j0
   repeat' first
   | (with_reducible exact ih0 _ _ _)
   | (with_reducible exact ih1 _ _ _)
   | (with_reducible exact ih2 _ _ _)
   | (with_reducible exact ih3 _ _ _)
   | (with_reducible exact copperplateref04_Digits.mono _ _ _)
   | (with_reducible exact copperplateref05_at.mono _ _ _ _)
   | (with_reducible exact copperplateref05_whole.mono _ _ _)
   | (with_reducible exact LeO.refl _)
   | (with_reducible exact LeO.none _)
   | (with_reducible refine LeO.ite ?_ ?_)
   | (with_reducible refine LeO.bind ?_ (fun _ => ?_))
   | exact ih0 _ _ _
   | exact ih1 _ _ _
   | exact ih2 _ _ _
   | exact ih3 _ _ _
   | exact copperplateref04_Digits.mono _ _ _
   | exact copperplateref05_at.mono _ _ _ _
   | exact copperplateref05_whole.mono _ _ _
   | exact LeO.none _
   | refine LeO.ite ?_ ?_
   | refine LeO.bind ?_ (fun _ => ?_)
  ·intro y0 y1 y2
   unfold copperplateref05_Number.j1
   repeat' first
   | (with_reducible exact ih0 _ _ _)
   | (with_reducible exact ih1 _ _ _)
   | (with_reducible exact ih2 _ _ _)
   | (with_reducible exact ih3 _ _ _)
   | (with_reducible exact copperplateref04_Digits.mono _ _ _)
   | (with_reducible exact copperplateref05_at.mono _ _ _ _)
   | (with_reducible exact copperplateref05_whole.mono _ _ _)
   | (with_reducible exact LeO.refl _)
   | (with_reducible exact LeO.none _)
   | (with_reducible refine LeO.ite ?_ ?_)
   | (with_reducible refine LeO.bind ?_ (fun _ => ?_))
   | exact ih0 _ _ _
   | exact ih1 _ _ _
   | exact ih2 _ _ _
   | exact ih3 _ _ _
   | exact copperplateref04_Digits.mono _ _ _
   | exact copperplateref05_at.mono _ _ _ _
   | exact copperplateref05_whole.mono _ _ _
   | exact LeO.none _
   | refine LeO.ite ?_ ?_
   | refine LeO.bind ?_ (fun _ => ?_)
  ·intro y0 y1 y2
   unfold copperplateref05_Number.j2
   repeat' first
   | (with_reducible exact ih0 _ _ _)
   | (with_reducible exact ih1 _ _ _)
   | (with_reducible exact ih2 _ _ _)
   | (with_reducible exact ih3 _ _ _)
   | (with_reducible exact copperplateref04_Digits.mono _ _ _)
   | (with_reducible exact copperplateref05_at.mono _ _ _ _)
   | (with_reducible exact copperplateref05_whole.mono _ _ _)
   | (with_reducible exact LeO.refl _)
   | (with_reducible exact LeO.none _)
   | (with_reducible refine LeO.ite ?_ ?_)
   | (with_reducible refine LeO.bind ?_ (fun _ => ?_))
   | exact ih0 _ _ _
   | exact ih1 _ _ _
   | exact ih2 _ _ _
   | exact ih3 _ _ _
   | exact copperplateref04_Digits.mono _ _ _
   | exact copperplateref05_at.mono _ _ _ _
   | exact copperplateref05_whole.mono _ _ _
   | exact LeO.none _
   | refine LeO.ite ?_ ?_
   | refine LeO.bind ?_ (fun _ => ?_)
  ·intro y0 y1 y2
   unfold copperplateref05_Number.j3
   repeat' first
   | (with_reducible exact ih0 _ _ _)
   | (with_reducible exact ih1 _ _ _)
   | (with_reducible exact ih2 _ _ _)
   | (with_reducible exact ih3 _ _ _)
   | (with_reducible exact copperplateref04_Digits.mono _ _ _)
   | (with_reducible exact copperplateref05_at.mono _ _ _ _)
   | (with_reducible exact copperplateref05_whole.mono _ _ _)
   | (with_reducible exact LeO.refl _)
   | (with_reducible exact LeO.none _)
   | (with_reducible refine LeO.ite ?_ ?_)
   | (with_reducible refine LeO.bind ?_ (fun _ => ?_))
   | exact ih0 _ _ _
   | exact ih1 _ _ _
   | exact ih2 _ _ _
   | exact ih3 _ _ _
   | exact copperplateref04_Digits.mono _ _ _
   | exact copperplateref05_at.mono _ _ _ _
   | exact copperplateref05_whole.mono _ _ _
   | exact LeO.none _
   | refine LeO.ite ?_ ?_
   | refine LeO.bind ?_ (fun _ => ?_)
theorem copperplateref05_Number.mono : ∀ a0 a1 k, LeO (copperplateref05_Number.f k a0 a1) (copperplateref05_Number.f (k + 1) a0 a1) := by
 intro a0 a1 k
 obtain ⟨ih0, ih1, ih2, ih3⟩ := copperplateref05_Number.mono_l k
 unfold copperplateref05_Number.f
 repeat' first
   | (with_reducible exact ih0 _ _ _)
   | (with_reducible exact ih1 _ _ _)
   | (with_reducible exact ih2 _ _ _)
   | (with_reducible exact ih3 _ _ _)
   | (with_reducible exact copperplateref04_Digits.mono _ _ _)
   | (with_reducible exact copperplateref05_at.mono _ _ _ _)
   | (with_reducible exact copperplateref05_whole.mono _ _ _)
   | (with_reducible exact LeO.refl _)
   | (with_reducible exact LeO.none _)
   | (with_reducible refine LeO.ite ?_ ?_)
   | (with_reducible refine LeO.bind ?_ (fun _ => ?_))
   | exact ih0 _ _ _
   | exact ih1 _ _ _
   | exact ih2 _ _ _
   | exact ih3 _ _ _
   | exact copperplateref04_Digits.mono _ _ _
   | exact copperplateref05_at.mono _ _ _ _
   | exact copperplateref05_whole.mono _ _ _
   | exact LeO.none _
   | refine LeO.ite ?_ ?_
   | refine LeO.bind ?_ (fun _ => ?_)
set_option maxHeartbeats 8000000 in
set_option maxRecDepth 100000 in
theorem copperplateref05_Number.calls (k : Nat) (a0 : ByteArray) (a1 : Int) (r1 : Int) (r2 : Int) (r3 : Bool) (w : World) (h : copperplateref05_Number.f k a0 a1 = some (r1, r2, r3)) :
  Calls Tryz.prog 26 #[.string a0, .int .i64 a1] w fun e w' => e = .returned (.tuple #[.int .i64 r1, .int .i64 r2, .bool r3]) ∧ Drawn0 w w' := by
 have H : (if a1 < 0 then (copperplateref05_Number.j0 k a0 a1 true) else (copperplateref05_Number.j0 k a0 a1 (decide (a1 ≥ (a0.size : Int))))) = some (r1, r2, r3) := h
 clear h
 have HC3 := Aside0.mk H
 clear H
 go_enter Tryz.func26, Tryz.ntmps26
 go_upto_region 1 with (fail)
 go_cut [21] (fun v21 wc => ∃ (kq : Nat) (x21_2 : Bool), v21 = .bool x21_2 ∧ Aside0 (copperplateref05_Number.j0 kq a0 a1 x21_2 = some (r1, r2, r3)) ∧ Aside0 (kq ≤ k) ∧ Drawn0 w wc)
 case first =>
  have H := HC3.out
  clear HC3
  by_cases c4 : a1 < 0
  ·rw [if_pos c4] at H
   have c4b0 : decide (a1 < 0) = true := decide_eq_true c4
   clear c4
   (first | rw [c4b0] | (simp only [i64_w, i32_w]; rw [c4b0]) | skip)
   have H' := Aside0.mk H
   clear H
   go_wp2
   go_meet
   case rel => exact ⟨_, (true), (by first | rfl | (simp; done) | (simp [*]; done)), H', ⟨by first | omega | exact Nat.le_refl _⟩, by repeat (first | exact Drawn0.refl _ | apply Drawn0.step)⟩
  ·rw [if_neg c4] at H
   have c4b0 : decide (a1 < 0) = false := decide_eq_false c4
   clear c4
   (first | rw [c4b0] | (simp only [i64_w, i32_w]; rw [c4b0]) | skip)
   have H' := Aside0.mk H
   clear H
   go_wp2
   go_meet
   case rel => exact ⟨_, (decide (a1 ≥ (a0.size : Int))), (by first | rfl | (simp; done) | (simp [*]; done)), H', ⟨by first | omega | exact Nat.le_refl _⟩, by repeat (first | exact Drawn0.refl _ | apply Drawn0.step)⟩
 case rest =>
  clear HC3
  try clear c2
  try clear p2
  try clear c4
  try clear c4b0
  obtain ⟨kq, x21_2, rfl, HA, HJ2, ⟨mc2, rfl⟩⟩ := hcut
  cases kq with
  | zero => exact absurd HA.out (by simp [copperplateref05_Number.j0])
  | succ kj2 =>
   have H := HA.out
   clear HA
   simp only [copperplateref05_Number.j0] at H
   by_cases c5 : x21_2 = true
   ·subst c5
    have H1 : (some (0, a1, false)) = some (r1, r2, r3) := by rw [if_pos rfl] at H; exact H
    clear H
    have H := H1
    clear H1
    simp only [Option.some.injEq, Prod.mk.injEq] at H
    obtain ⟨rfl, rfl, rfl⟩ := H
    go_wp2
    go_ret3
    exact ⟨by first | rfl | (simp; done) | (simp [*]; done), by repeat (first | exact Drawn0.refl _ | apply Drawn0.step)⟩
   ·replace c5 := Bool.eq_false_iff.mpr c5
    subst c5
    have H1 : ((copperplateref05_at.f kj2 a0 a1 (⟨#[45]⟩ : ByteArray)).bind fun t107 => (if t107 = true then (copperplateref05_Number.j1 kj2 a0 (wrap64 (a1 + 1)) 3) else (copperplateref05_Number.j1 kj2 a0 a1 3))) = some (r1, r2, r3) := by rw [if_neg (show ¬ (false = true) by decide)] at H; exact H
    clear H
    have H := H1
    clear H1
    replace H := Option.bind_eq_some_iff.mp H
    obtain ⟨t107, A60, H⟩ := H
    replace H : (if t107 = true then (copperplateref05_Number.j1 kj2 a0 (wrap64 (a1 + 1)) 3) else (copperplateref05_Number.j1 kj2 a0 a1 3)) = some (r1, r2, r3) := H
    have A6 := Aside0.mk A60
    clear A60
    have HC7 := Aside0.mk H
    clear H
    go_upto_if 26 with (first | ((with_reducible refine gate_callee (f := 57) rfl ?_); refine goesL_ (some 25) rfl rfl Tryz.func57 (by kernel_rfl) rfl #[.string a0, .int .i64 a1, .string (⟨#[45]⟩ : ByteArray)] rfl gz ?_; (with_reducible refine (copperplateref05_at.calls kj2 a0 a1 (⟨#[45]⟩ : ByteArray) t107 _ A6.out).mono ?_); rintro e w' ⟨rfl, ⟨nd, rfl⟩⟩; refine ⟨_, rfl, ?_⟩))
    (try simp only [Act.put, List.setIfInBounds_toArray, List.set_cons_zero, List.set_cons_succ])
    go_cut [1] (fun v1 wc => ∃ (kq : Nat) (x1_6 : Int), v1 = .int .i64 x1_6 ∧ Aside0 (copperplateref05_Number.j1 kq a0 x1_6 3 = some (r1, r2, r3)) ∧ Aside0 (kq ≤ kj2) ∧ Drawn0 w wc)
    case first =>
     have H := HC7.out
     clear HC7
     by_cases c8 : t107 = true
     ·subst c8
      have H1 : (copperplateref05_Number.j1 kj2 a0 (wrap64 (a1 + 1)) 3) = some (r1, r2, r3) := by rw [if_pos rfl] at H; exact H
      clear H
      have H := H1
      clear H1
      have H' := Aside0.mk H
      clear H
      go_wp2
      go_meet
      case rel => exact ⟨_, (wrap64 (a1 + 1)), (by first | rfl | (simp; done) | (simp [*]; done)), H', ⟨by have := HJ2.out; first | omega | exact Nat.le_refl _⟩, by repeat (first | exact Drawn0.refl _ | apply Drawn0.step)⟩
     ·replace c8 := Bool.eq_false_iff.mpr c8
      subst c8
      have H1 : (copperplateref05_Number.j1 kj2 a0 a1 3) = some (r1, r2, r3) := by rw [if_neg (show ¬ (false = true) by decide)] at H; exact H
      clear H
      have H := H1
      clear H1
      have H' := Aside0.mk H
      clear H
      go_wp2
      go_meet
      case rel => exact ⟨_, (a1), (by first | rfl | (simp; done) | (simp [*]; done)), H', ⟨by have := HJ2.out; first | omega | exact Nat.le_refl _⟩, by repeat (first | exact Drawn0.refl _ | apply Drawn0.step)⟩
    case rest =>
     clear HC7
     try clear c2
     try clear p2
     try clear c4
     try clear c4b0
     try clear c5
     try clear p6
     try clear c8
     try clear p2
     obtain ⟨kq, x1_6, rfl, HA, HJ6, ⟨mc6, rfl⟩⟩ := hcut
     cases kq with
     | zero => exact absurd HA.out (by simp [copperplateref05_Number.j1])
     | succ kj6 =>
      have H := HA.out
      clear HA
      simp only [copperplateref05_Number.j1] at H
      replace H := Option.bind_eq_some_iff.mp H
      obtain ⟨t108, A90, H⟩ := H
      replace H : (if t108 = x1_6 then (some (0, x1_6, false)) else ((copperplateref05_at.f kj6 a0 t108 (⟨#[46]⟩ : ByteArray)).bind fun t109 => (if t109 = true then ((copperplateref04_Digits.f kj6 a0 (wrap64 (t108 + 1))).bind fun t110 => (if t110 = (wrap64 (t108 + 1)) then (some (0, t110, false)) else (copperplateref05_Number.j2 kj6 a0 t110 4))) else (copperplateref05_Number.j2 kj6 a0 t108 3)))) = some (r1, r2, r3) := H
      have A9 := Aside0.mk A90
      clear A90
      by_cases c10 : t108 = x1_6
      ·rw [if_pos c10] at H
       have c10b0 : (t108 == x1_6) = true := beq_iff_eq.mpr c10
       have c10b1 : (t108 != x1_6) = false := bne_eq_false_iff_eq.mpr c10
       clear c10
       simp only [Option.some.injEq, Prod.mk.injEq] at H
       obtain ⟨rfl, rfl, rfl⟩ := H
       go_wp2_with (first | ((with_reducible refine gate_callee (f := 58) rfl ?_); refine goesL_ (some 31) rfl rfl Tryz.func58 (by kernel_rfl) rfl #[.string a0, .int .i64 x1_6] rfl gz ?_; (with_reducible refine (copperplateref05_whole.calls kj6 a0 x1_6 t108 _ A9.out).mono ?_); rintro e w' ⟨rfl, ⟨nd, rfl⟩⟩; refine ⟨_, rfl, ?_⟩))
       go_ret3
       exact ⟨by first | rfl | (simp; done) | (simp [*]; done), by repeat (first | exact Drawn0.refl _ | apply Drawn0.step)⟩
      ·rw [if_neg c10] at H
       have c10b0 : (t108 == x1_6) = false := beq_eq_false_iff_ne.mpr c10
       have c10b1 : (t108 != x1_6) = true := bne_iff_ne.mpr c10
       replace H := Option.bind_eq_some_iff.mp H
       obtain ⟨t109, A110, H⟩ := H
       replace H : (if t109 = true then ((copperplateref04_Digits.f kj6 a0 (wrap64 (t108 + 1))).bind fun t110 => (if t110 = (wrap64 (t108 + 1)) then (some (0, t110, false)) else (copperplateref05_Number.j2 kj6 a0 t110 4))) else (copperplateref05_Number.j2 kj6 a0 t108 3)) = some (r1, r2, r3) := H
       have A11 := Aside0.mk A110
       clear A110
       have HC12 := Aside0.mk H
       clear H
       go_upto_if 40 with (first | ((with_reducible refine gate_callee (f := 58) rfl ?_); refine goesL_ (some 31) rfl rfl Tryz.func58 (by kernel_rfl) rfl #[.string a0, .int .i64 x1_6] rfl gz ?_; (with_reducible refine (copperplateref05_whole.calls kj6 a0 x1_6 t108 _ A9.out).mono ?_); rintro e w' ⟨rfl, ⟨nd, rfl⟩⟩; refine ⟨_, rfl, ?_⟩) | ((with_reducible refine gate_callee (f := 57) rfl ?_); refine goesL_ (some 39) rfl rfl Tryz.func57 (by kernel_rfl) rfl #[.string a0, .int .i64 t108, .string (⟨#[46]⟩ : ByteArray)] rfl gz ?_; (with_reducible refine (copperplateref05_at.calls kj6 a0 t108 (⟨#[46]⟩ : ByteArray) t109 _ A11.out).mono ?_); rintro e w' ⟨rfl, ⟨nd, rfl⟩⟩; refine ⟨_, rfl, ?_⟩))
       (try simp only [Act.put, List.setIfInBounds_toArray, List.set_cons_zero, List.set_cons_succ])
       go_cut [1, 7] (fun v1 v7 wc => ∃ (kq : Nat) (x1_11 : Int) (x7_11 : Int), v1 = .int .i64 x1_11 ∧ v7 = .int .i64 x7_11 ∧ Aside0 (copperplateref05_Number.j2 kq a0 x1_11 x7_11 = some (r1, r2, r3)) ∧ Aside0 (kq ≤ kj6) ∧ Drawn0 w wc)
       case first =>
        have H := HC12.out
        clear HC12
        by_cases c13 : t109 = true
        ·subst c13
         have H1 : ((copperplateref04_Digits.f kj6 a0 (wrap64 (t108 + 1))).bind fun t110 => (if t110 = (wrap64 (t108 + 1)) then (some (0, t110, false)) else (copperplateref05_Number.j2 kj6 a0 t110 4))) = some (r1, r2, r3) := by rw [if_pos rfl] at H; exact H
         clear H
         have H := H1
         clear H1
         replace H := Option.bind_eq_some_iff.mp H
         obtain ⟨t110, A140, H⟩ := H
         replace H : (if t110 = (wrap64 (t108 + 1)) then (some (0, t110, false)) else (copperplateref05_Number.j2 kj6 a0 t110 4)) = some (r1, r2, r3) := H
         have A14 := Aside0.mk A140
         clear A140
         by_cases c15 : t110 = (wrap64 (t108 + 1))
         ·rw [if_pos c15] at H
          have c15b0 : (t110 == (wrap64 (t108 + 1))) = true := beq_iff_eq.mpr c15
          have c15b1 : (t110 != (wrap64 (t108 + 1))) = false := bne_eq_false_iff_eq.mpr c15
          clear c15
          (first | rw [c15b0] | (simp only [i64_w, i32_w]; rw [c15b0]) | skip)
          simp only [Option.some.injEq, Prod.mk.injEq] at H
          obtain ⟨rfl, rfl, rfl⟩ := H
          go_wp2_with (first | ((with_reducible refine gate_callee (f := 59) rfl ?_); refine goesL_ (some 44) rfl rfl Tryz.func59 (by kernel_rfl) rfl #[.string a0, .int .i64 (wrap64 (t108 + 1))] rfl gz ?_; (with_reducible refine (copperplateref04_Digits.calls kj6 a0 (wrap64 (t108 + 1)) t110 _ A14.out).mono ?_); rintro e w' ⟨rfl, ⟨nd, rfl⟩⟩; refine ⟨_, rfl, ?_⟩))
          go_ret3
          exact ⟨by first | rfl | (simp; done) | (simp [*]; done), by repeat (first | exact Drawn0.refl _ | apply Drawn0.step)⟩
         ·rw [if_neg c15] at H
          have c15b0 : (t110 == (wrap64 (t108 + 1))) = false := beq_eq_false_iff_ne.mpr c15
          have c15b1 : (t110 != (wrap64 (t108 + 1))) = true := bne_iff_ne.mpr c15
          (first | rw [c15b0] | (simp only [i64_w, i32_w]; rw [c15b0]) | skip)
          have H' := Aside0.mk H
          clear H
          go_wp2_with (first | ((with_reducible refine gate_callee (f := 59) rfl ?_); refine goesL_ (some 44) rfl rfl Tryz.func59 (by kernel_rfl) rfl #[.string a0, .int .i64 (wrap64 (t108 + 1))] rfl gz ?_; (with_reducible refine (copperplateref04_Digits.calls kj6 a0 (wrap64 (t108 + 1)) t110 _ A14.out).mono ?_); rintro e w' ⟨rfl, ⟨nd, rfl⟩⟩; refine ⟨_, rfl, ?_⟩))
          go_meet
          case rel => exact ⟨_, (t110), (4), (by first | rfl | (simp; done) | (simp [*]; done)), (by first | rfl | (simp; done) | (simp [*]; done)), H', ⟨by have := HJ2.out; have := HJ6.out; first | omega | exact Nat.le_refl _⟩, by repeat (first | exact Drawn0.refl _ | apply Drawn0.step)⟩
        ·replace c13 := Bool.eq_false_iff.mpr c13
         subst c13
         have H1 : (copperplateref05_Number.j2 kj6 a0 t108 3) = some (r1, r2, r3) := by rw [if_neg (show ¬ (false = true) by decide)] at H; exact H
         clear H
         have H := H1
         clear H1
         have H' := Aside0.mk H
         clear H
         go_wp2
         go_meet
         case rel => exact ⟨_, (t108), (3), (by first | rfl | (simp; done) | (simp [*]; done)), (by first | rfl | (simp; done) | (simp [*]; done)), H', ⟨by have := HJ2.out; have := HJ6.out; first | omega | exact Nat.le_refl _⟩, by repeat (first | exact Drawn0.refl _ | apply Drawn0.step)⟩
       case rest =>
        clear HC12
        try clear c1
        try clear c2
        try clear p2
        try clear c4
        try clear c4b0
        try clear c5
        try clear c6
        try clear p6
        try clear c8
        try clear c10
        try clear c10b0
        try clear c10b1
        try clear c13
        try clear c15
        try clear c15b0
        try clear c15b1
        try clear p2
        try clear p6
        obtain ⟨kq, x1_11, x7_11, rfl, rfl, HA, HJ11, ⟨mc11, rfl⟩⟩ := hcut
        cases kq with
        | zero => exact absurd HA.out (by simp [copperplateref05_Number.j2])
        | succ kj11 =>
         have H := HA.out
         clear HA
         simp only [copperplateref05_Number.j2] at H
         replace H := Option.bind_eq_some_iff.mp H
         obtain ⟨t111, A160, H⟩ := H
         replace H : (if t111 = true then ((copperplateref05_at.f kj11 a0 (wrap64 (x1_11 + 1)) (⟨#[43, 45]⟩ : ByteArray)).bind fun t112 => (if t112 = true then ((copperplateref04_Digits.f kj11 a0 (wrap64 ((wrap64 (x1_11 + 1)) + 1))).bind fun t113 => (if t113 = (wrap64 ((wrap64 (x1_11 + 1)) + 1)) then (some (0, wrap64 ((wrap64 (x1_11 + 1)) + 1), false)) else (copperplateref05_Number.j3 kj11 a0 t113 4))) else ((copperplateref04_Digits.f kj11 a0 (wrap64 (x1_11 + 1))).bind fun t114 => (if t114 = (wrap64 (x1_11 + 1)) then (some (0, wrap64 (x1_11 + 1), false)) else (copperplateref05_Number.j3 kj11 a0 t114 4))))) else (copperplateref05_Number.j3 kj11 a0 x1_11 x7_11)) = some (r1, r2, r3) := H
         have A16 := Aside0.mk A160
         clear A160
         have HC17 := Aside0.mk H
         clear H
         go_upto_if 54 with (first | ((with_reducible refine gate_callee (f := 57) rfl ?_); refine goesL_ (some 53) rfl rfl Tryz.func57 (by kernel_rfl) rfl #[.string a0, .int .i64 x1_11, .string (⟨#[101, 69]⟩ : ByteArray)] rfl gz ?_; (with_reducible refine (copperplateref05_at.calls kj11 a0 x1_11 (⟨#[101, 69]⟩ : ByteArray) t111 _ A16.out).mono ?_); rintro e w' ⟨rfl, ⟨nd, rfl⟩⟩; refine ⟨_, rfl, ?_⟩))
         (try simp only [Act.put, List.setIfInBounds_toArray, List.set_cons_zero, List.set_cons_succ])
         go_cut [1, 7] (fun v1 v7 wc => ∃ (kq : Nat) (x1_16 : Int) (x7_16 : Int), v1 = .int .i64 x1_16 ∧ v7 = .int .i64 x7_16 ∧ Aside0 (copperplateref05_Number.j3 kq a0 x1_16 x7_16 = some (r1, r2, r3)) ∧ Aside0 (kq ≤ kj11) ∧ Drawn0 w wc)
         case first =>
          have H := HC17.out
          clear HC17
          by_cases c18 : t111 = true
          ·subst c18
           have H1 : ((copperplateref05_at.f kj11 a0 (wrap64 (x1_11 + 1)) (⟨#[43, 45]⟩ : ByteArray)).bind fun t112 => (if t112 = true then ((copperplateref04_Digits.f kj11 a0 (wrap64 ((wrap64 (x1_11 + 1)) + 1))).bind fun t113 => (if t113 = (wrap64 ((wrap64 (x1_11 + 1)) + 1)) then (some (0, wrap64 ((wrap64 (x1_11 + 1)) + 1), false)) else (copperplateref05_Number.j3 kj11 a0 t113 4))) else ((copperplateref04_Digits.f kj11 a0 (wrap64 (x1_11 + 1))).bind fun t114 => (if t114 = (wrap64 (x1_11 + 1)) then (some (0, wrap64 (x1_11 + 1), false)) else (copperplateref05_Number.j3 kj11 a0 t114 4))))) = some (r1, r2, r3) := by rw [if_pos rfl] at H; exact H
           clear H
           have H := H1
           clear H1
           replace H := Option.bind_eq_some_iff.mp H
           obtain ⟨t112, A190, H⟩ := H
           replace H : (if t112 = true then ((copperplateref04_Digits.f kj11 a0 (wrap64 ((wrap64 (x1_11 + 1)) + 1))).bind fun t113 => (if t113 = (wrap64 ((wrap64 (x1_11 + 1)) + 1)) then (some (0, wrap64 ((wrap64 (x1_11 + 1)) + 1), false)) else (copperplateref05_Number.j3 kj11 a0 t113 4))) else ((copperplateref04_Digits.f kj11 a0 (wrap64 (x1_11 + 1))).bind fun t114 => (if t114 = (wrap64 (x1_11 + 1)) then (some (0, wrap64 (x1_11 + 1), false)) else (copperplateref05_Number.j3 kj11 a0 t114 4)))) = some (r1, r2, r3) := H
           have A19 := Aside0.mk A190
           clear A190
           by_cases c20 : t112 = true
           ·subst c20
            have H1 : ((copperplateref04_Digits.f kj11 a0 (wrap64 ((wrap64 (x1_11 + 1)) + 1))).bind fun t113 => (if t113 = (wrap64 ((wrap64 (x1_11 + 1)) + 1)) then (some (0, wrap64 ((wrap64 (x1_11 + 1)) + 1), false)) else (copperplateref05_Number.j3 kj11 a0 t113 4))) = some (r1, r2, r3) := by rw [if_pos rfl] at H; exact H
            clear H
            have H := H1
            clear H1
            replace H := Option.bind_eq_some_iff.mp H
            obtain ⟨t113, A210, H⟩ := H
            replace H : (if t113 = (wrap64 ((wrap64 (x1_11 + 1)) + 1)) then (some (0, wrap64 ((wrap64 (x1_11 + 1)) + 1), false)) else (copperplateref05_Number.j3 kj11 a0 t113 4)) = some (r1, r2, r3) := H
            have A21 := Aside0.mk A210
            clear A210
            by_cases c22 : t113 = (wrap64 ((wrap64 (x1_11 + 1)) + 1))
            ·rw [if_pos c22] at H
             have c22b0 : (t113 == (wrap64 ((wrap64 (x1_11 + 1)) + 1))) = true := beq_iff_eq.mpr c22
             have c22b1 : (t113 != (wrap64 ((wrap64 (x1_11 + 1)) + 1))) = false := bne_eq_false_iff_eq.mpr c22
             clear c22
             (first | rw [c22b0] | (simp only [i64_w, i32_w]; rw [c22b0]) | skip)
             simp only [Option.some.injEq, Prod.mk.injEq] at H
             obtain ⟨rfl, rfl, rfl⟩ := H
             go_wp2_with (first | ((with_reducible refine gate_callee (f := 57) rfl ?_); refine goesL_ (some 59) rfl rfl Tryz.func57 (by kernel_rfl) rfl #[.string a0, .int .i64 (wrap64 (x1_11 + 1)), .string (⟨#[43, 45]⟩ : ByteArray)] rfl gz ?_; (with_reducible refine (copperplateref05_at.calls kj11 a0 (wrap64 (x1_11 + 1)) (⟨#[43, 45]⟩ : ByteArray) true _ A19.out).mono ?_); rintro e w' ⟨rfl, ⟨nd, rfl⟩⟩; refine ⟨_, rfl, ?_⟩) | ((with_reducible refine gate_callee (f := 59) rfl ?_); refine goesL_ (some 65) rfl rfl Tryz.func59 (by kernel_rfl) rfl #[.string a0, .int .i64 (wrap64 ((wrap64 (x1_11 + 1)) + 1))] rfl gz ?_; (with_reducible refine (copperplateref04_Digits.calls kj11 a0 (wrap64 ((wrap64 (x1_11 + 1)) + 1)) t113 _ A21.out).mono ?_); rintro e w' ⟨rfl, ⟨nd, rfl⟩⟩; refine ⟨_, rfl, ?_⟩))
             go_ret3
             exact ⟨by first | rfl | (simp; done) | (simp [*]; done), by repeat (first | exact Drawn0.refl _ | apply Drawn0.step)⟩
            ·rw [if_neg c22] at H
             have c22b0 : (t113 == (wrap64 ((wrap64 (x1_11 + 1)) + 1))) = false := beq_eq_false_iff_ne.mpr c22
             have c22b1 : (t113 != (wrap64 ((wrap64 (x1_11 + 1)) + 1))) = true := bne_iff_ne.mpr c22
             (first | rw [c22b0] | (simp only [i64_w, i32_w]; rw [c22b0]) | skip)
             have H' := Aside0.mk H
             clear H
             go_wp2_with (first | ((with_reducible refine gate_callee (f := 57) rfl ?_); refine goesL_ (some 59) rfl rfl Tryz.func57 (by kernel_rfl) rfl #[.string a0, .int .i64 (wrap64 (x1_11 + 1)), .string (⟨#[43, 45]⟩ : ByteArray)] rfl gz ?_; (with_reducible refine (copperplateref05_at.calls kj11 a0 (wrap64 (x1_11 + 1)) (⟨#[43, 45]⟩ : ByteArray) true _ A19.out).mono ?_); rintro e w' ⟨rfl, ⟨nd, rfl⟩⟩; refine ⟨_, rfl, ?_⟩) | ((with_reducible refine gate_callee (f := 59) rfl ?_); refine goesL_ (some 65) rfl rfl Tryz.func59 (by kernel_rfl) rfl #[.string a0, .int .i64 (wrap64 ((wrap64 (x1_11 + 1)) + 1))] rfl gz ?_; (with_reducible refine (copperplateref04_Digits.calls kj11 a0 (wrap64 ((wrap64 (x1_11 + 1)) + 1)) t113 _ A21.out).mono ?_); rintro e w' ⟨rfl, ⟨nd, rfl⟩⟩; refine ⟨_, rfl, ?_⟩))
             go_meet
             case rel => exact ⟨_, (t113), (4), (by first | rfl | (simp; done) | (simp [*]; done)), (by first | rfl | (simp; done) | (simp [*]; done)), H', ⟨by have := HJ2.out; have := HJ6.out; have := HJ11.out; first | omega | exact Nat.le_refl _⟩, by repeat (first | exact Drawn0.refl _ | apply Drawn0.step)⟩
           ·replace c20 := Bool.eq_false_iff.mpr c20
            subst c20
            have H1 : ((copperplateref04_Digits.f kj11 a0 (wrap64 (x1_11 + 1))).bind fun t114 => (if t114 = (wrap64 (x1_11 + 1)) then (some (0, wrap64 (x1_11 + 1), false)) else (copperplateref05_Number.j3 kj11 a0 t114 4))) = some (r1, r2, r3) := by rw [if_neg (show ¬ (false = true) by decide)] at H; exact H
            clear H
            have H := H1
            clear H1
            replace H := Option.bind_eq_some_iff.mp H
            obtain ⟨t114, A230, H⟩ := H
            replace H : (if t114 = (wrap64 (x1_11 + 1)) then (some (0, wrap64 (x1_11 + 1), false)) else (copperplateref05_Number.j3 kj11 a0 t114 4)) = some (r1, r2, r3) := H
            have A23 := Aside0.mk A230
            clear A230
            by_cases c24 : t114 = (wrap64 (x1_11 + 1))
            ·rw [if_pos c24] at H
             have c24b0 : (t114 == (wrap64 (x1_11 + 1))) = true := beq_iff_eq.mpr c24
             have c24b1 : (t114 != (wrap64 (x1_11 + 1))) = false := bne_eq_false_iff_eq.mpr c24
             clear c24
             simp only [Option.some.injEq, Prod.mk.injEq] at H
             obtain ⟨rfl, rfl, rfl⟩ := H
             go_wp2_with (first | ((with_reducible refine gate_callee (f := 57) rfl ?_); refine goesL_ (some 59) rfl rfl Tryz.func57 (by kernel_rfl) rfl #[.string a0, .int .i64 (wrap64 (x1_11 + 1)), .string (⟨#[43, 45]⟩ : ByteArray)] rfl gz ?_; (with_reducible refine (copperplateref05_at.calls kj11 a0 (wrap64 (x1_11 + 1)) (⟨#[43, 45]⟩ : ByteArray) false _ A19.out).mono ?_); rintro e w' ⟨rfl, ⟨nd, rfl⟩⟩; refine ⟨_, rfl, ?_⟩) | ((with_reducible refine gate_callee (f := 59) rfl ?_); refine goesL_ (some 65) rfl rfl Tryz.func59 (by kernel_rfl) rfl #[.string a0, .int .i64 (wrap64 (x1_11 + 1))] rfl gz ?_; (with_reducible refine (copperplateref04_Digits.calls kj11 a0 (wrap64 (x1_11 + 1)) t114 _ A23.out).mono ?_); rintro e w' ⟨rfl, ⟨nd, rfl⟩⟩; refine ⟨_, rfl, ?_⟩))
             go_ret3
             exact ⟨by first | rfl | (simp; done) | (simp [*]; done), by repeat (first | exact Drawn0.refl _ | apply Drawn0.step)⟩
            ·rw [if_neg c24] at H
             have c24b0 : (t114 == (wrap64 (x1_11 + 1))) = false := beq_eq_false_iff_ne.mpr c24
             have c24b1 : (t114 != (wrap64 (x1_11 + 1))) = true := bne_iff_ne.mpr c24
             have H' := Aside0.mk H
             clear H
             go_wp2_with (first | ((with_reducible refine gate_callee (f := 57) rfl ?_); refine goesL_ (some 59) rfl rfl Tryz.func57 (by kernel_rfl) rfl #[.string a0, .int .i64 (wrap64 (x1_11 + 1)), .string (⟨#[43, 45]⟩ : ByteArray)] rfl gz ?_; (with_reducible refine (copperplateref05_at.calls kj11 a0 (wrap64 (x1_11 + 1)) (⟨#[43, 45]⟩ : ByteArray) false _ A19.out).mono ?_); rintro e w' ⟨rfl, ⟨nd, rfl⟩⟩; refine ⟨_, rfl, ?_⟩) | ((with_reducible refine gate_callee (f := 59) rfl ?_); refine goesL_ (some 65) rfl rfl Tryz.func59 (by kernel_rfl) rfl #[.string a0, .int .i64 (wrap64 (x1_11 + 1))] rfl gz ?_; (with_reducible refine (copperplateref04_Digits.calls kj11 a0 (wrap64 (x1_11 + 1)) t114 _ A23.out).mono ?_); rintro e w' ⟨rfl, ⟨nd, rfl⟩⟩; refine ⟨_, rfl, ?_⟩))
             go_meet
             case rel => exact ⟨_, (t114), (4), (by first | rfl | (simp; done) | (simp [*]; done)), (by first | rfl | (simp; done) | (simp [*]; done)), H', ⟨by have := HJ2.out; have := HJ6.out; have := HJ11.out; first | omega | exact Nat.le_refl _⟩, by repeat (first | exact Drawn0.refl _ | apply Drawn0.step)⟩
          ·replace c18 := Bool.eq_false_iff.mpr c18
           subst c18
           have H1 : (copperplateref05_Number.j3 kj11 a0 x1_11 x7_11) = some (r1, r2, r3) := by rw [if_neg (show ¬ (false = true) by decide)] at H; exact H
           clear H
           have H := H1
           clear H1
           have H' := Aside0.mk H
           clear H
           go_wp2
           go_meet
           case rel => exact ⟨_, (x1_11), (x7_11), (by first | rfl | (simp; done) | (simp [*]; done)), (by first | rfl | (simp; done) | (simp [*]; done)), H', ⟨by have := HJ2.out; have := HJ6.out; have := HJ11.out; first | omega | exact Nat.le_refl _⟩, by repeat (first | exact Drawn0.refl _ | apply Drawn0.step)⟩
         case rest =>
          clear HC17
          try clear c1
          try clear c2
          try clear p2
          try clear c4
          try clear c4b0
          try clear c5
          try clear c6
          try clear p6
          try clear c8
          try clear c10
          try clear c10b0
          try clear c10b1
          try clear c11
          try clear c13
          try clear c15
          try clear c15b0
          try clear c15b1
          try clear c18
          try clear c20
          try clear c22
          try clear c22b0
          try clear c22b1
          try clear c24
          try clear c24b0
          try clear c24b1
          try clear p2
          try clear p6
          obtain ⟨kq, x1_16, x7_16, rfl, rfl, HA, HJ16, ⟨mc16, rfl⟩⟩ := hcut
          cases kq with
          | zero => exact absurd HA.out (by simp [copperplateref05_Number.j3])
          | succ kj16 =>
           have H := HA.out
           clear HA
           simp only [copperplateref05_Number.j3] at H
           replace H := Option.bind_eq_some_iff.mp H
           obtain ⟨t115, A250, H⟩ := H
           replace H : (if t115 = true then (some (0, x1_16, false)) else (if x1_16 < (a0.size : Int) then (if 0 ≤ x1_16 then ((copperplateref04_Begins.f (bt a0 x1_16)).bind fun t116 => (if t116 = true then (some (0, x1_16, false)) else (some (x7_16, x1_16, true)))) else (none)) else (some (x7_16, x1_16, true)))) = some (r1, r2, r3) := H
           have A25 := Aside0.mk A250
           clear A250
           by_cases c26 : t115 = true
           ·subst c26
            have H1 : (some (0, x1_16, false)) = some (r1, r2, r3) := by rw [if_pos rfl] at H; exact H
            clear H
            have H := H1
            clear H1
            simp only [Option.some.injEq, Prod.mk.injEq] at H
            obtain ⟨rfl, rfl, rfl⟩ := H
            go_wp2_with (first | ((with_reducible refine gate_callee (f := 57) rfl ?_); refine goesL_ (some 73) rfl rfl Tryz.func57 (by kernel_rfl) rfl #[.string a0, .int .i64 x1_16, .string (⟨#[48, 49, 50, 51, 52, 53, 54, 55, 56, 57, 46]⟩ : ByteArray)] rfl gz ?_; (with_reducible refine (copperplateref05_at.calls kj16 a0 x1_16 (⟨#[48, 49, 50, 51, 52, 53, 54, 55, 56, 57, 46]⟩ : ByteArray) true _ A25.out).mono ?_); rintro e w' ⟨rfl, ⟨nd, rfl⟩⟩; refine ⟨_, rfl, ?_⟩))
            go_ret3
            exact ⟨by first | rfl | (simp; done) | (simp [*]; done), by repeat (first | exact Drawn0.refl _ | apply Drawn0.step)⟩
           ·replace c26 := Bool.eq_false_iff.mpr c26
            subst c26
            have H1 : (if x1_16 < (a0.size : Int) then (if 0 ≤ x1_16 then ((copperplateref04_Begins.f (bt a0 x1_16)).bind fun t116 => (if t116 = true then (some (0, x1_16, false)) else (some (x7_16, x1_16, true)))) else (none)) else (some (x7_16, x1_16, true))) = some (r1, r2, r3) := by rw [if_neg (show ¬ (false = true) by decide)] at H; exact H
            clear H
            have H := H1
            clear H1
            by_cases c27 : x1_16 < (a0.size : Int)
            ·rw [if_pos c27] at H
             have c27b0 : decide (x1_16 < (a0.size : Int)) = true := decide_eq_true c27
             clear c27
             by_cases c28 : 0 ≤ x1_16
             ·rw [if_pos c28] at H
              have c28b0 : decide (0 ≤ x1_16) = true := decide_eq_true c28
              clear c28
              replace H := Option.bind_eq_some_iff.mp H
              obtain ⟨t116, A300, H⟩ := H
              replace H : (if t116 = true then (some (0, x1_16, false)) else (some (x7_16, x1_16, true))) = some (r1, r2, r3) := H
              have A30 := Aside0.mk A300
              clear A300
              by_cases c31 : t116 = true
              ·subst c31
               have H1 : (some (0, x1_16, false)) = some (r1, r2, r3) := by rw [if_pos rfl] at H; exact H
               clear H
               have H := H1
               clear H1
               simp only [Option.some.injEq, Prod.mk.injEq] at H
               obtain ⟨rfl, rfl, rfl⟩ := H
               go_wp2_with (first | ((with_reducible refine gate_callee (f := 57) rfl ?_); refine goesL_ (some 73) rfl rfl Tryz.func57 (by kernel_rfl) rfl #[.string a0, .int .i64 x1_16, .string (⟨#[48, 49, 50, 51, 52, 53, 54, 55, 56, 57, 46]⟩ : ByteArray)] rfl gz ?_; (with_reducible refine (copperplateref05_at.calls kj16 a0 x1_16 (⟨#[48, 49, 50, 51, 52, 53, 54, 55, 56, 57, 46]⟩ : ByteArray) false _ A25.out).mono ?_); rintro e w' ⟨rfl, ⟨nd, rfl⟩⟩; refine ⟨_, rfl, ?_⟩; have p29 : 0 ≤ (x1_16 : Int) := of_decide_eq_true (by first | (with_reducible assumption) | assumption); have q29 : x1_16 < (a0.size : Int) := of_decide_eq_true (by first | (with_reducible assumption) | assumption); have hx29 := bt_at a0 x1_16; replace p29 := eq_true p29; replace q29 := eq_true q29) | (go_at_call 23; (with_reducible refine (copperplateref04_Begins.calls (bt a0 x1_16) true _ A30.out).mono ?_); rintro e w' ⟨rfl, ⟨nd, rfl⟩⟩))
               go_ret3
               exact ⟨by first | rfl | (simp; done) | (simp [*]; done), by repeat (first | exact Drawn0.refl _ | apply Drawn0.step)⟩
              ·replace c31 := Bool.eq_false_iff.mpr c31
               subst c31
               have H1 : (some (x7_16, x1_16, true)) = some (r1, r2, r3) := by rw [if_neg (show ¬ (false = true) by decide)] at H; exact H
               clear H
               have H := H1
               clear H1
               simp only [Option.some.injEq, Prod.mk.injEq] at H
               obtain ⟨rfl, rfl, rfl⟩ := H
               go_wp2_with (first | ((with_reducible refine gate_callee (f := 57) rfl ?_); refine goesL_ (some 73) rfl rfl Tryz.func57 (by kernel_rfl) rfl #[.string a0, .int .i64 x1_16, .string (⟨#[48, 49, 50, 51, 52, 53, 54, 55, 56, 57, 46]⟩ : ByteArray)] rfl gz ?_; (with_reducible refine (copperplateref05_at.calls kj16 a0 x1_16 (⟨#[48, 49, 50, 51, 52, 53, 54, 55, 56, 57, 46]⟩ : ByteArray) false _ A25.out).mono ?_); rintro e w' ⟨rfl, ⟨nd, rfl⟩⟩; refine ⟨_, rfl, ?_⟩; have p29 : 0 ≤ (x1_16 : Int) := of_decide_eq_true (by first | (with_reducible assumption) | assumption); have q29 : x1_16 < (a0.size : Int) := of_decide_eq_true (by first | (with_reducible assumption) | assumption); have hx29 := bt_at a0 x1_16; replace p29 := eq_true p29; replace q29 := eq_true q29) | (go_at_call 23; (with_reducible refine (copperplateref04_Begins.calls (bt a0 x1_16) false _ A30.out).mono ?_); rintro e w' ⟨rfl, ⟨nd, rfl⟩⟩))
               go_ret3
               exact ⟨by first | rfl | (simp; done) | (simp [*]; done), by repeat (first | exact Drawn0.refl _ | apply Drawn0.step)⟩
             ·rw [if_neg c28] at H
              exact absurd H (by simp)
            ·rw [if_neg c27] at H
             have c27b0 : decide (x1_16 < (a0.size : Int)) = false := decide_eq_false c27
             clear c27
             simp only [Option.some.injEq, Prod.mk.injEq] at H
             obtain ⟨rfl, rfl, rfl⟩ := H
             go_wp2_with (first | ((with_reducible refine gate_callee (f := 57) rfl ?_); refine goesL_ (some 73) rfl rfl Tryz.func57 (by kernel_rfl) rfl #[.string a0, .int .i64 x1_16, .string (⟨#[48, 49, 50, 51, 52, 53, 54, 55, 56, 57, 46]⟩ : ByteArray)] rfl gz ?_; (with_reducible refine (copperplateref05_at.calls kj16 a0 x1_16 (⟨#[48, 49, 50, 51, 52, 53, 54, 55, 56, 57, 46]⟩ : ByteArray) false _ A25.out).mono ?_); rintro e w' ⟨rfl, ⟨nd, rfl⟩⟩; refine ⟨_, rfl, ?_⟩))
             go_ret3
             exact ⟨by first | rfl | (simp; done) | (simp [*]; done), by repeat (first | exact Drawn0.refl _ | apply Drawn0.step)⟩
end Go.Proofs.YtjgpmfjkcioinaaGreatDoor.Q
