-- Printed for this seat by a program of this session (qprint.py), out of the translation; Lean checks it.
import Derived.Test.YtdhncfkbblfokaaQ0
import Derived.Test.YtdhncfkbblfokaaQ1
import Derived.Test.YtdhncfkbblfokaaQ4
namespace Go.Proofs.Ytdhncfkbblfokaa.Q
open Go.Proofs.Ytdhncfkbblfokaa.G
open Go.RowKit Go.Proofs.YtdhncfkbblfokaaW.PrintWords Go.Proofs.YtdhncfkbblfokaaW.PrintLast Go.Proofs.YtdhncfkbblfokaaW.PrintMore
attribute [local go_sem] max2_int min2_int max_two min_two max_three min_three max_four min_four   -- for this text's walks alone
set_option linter.unusedVariables false
set_option linter.unusedSimpArgs false

/-! ### copperplateref05_Number: function 25 -/
mutual
def copperplateref05_Number.j0 : Nat → ByteArray → Int → Bool → Option (Int × Int × Bool)
  | 0, _, _, _ => none
  | k + 1, x0, x1, x21 => if x21 = true then (some (0, x1, false)) else ((copperplateref05_at.f k x0 x1 (⟨#[45]⟩ : ByteArray)).bind fun t155 => (if t155 = true then (copperplateref05_Number.j1 k x0 (wrap64 (x1 + 1)) 3) else (copperplateref05_Number.j1 k x0 x1 3)))
def copperplateref05_Number.j1 : Nat → ByteArray → Int → Int → Option (Int × Int × Bool)
  | 0, _, _, _ => none
  | k + 1, x0, x1, x7 => (copperplateref05_whole.f k x0 x1).bind fun t156 => (if t156 = x1 then (some (0, x1, false)) else ((copperplateref05_at.f k x0 t156 (⟨#[46]⟩ : ByteArray)).bind fun t157 => (if t157 = true then ((copperplateref04_Digits.f k x0 (wrap64 (t156 + 1))).bind fun t158 => (if t158 = (wrap64 (t156 + 1)) then (some (0, t158, false)) else (copperplateref05_Number.j2 k x0 t158 4))) else (copperplateref05_Number.j2 k x0 t156 x7))))
def copperplateref05_Number.j2 : Nat → ByteArray → Int → Int → Option (Int × Int × Bool)
  | 0, _, _, _ => none
  | k + 1, x0, x1, x7 => (copperplateref05_at.f k x0 x1 (⟨#[101, 69]⟩ : ByteArray)).bind fun t159 => (if t159 = true then ((copperplateref05_at.f k x0 (wrap64 (x1 + 1)) (⟨#[43, 45]⟩ : ByteArray)).bind fun t160 => (if t160 = true then ((copperplateref04_Digits.f k x0 (wrap64 ((wrap64 (x1 + 1)) + 1))).bind fun t161 => (if t161 = (wrap64 ((wrap64 (x1 + 1)) + 1)) then (some (0, wrap64 ((wrap64 (x1 + 1)) + 1), false)) else (copperplateref05_Number.j3 k x0 t161 4))) else ((copperplateref04_Digits.f k x0 (wrap64 (x1 + 1))).bind fun t162 => (if t162 = (wrap64 (x1 + 1)) then (some (0, wrap64 (x1 + 1), false)) else (copperplateref05_Number.j3 k x0 t162 4))))) else (copperplateref05_Number.j3 k x0 x1 x7))
def copperplateref05_Number.j3 : Nat → ByteArray → Int → Int → Option (Int × Int × Bool)
  | 0, _, _, _ => none
  | k + 1, x0, x1, x7 => (copperplateref05_at.f k x0 x1 (⟨#[48, 49, 50, 51, 52, 53, 54, 55, 56, 57, 46]⟩ : ByteArray)).bind fun t163 => (if t163 = true then (some (0, x1, false)) else (if x1 < (x0.size : Int) then (if 0 ≤ x1 then ((copperplateref04_Begins.f (bt x0 x1)).bind fun t164 => (if t164 = true then (some (0, x1, false)) else (some (x7, x1, true)))) else (none)) else (some (x7, x1, true))))
end
def copperplateref05_Number.f (k : Nat) (a0 : ByteArray) (a1 : Int) : Option (Int × Int × Bool) := if a1 < 0 then (copperplateref05_Number.j0 k a0 a1 true) else (copperplateref05_Number.j0 k a0 a1 (decide (a1 ≥ (a0.size : Int))))
theorem copperplateref05_Number.mono_l : ∀ k, (∀ y0 y1 y2, LeO (copperplateref05_Number.j0 k y0 y1 y2) (copperplateref05_Number.j0 (k + 1) y0 y1 y2)) ∧ (∀ y0 y1 y2, LeO (copperplateref05_Number.j1 k y0 y1 y2) (copperplateref05_Number.j1 (k + 1) y0 y1 y2)) ∧ (∀ y0 y1 y2, LeO (copperplateref05_Number.j2 k y0 y1 y2) (copperplateref05_Number.j2 (k + 1) y0 y1 y2)) ∧ (∀ y0 y1 y2, LeO (copperplateref05_Number.j3 k y0 y1 y2) (copperplateref05_Number.j3 (k + 1) y0 y1 y2))
  | 0 => ⟨fun _ _ _ r h => by simp [copperplateref05_Number.j0] at h, fun _ _ _ r h => by simp [copperplateref05_Number.j1] at h, fun _ _ _ r h => by simp [copperplateref05_Number.j2] at h, fun _ _ _ r h => by simp [copperplateref05_Number.j3] at h⟩
  | k + 1 => by
    obtain ⟨ih0, ih1, ih2, ih3⟩ := copperplateref05_Number.mono_l k
    refine ⟨?_, ?_, ?_, ?_⟩
    · intro y0 y1 y2
      unfold copperplateref05_Number.j0
      repeat' first
      | (with_reducible exact ih0 _ _ _)
      | (with_reducible exact ih1 _ _ _)
      | (with_reducible exact ih2 _ _ _)
      | (with_reducible exact ih3 _ _ _)
      | (with_reducible exact copperplateref04_Digits.mono _ _ _)
      | (with_reducible exact copperplateref05_at.mono _ _ _ _)
      | (with_reducible exact copperplateref05_whole.mono _ _ _)
      | (with_reducible exact LeO.refl _)
      | (with_reducible exact LeO.none _)
      | (with_reducible refine LeO.ite ?_ ?_)
      | (with_reducible refine LeO.bind ?_ (fun _ => ?_))
      | exact ih0 _ _ _
      | exact ih1 _ _ _
      | exact ih2 _ _ _
      | exact ih3 _ _ _
      | exact copperplateref04_Digits.mono _ _ _
      | exact copperplateref05_at.mono _ _ _ _
      | exact copperplateref05_whole.mono _ _ _
      | exact LeO.none _
      | refine LeO.ite ?_ ?_
      | refine LeO.bind ?_ (fun _ => ?_)
    · intro y0 y1 y2
      unfold copperplateref05_Number.j1
      repeat' first
      | (with_reducible exact ih0 _ _ _)
      | (with_reducible exact ih1 _ _ _)
      | (with_reducible exact ih2 _ _ _)
      | (with_reducible exact ih3 _ _ _)
      | (with_reducible exact copperplateref04_Digits.mono _ _ _)
      | (with_reducible exact copperplateref05_at.mono _ _ _ _)
      | (with_reducible exact copperplateref05_whole.mono _ _ _)
      | (with_reducible exact LeO.refl _)
      | (with_reducible exact LeO.none _)
      | (with_reducible refine LeO.ite ?_ ?_)
      | (with_reducible refine LeO.bind ?_ (fun _ => ?_))
      | exact ih0 _ _ _
      | exact ih1 _ _ _
      | exact ih2 _ _ _
      | exact ih3 _ _ _
      | exact copperplateref04_Digits.mono _ _ _
      | exact copperplateref05_at.mono _ _ _ _
      | exact copperplateref05_whole.mono _ _ _
      | exact LeO.none _
      | refine LeO.ite ?_ ?_
      | refine LeO.bind ?_ (fun _ => ?_)
    · intro y0 y1 y2
      unfold copperplateref05_Number.j2
      repeat' first
      | (with_reducible exact ih0 _ _ _)
      | (with_reducible exact ih1 _ _ _)
      | (with_reducible exact ih2 _ _ _)
      | (with_reducible exact ih3 _ _ _)
      | (with_reducible exact copperplateref04_Digits.mono _ _ _)
      | (with_reducible exact copperplateref05_at.mono _ _ _ _)
      | (with_reducible exact copperplateref05_whole.mono _ _ _)
      | (with_reducible exact LeO.refl _)
      | (with_reducible exact LeO.none _)
      | (with_reducible refine LeO.ite ?_ ?_)
      | (with_reducible refine LeO.bind ?_ (fun _ => ?_))
      | exact ih0 _ _ _
      | exact ih1 _ _ _
      | exact ih2 _ _ _
      | exact ih3 _ _ _
      | exact copperplateref04_Digits.mono _ _ _
      | exact copperplateref05_at.mono _ _ _ _
      | exact copperplateref05_whole.mono _ _ _
      | exact LeO.none _
      | refine LeO.ite ?_ ?_
      | refine LeO.bind ?_ (fun _ => ?_)
    · intro y0 y1 y2
      unfold copperplateref05_Number.j3
      repeat' first
      | (with_reducible exact ih0 _ _ _)
      | (with_reducible exact ih1 _ _ _)
      | (with_reducible exact ih2 _ _ _)
      | (with_reducible exact ih3 _ _ _)
      | (with_reducible exact copperplateref04_Digits.mono _ _ _)
      | (with_reducible exact copperplateref05_at.mono _ _ _ _)
      | (with_reducible exact copperplateref05_whole.mono _ _ _)
      | (with_reducible exact LeO.refl _)
      | (with_reducible exact LeO.none _)
      | (with_reducible refine LeO.ite ?_ ?_)
      | (with_reducible refine LeO.bind ?_ (fun _ => ?_))
      | exact ih0 _ _ _
      | exact ih1 _ _ _
      | exact ih2 _ _ _
      | exact ih3 _ _ _
      | exact copperplateref04_Digits.mono _ _ _
      | exact copperplateref05_at.mono _ _ _ _
      | exact copperplateref05_whole.mono _ _ _
      | exact LeO.none _
      | refine LeO.ite ?_ ?_
      | refine LeO.bind ?_ (fun _ => ?_)
theorem copperplateref05_Number.mono : ∀ a0 a1 k, LeO (copperplateref05_Number.f k a0 a1) (copperplateref05_Number.f (k + 1) a0 a1) := by
  intro a0 a1 k
  obtain ⟨ih0, ih1, ih2, ih3⟩ := copperplateref05_Number.mono_l k
  unfold copperplateref05_Number.f
  repeat' first
      | (with_reducible exact ih0 _ _ _)
      | (with_reducible exact ih1 _ _ _)
      | (with_reducible exact ih2 _ _ _)
      | (with_reducible exact ih3 _ _ _)
      | (with_reducible exact copperplateref04_Digits.mono _ _ _)
      | (with_reducible exact copperplateref05_at.mono _ _ _ _)
      | (with_reducible exact copperplateref05_whole.mono _ _ _)
      | (with_reducible exact LeO.refl _)
      | (with_reducible exact LeO.none _)
      | (with_reducible refine LeO.ite ?_ ?_)
      | (with_reducible refine LeO.bind ?_ (fun _ => ?_))
      | exact ih0 _ _ _
      | exact ih1 _ _ _
      | exact ih2 _ _ _
      | exact ih3 _ _ _
      | exact copperplateref04_Digits.mono _ _ _
      | exact copperplateref05_at.mono _ _ _ _
      | exact copperplateref05_whole.mono _ _ _
      | exact LeO.none _
      | refine LeO.ite ?_ ?_
      | refine LeO.bind ?_ (fun _ => ?_)
set_option maxHeartbeats 8000000 in
set_option maxRecDepth 100000 in
theorem copperplateref05_Number.calls (k : Nat) (a0 : ByteArray) (a1 : Int) (r1 : Int) (r2 : Int) (r3 : Bool) (w : World) (h : copperplateref05_Number.f k a0 a1 = some (r1, r2, r3)) :
    Calls Try.prog 25 #[.string a0, .int .i64 a1] w fun e w' => e = .returned (.tuple #[.int .i64 r1, .int .i64 r2, .bool r3]) ∧ Drawn0 w w' := by
  have H : (if a1 < 0 then (copperplateref05_Number.j0 k a0 a1 true) else (copperplateref05_Number.j0 k a0 a1 (decide (a1 ≥ (a0.size : Int))))) = some (r1, r2, r3) := h
  clear h
  have HC3 := Aside0.mk H
  clear H
  go_enter Try.func25, Try.ntmps25
  go_upto_region 1 with (fail)
  go_cut [21] (fun v21 wc => ∃ (kq : Nat) (x21_2 : Bool), v21 = .bool x21_2 ∧ Aside0 (copperplateref05_Number.j0 kq a0 a1 x21_2 = some (r1, r2, r3)) ∧ Aside0 (kq ≤ k) ∧ Drawn0 w wc)
  case first =>
    have H := HC3.out
    clear HC3
    by_cases c4 : a1 < 0
    · rw [if_pos c4] at H
      have c4b0 : decide (a1 < 0) = true := decide_eq_true c4
      clear c4
      (first | rw [c4b0] | (simp only [i64_w, i32_w]; rw [c4b0]) | skip)
      have H' := Aside0.mk H
      clear H
      go_wp2
      go_meet
      case rel => exact ⟨_, (true), (by first | rfl | (simp; done) | (simp [*]; done)), H', ⟨by first | omega | exact Nat.le_refl _⟩, by repeat (first | exact Drawn0.refl _ | apply Drawn0.step)⟩
    · rw [if_neg c4] at H
      have c4b0 : decide (a1 < 0) = false := decide_eq_false c4
      clear c4
      (first | rw [c4b0] | (simp only [i64_w, i32_w]; rw [c4b0]) | skip)
      have H' := Aside0.mk H
      clear H
      go_wp2
      go_meet
      case rel => exact ⟨_, (decide (a1 ≥ (a0.size : Int))), (by first | rfl | (simp; done) | (simp [*]; done)), H', ⟨by first | omega | exact Nat.le_refl _⟩, by repeat (first | exact Drawn0.refl _ | apply Drawn0.step)⟩
  case rest =>
    clear HC3
    try clear c2
    try clear p2
    try clear c4
    try clear c4b0
    obtain ⟨kq, x21_2, rfl, HA, HJ2, ⟨mc2, rfl⟩⟩ := hcut
    cases kq with
    | zero => exact absurd HA.out (by simp [copperplateref05_Number.j0])
    | succ kj2 =>
      have H := HA.out
      clear HA
      simp only [copperplateref05_Number.j0] at H
      by_cases c5 : x21_2 = true
      · subst c5
        have H1 : (some (0, a1, false)) = some (r1, r2, r3) := by rw [if_pos rfl] at H; exact H
        clear H
        have H := H1
        clear H1
        simp only [Option.some.injEq, Prod.mk.injEq] at H
        obtain ⟨rfl, rfl, rfl⟩ := H
        go_wp2
        go_ret3
        exact ⟨by first | rfl | (simp; done) | (simp [*]; done), by repeat (first | exact Drawn0.refl _ | apply Drawn0.step)⟩
      · replace c5 := Bool.eq_false_iff.mpr c5
        subst c5
        have H1 : ((copperplateref05_at.f kj2 a0 a1 (⟨#[45]⟩ : ByteArray)).bind fun t155 => (if t155 = true then (copperplateref05_Number.j1 kj2 a0 (wrap64 (a1 + 1)) 3) else (copperplateref05_Number.j1 kj2 a0 a1 3))) = some (r1, r2, r3) := by rw [if_neg (show ¬ (false = true) by decide)] at H; exact H
        clear H
        have H := H1
        clear H1
        replace H := Option.bind_eq_some_iff.mp H
        obtain ⟨t155, A60, H⟩ := H
        replace H : (if t155 = true then (copperplateref05_Number.j1 kj2 a0 (wrap64 (a1 + 1)) 3) else (copperplateref05_Number.j1 kj2 a0 a1 3)) = some (r1, r2, r3) := H
        have A6 := Aside0.mk A60
        clear A60
        have HC7 := Aside0.mk H
        clear H
        go_upto_if 26 with (first | ((with_reducible refine gate_callee (f := 38) rfl ?_); refine goesL_ (some 25) rfl rfl Try.func38 (by kernel_rfl) rfl #[.string a0, .int .i64 a1, .string (⟨#[45]⟩ : ByteArray)] rfl (by (try simp only [List.map_toArray, List.map_cons, List.map_nil]); first | done | rfl | (simp only [List.length_drop, List.length_take]; rfl)) ?_; (with_reducible refine (copperplateref05_at.calls kj2 a0 a1 (⟨#[45]⟩ : ByteArray) t155 _ A6.out).mono ?_); rintro e w' ⟨rfl, ⟨nd, rfl⟩⟩; refine ⟨_, rfl, ?_⟩))
        (try simp only [Act.put, List.setIfInBounds_toArray, List.set_cons_zero, List.set_cons_succ])
        go_cut [1] (fun v1 wc => ∃ (kq : Nat) (x1_6 : Int), v1 = .int .i64 x1_6 ∧ Aside0 (copperplateref05_Number.j1 kq a0 x1_6 3 = some (r1, r2, r3)) ∧ Aside0 (kq ≤ kj2) ∧ Drawn0 w wc)
        case first =>
          have H := HC7.out
          clear HC7
          by_cases c8 : t155 = true
          · subst c8
            have H1 : (copperplateref05_Number.j1 kj2 a0 (wrap64 (a1 + 1)) 3) = some (r1, r2, r3) := by rw [if_pos rfl] at H; exact H
            clear H
            have H := H1
            clear H1
            have H' := Aside0.mk H
            clear H
            go_wp2
            go_meet
            case rel => exact ⟨_, (wrap64 (a1 + 1)), (by first | rfl | (simp; done) | (simp [*]; done)), H', ⟨by have := HJ2.out; first | omega | exact Nat.le_refl _⟩, by repeat (first | exact Drawn0.refl _ | apply Drawn0.step)⟩
          · replace c8 := Bool.eq_false_iff.mpr c8
            subst c8
            have H1 : (copperplateref05_Number.j1 kj2 a0 a1 3) = some (r1, r2, r3) := by rw [if_neg (show ¬ (false = true) by decide)] at H; exact H
            clear H
            have H := H1
            clear H1
            have H' := Aside0.mk H
            clear H
            go_wp2
            go_meet
            case rel => exact ⟨_, (a1), (by first | rfl | (simp; done) | (simp [*]; done)), H', ⟨by have := HJ2.out; first | omega | exact Nat.le_refl _⟩, by repeat (first | exact Drawn0.refl _ | apply Drawn0.step)⟩
        case rest =>
          clear HC7
          try clear c2
          try clear p2
          try clear c3
          try clear c4
          try clear c4b0
          try clear c5
          try clear p6
          try clear c8
          try clear p2
          obtain ⟨kq, x1_6, rfl, HA, HJ6, ⟨mc6, rfl⟩⟩ := hcut
          cases kq with
          | zero => exact absurd HA.out (by simp [copperplateref05_Number.j1])
          | succ kj6 =>
            have H := HA.out
            clear HA
            simp only [copperplateref05_Number.j1] at H
            replace H := Option.bind_eq_some_iff.mp H
            obtain ⟨t156, A90, H⟩ := H
            replace H : (if t156 = x1_6 then (some (0, x1_6, false)) else ((copperplateref05_at.f kj6 a0 t156 (⟨#[46]⟩ : ByteArray)).bind fun t157 => (if t157 = true then ((copperplateref04_Digits.f kj6 a0 (wrap64 (t156 + 1))).bind fun t158 => (if t158 = (wrap64 (t156 + 1)) then (some (0, t158, false)) else (copperplateref05_Number.j2 kj6 a0 t158 4))) else (copperplateref05_Number.j2 kj6 a0 t156 3)))) = some (r1, r2, r3) := H
            have A9 := Aside0.mk A90
            clear A90
            by_cases c10 : t156 = x1_6
            · rw [if_pos c10] at H
              have c10b0 : (t156 == x1_6) = true := beq_iff_eq.mpr c10
              have c10b1 : (t156 != x1_6) = false := bne_eq_false_iff_eq.mpr c10
              clear c10
              simp only [Option.some.injEq, Prod.mk.injEq] at H
              obtain ⟨rfl, rfl, rfl⟩ := H
              go_wp2_with (first | ((with_reducible refine gate_callee (f := 39) rfl ?_); refine goesL_ (some 31) rfl rfl Try.func39 (by kernel_rfl) rfl #[.string a0, .int .i64 x1_6] rfl (by (try simp only [List.map_toArray, List.map_cons, List.map_nil]); first | done | rfl | (simp only [List.length_drop, List.length_take]; rfl)) ?_; (with_reducible refine (copperplateref05_whole.calls kj6 a0 x1_6 t156 _ A9.out).mono ?_); rintro e w' ⟨rfl, ⟨nd, rfl⟩⟩; refine ⟨_, rfl, ?_⟩))
              go_ret3
              exact ⟨by first | rfl | (simp; done) | (simp [*]; done), by repeat (first | exact Drawn0.refl _ | apply Drawn0.step)⟩
            · rw [if_neg c10] at H
              have c10b0 : (t156 == x1_6) = false := beq_eq_false_iff_ne.mpr c10
              have c10b1 : (t156 != x1_6) = true := bne_iff_ne.mpr c10
              replace H := Option.bind_eq_some_iff.mp H
              obtain ⟨t157, A110, H⟩ := H
              replace H : (if t157 = true then ((copperplateref04_Digits.f kj6 a0 (wrap64 (t156 + 1))).bind fun t158 => (if t158 = (wrap64 (t156 + 1)) then (some (0, t158, false)) else (copperplateref05_Number.j2 kj6 a0 t158 4))) else (copperplateref05_Number.j2 kj6 a0 t156 3)) = some (r1, r2, r3) := H
              have A11 := Aside0.mk A110
              clear A110
              have HC12 := Aside0.mk H
              clear H
              go_upto_if 40 with (first | ((with_reducible refine gate_callee (f := 39) rfl ?_); refine goesL_ (some 31) rfl rfl Try.func39 (by kernel_rfl) rfl #[.string a0, .int .i64 x1_6] rfl (by (try simp only [List.map_toArray, List.map_cons, List.map_nil]); first | done | rfl | (simp only [List.length_drop, List.length_take]; rfl)) ?_; (with_reducible refine (copperplateref05_whole.calls kj6 a0 x1_6 t156 _ A9.out).mono ?_); rintro e w' ⟨rfl, ⟨nd, rfl⟩⟩; refine ⟨_, rfl, ?_⟩) | ((with_reducible refine gate_callee (f := 38) rfl ?_); refine goesL_ (some 39) rfl rfl Try.func38 (by kernel_rfl) rfl #[.string a0, .int .i64 t156, .string (⟨#[46]⟩ : ByteArray)] rfl (by (try simp only [List.map_toArray, List.map_cons, List.map_nil]); first | done | rfl | (simp only [List.length_drop, List.length_take]; rfl)) ?_; (with_reducible refine (copperplateref05_at.calls kj6 a0 t156 (⟨#[46]⟩ : ByteArray) t157 _ A11.out).mono ?_); rintro e w' ⟨rfl, ⟨nd, rfl⟩⟩; refine ⟨_, rfl, ?_⟩))
              (try simp only [Act.put, List.setIfInBounds_toArray, List.set_cons_zero, List.set_cons_succ])
              go_cut [1, 7] (fun v1 v7 wc => ∃ (kq : Nat) (x1_11 : Int) (x7_11 : Int), v1 = .int .i64 x1_11 ∧ v7 = .int .i64 x7_11 ∧ Aside0 (copperplateref05_Number.j2 kq a0 x1_11 x7_11 = some (r1, r2, r3)) ∧ Aside0 (kq ≤ kj6) ∧ Drawn0 w wc)
              case first =>
                have H := HC12.out
                clear HC12
                by_cases c13 : t157 = true
                · subst c13
                  have H1 : ((copperplateref04_Digits.f kj6 a0 (wrap64 (t156 + 1))).bind fun t158 => (if t158 = (wrap64 (t156 + 1)) then (some (0, t158, false)) else (copperplateref05_Number.j2 kj6 a0 t158 4))) = some (r1, r2, r3) := by rw [if_pos rfl] at H; exact H
                  clear H
                  have H := H1
                  clear H1
                  replace H := Option.bind_eq_some_iff.mp H
                  obtain ⟨t158, A140, H⟩ := H
                  replace H : (if t158 = (wrap64 (t156 + 1)) then (some (0, t158, false)) else (copperplateref05_Number.j2 kj6 a0 t158 4)) = some (r1, r2, r3) := H
                  have A14 := Aside0.mk A140
                  clear A140
                  by_cases c15 : t158 = (wrap64 (t156 + 1))
                  · rw [if_pos c15] at H
                    have c15b0 : (t158 == (wrap64 (t156 + 1))) = true := beq_iff_eq.mpr c15
                    have c15b1 : (t158 != (wrap64 (t156 + 1))) = false := bne_eq_false_iff_eq.mpr c15
                    clear c15
                    (first | rw [c15b0] | (simp only [i64_w, i32_w]; rw [c15b0]) | skip)
                    simp only [Option.some.injEq, Prod.mk.injEq] at H
                    obtain ⟨rfl, rfl, rfl⟩ := H
                    go_wp2_with (first | ((with_reducible refine gate_callee (f := 20) rfl ?_); refine goesL_ (some 44) rfl rfl Try.func20 (by kernel_rfl) rfl #[.string a0, .int .i64 (wrap64 (t156 + 1))] rfl (by (try simp only [List.map_toArray, List.map_cons, List.map_nil]); first | done | rfl | (simp only [List.length_drop, List.length_take]; rfl)) ?_; (with_reducible refine (copperplateref04_Digits.calls kj6 a0 (wrap64 (t156 + 1)) t158 _ A14.out).mono ?_); rintro e w' ⟨rfl, ⟨nd, rfl⟩⟩; refine ⟨_, rfl, ?_⟩))
                    go_ret3
                    exact ⟨by first | rfl | (simp; done) | (simp [*]; done), by repeat (first | exact Drawn0.refl _ | apply Drawn0.step)⟩
                  · rw [if_neg c15] at H
                    have c15b0 : (t158 == (wrap64 (t156 + 1))) = false := beq_eq_false_iff_ne.mpr c15
                    have c15b1 : (t158 != (wrap64 (t156 + 1))) = true := bne_iff_ne.mpr c15
                    (first | rw [c15b0] | (simp only [i64_w, i32_w]; rw [c15b0]) | skip)
                    have H' := Aside0.mk H
                    clear H
                    go_wp2_with (first | ((with_reducible refine gate_callee (f := 20) rfl ?_); refine goesL_ (some 44) rfl rfl Try.func20 (by kernel_rfl) rfl #[.string a0, .int .i64 (wrap64 (t156 + 1))] rfl (by (try simp only [List.map_toArray, List.map_cons, List.map_nil]); first | done | rfl | (simp only [List.length_drop, List.length_take]; rfl)) ?_; (with_reducible refine (copperplateref04_Digits.calls kj6 a0 (wrap64 (t156 + 1)) t158 _ A14.out).mono ?_); rintro e w' ⟨rfl, ⟨nd, rfl⟩⟩; refine ⟨_, rfl, ?_⟩))
                    go_meet
                    case rel => exact ⟨_, (t158), (4), (by first | rfl | (simp; done) | (simp [*]; done)), (by first | rfl | (simp; done) | (simp [*]; done)), H', ⟨by have := HJ2.out; have := HJ6.out; first | omega | exact Nat.le_refl _⟩, by repeat (first | exact Drawn0.refl _ | apply Drawn0.step)⟩
                · replace c13 := Bool.eq_false_iff.mpr c13
                  subst c13
                  have H1 : (copperplateref05_Number.j2 kj6 a0 t156 3) = some (r1, r2, r3) := by rw [if_neg (show ¬ (false = true) by decide)] at H; exact H
                  clear H
                  have H := H1
                  clear H1
                  have H' := Aside0.mk H
                  clear H
                  go_wp2
                  go_meet
                  case rel => exact ⟨_, (t156), (3), (by first | rfl | (simp; done) | (simp [*]; done)), (by first | rfl | (simp; done) | (simp [*]; done)), H', ⟨by have := HJ2.out; have := HJ6.out; first | omega | exact Nat.le_refl _⟩, by repeat (first | exact Drawn0.refl _ | apply Drawn0.step)⟩
              case rest =>
                clear HC12
                try clear c1
                try clear c2
                try clear p2
                try clear c3
                try clear c4
                try clear c4b0
                try clear c5
                try clear c6
                try clear p6
                try clear c8
                try clear c10
                try clear c10b0
                try clear c10b1
                try clear c13
                try clear c15
                try clear c15b0
                try clear c15b1
                try clear p2
                try clear p6
                obtain ⟨kq, x1_11, x7_11, rfl, rfl, HA, HJ11, ⟨mc11, rfl⟩⟩ := hcut
                cases kq with
                | zero => exact absurd HA.out (by simp [copperplateref05_Number.j2])
                | succ kj11 =>
                  have H := HA.out
                  clear HA
                  simp only [copperplateref05_Number.j2] at H
                  replace H := Option.bind_eq_some_iff.mp H
                  obtain ⟨t159, A160, H⟩ := H
                  replace H : (if t159 = true then ((copperplateref05_at.f kj11 a0 (wrap64 (x1_11 + 1)) (⟨#[43, 45]⟩ : ByteArray)).bind fun t160 => (if t160 = true then ((copperplateref04_Digits.f kj11 a0 (wrap64 ((wrap64 (x1_11 + 1)) + 1))).bind fun t161 => (if t161 = (wrap64 ((wrap64 (x1_11 + 1)) + 1)) then (some (0, wrap64 ((wrap64 (x1_11 + 1)) + 1), false)) else (copperplateref05_Number.j3 kj11 a0 t161 4))) else ((copperplateref04_Digits.f kj11 a0 (wrap64 (x1_11 + 1))).bind fun t162 => (if t162 = (wrap64 (x1_11 + 1)) then (some (0, wrap64 (x1_11 + 1), false)) else (copperplateref05_Number.j3 kj11 a0 t162 4))))) else (copperplateref05_Number.j3 kj11 a0 x1_11 x7_11)) = some (r1, r2, r3) := H
                  have A16 := Aside0.mk A160
                  clear A160
                  have HC17 := Aside0.mk H
                  clear H
                  go_upto_if 54 with (first | ((with_reducible refine gate_callee (f := 38) rfl ?_); refine goesL_ (some 53) rfl rfl Try.func38 (by kernel_rfl) rfl #[.string a0, .int .i64 x1_11, .string (⟨#[101, 69]⟩ : ByteArray)] rfl (by (try simp only [List.map_toArray, List.map_cons, List.map_nil]); first | done | rfl | (simp only [List.length_drop, List.length_take]; rfl)) ?_; (with_reducible refine (copperplateref05_at.calls kj11 a0 x1_11 (⟨#[101, 69]⟩ : ByteArray) t159 _ A16.out).mono ?_); rintro e w' ⟨rfl, ⟨nd, rfl⟩⟩; refine ⟨_, rfl, ?_⟩))
                  (try simp only [Act.put, List.setIfInBounds_toArray, List.set_cons_zero, List.set_cons_succ])
                  go_cut [1, 7] (fun v1 v7 wc => ∃ (kq : Nat) (x1_16 : Int) (x7_16 : Int), v1 = .int .i64 x1_16 ∧ v7 = .int .i64 x7_16 ∧ Aside0 (copperplateref05_Number.j3 kq a0 x1_16 x7_16 = some (r1, r2, r3)) ∧ Aside0 (kq ≤ kj11) ∧ Drawn0 w wc)
                  case first =>
                    have H := HC17.out
                    clear HC17
                    by_cases c18 : t159 = true
                    · subst c18
                      have H1 : ((copperplateref05_at.f kj11 a0 (wrap64 (x1_11 + 1)) (⟨#[43, 45]⟩ : ByteArray)).bind fun t160 => (if t160 = true then ((copperplateref04_Digits.f kj11 a0 (wrap64 ((wrap64 (x1_11 + 1)) + 1))).bind fun t161 => (if t161 = (wrap64 ((wrap64 (x1_11 + 1)) + 1)) then (some (0, wrap64 ((wrap64 (x1_11 + 1)) + 1), false)) else (copperplateref05_Number.j3 kj11 a0 t161 4))) else ((copperplateref04_Digits.f kj11 a0 (wrap64 (x1_11 + 1))).bind fun t162 => (if t162 = (wrap64 (x1_11 + 1)) then (some (0, wrap64 (x1_11 + 1), false)) else (copperplateref05_Number.j3 kj11 a0 t162 4))))) = some (r1, r2, r3) := by rw [if_pos rfl] at H; exact H
                      clear H
                      have H := H1
                      clear H1
                      replace H := Option.bind_eq_some_iff.mp H
                      obtain ⟨t160, A190, H⟩ := H
                      replace H : (if t160 = true then ((copperplateref04_Digits.f kj11 a0 (wrap64 ((wrap64 (x1_11 + 1)) + 1))).bind fun t161 => (if t161 = (wrap64 ((wrap64 (x1_11 + 1)) + 1)) then (some (0, wrap64 ((wrap64 (x1_11 + 1)) + 1), false)) else (copperplateref05_Number.j3 kj11 a0 t161 4))) else ((copperplateref04_Digits.f kj11 a0 (wrap64 (x1_11 + 1))).bind fun t162 => (if t162 = (wrap64 (x1_11 + 1)) then (some (0, wrap64 (x1_11 + 1), false)) else (copperplateref05_Number.j3 kj11 a0 t162 4)))) = some (r1, r2, r3) := H
                      have A19 := Aside0.mk A190
                      clear A190
                      by_cases c20 : t160 = true
                      · subst c20
                        have H1 : ((copperplateref04_Digits.f kj11 a0 (wrap64 ((wrap64 (x1_11 + 1)) + 1))).bind fun t161 => (if t161 = (wrap64 ((wrap64 (x1_11 + 1)) + 1)) then (some (0, wrap64 ((wrap64 (x1_11 + 1)) + 1), false)) else (copperplateref05_Number.j3 kj11 a0 t161 4))) = some (r1, r2, r3) := by rw [if_pos rfl] at H; exact H
                        clear H
                        have H := H1
                        clear H1
                        replace H := Option.bind_eq_some_iff.mp H
                        obtain ⟨t161, A210, H⟩ := H
                        replace H : (if t161 = (wrap64 ((wrap64 (x1_11 + 1)) + 1)) then (some (0, wrap64 ((wrap64 (x1_11 + 1)) + 1), false)) else (copperplateref05_Number.j3 kj11 a0 t161 4)) = some (r1, r2, r3) := H
                        have A21 := Aside0.mk A210
                        clear A210
                        by_cases c22 : t161 = (wrap64 ((wrap64 (x1_11 + 1)) + 1))
                        · rw [if_pos c22] at H
                          have c22b0 : (t161 == (wrap64 ((wrap64 (x1_11 + 1)) + 1))) = true := beq_iff_eq.mpr c22
                          have c22b1 : (t161 != (wrap64 ((wrap64 (x1_11 + 1)) + 1))) = false := bne_eq_false_iff_eq.mpr c22
                          clear c22
                          (first | rw [c22b0] | (simp only [i64_w, i32_w]; rw [c22b0]) | skip)
                          simp only [Option.some.injEq, Prod.mk.injEq] at H
                          obtain ⟨rfl, rfl, rfl⟩ := H
                          go_wp2_with (first | ((with_reducible refine gate_callee (f := 38) rfl ?_); refine goesL_ (some 59) rfl rfl Try.func38 (by kernel_rfl) rfl #[.string a0, .int .i64 (wrap64 (x1_11 + 1)), .string (⟨#[43, 45]⟩ : ByteArray)] rfl (by (try simp only [List.map_toArray, List.map_cons, List.map_nil]); first | done | rfl | (simp only [List.length_drop, List.length_take]; rfl)) ?_; (with_reducible refine (copperplateref05_at.calls kj11 a0 (wrap64 (x1_11 + 1)) (⟨#[43, 45]⟩ : ByteArray) true _ A19.out).mono ?_); rintro e w' ⟨rfl, ⟨nd, rfl⟩⟩; refine ⟨_, rfl, ?_⟩) | ((with_reducible refine gate_callee (f := 20) rfl ?_); refine goesL_ (some 65) rfl rfl Try.func20 (by kernel_rfl) rfl #[.string a0, .int .i64 (wrap64 ((wrap64 (x1_11 + 1)) + 1))] rfl (by (try simp only [List.map_toArray, List.map_cons, List.map_nil]); first | done | rfl | (simp only [List.length_drop, List.length_take]; rfl)) ?_; (with_reducible refine (copperplateref04_Digits.calls kj11 a0 (wrap64 ((wrap64 (x1_11 + 1)) + 1)) t161 _ A21.out).mono ?_); rintro e w' ⟨rfl, ⟨nd, rfl⟩⟩; refine ⟨_, rfl, ?_⟩))
                          go_ret3
                          exact ⟨by first | rfl | (simp; done) | (simp [*]; done), by repeat (first | exact Drawn0.refl _ | apply Drawn0.step)⟩
                        · rw [if_neg c22] at H
                          have c22b0 : (t161 == (wrap64 ((wrap64 (x1_11 + 1)) + 1))) = false := beq_eq_false_iff_ne.mpr c22
                          have c22b1 : (t161 != (wrap64 ((wrap64 (x1_11 + 1)) + 1))) = true := bne_iff_ne.mpr c22
                          (first | rw [c22b0] | (simp only [i64_w, i32_w]; rw [c22b0]) | skip)
                          have H' := Aside0.mk H
                          clear H
                          go_wp2_with (first | ((with_reducible refine gate_callee (f := 38) rfl ?_); refine goesL_ (some 59) rfl rfl Try.func38 (by kernel_rfl) rfl #[.string a0, .int .i64 (wrap64 (x1_11 + 1)), .string (⟨#[43, 45]⟩ : ByteArray)] rfl (by (try simp only [List.map_toArray, List.map_cons, List.map_nil]); first | done | rfl | (simp only [List.length_drop, List.length_take]; rfl)) ?_; (with_reducible refine (copperplateref05_at.calls kj11 a0 (wrap64 (x1_11 + 1)) (⟨#[43, 45]⟩ : ByteArray) true _ A19.out).mono ?_); rintro e w' ⟨rfl, ⟨nd, rfl⟩⟩; refine ⟨_, rfl, ?_⟩) | ((with_reducible refine gate_callee (f := 20) rfl ?_); refine goesL_ (some 65) rfl rfl Try.func20 (by kernel_rfl) rfl #[.string a0, .int .i64 (wrap64 ((wrap64 (x1_11 + 1)) + 1))] rfl (by (try simp only [List.map_toArray, List.map_cons, List.map_nil]); first | done | rfl | (simp only [List.length_drop, List.length_take]; rfl)) ?_; (with_reducible refine (copperplateref04_Digits.calls kj11 a0 (wrap64 ((wrap64 (x1_11 + 1)) + 1)) t161 _ A21.out).mono ?_); rintro e w' ⟨rfl, ⟨nd, rfl⟩⟩; refine ⟨_, rfl, ?_⟩))
                          go_meet
                          case rel => exact ⟨_, (t161), (4), (by first | rfl | (simp; done) | (simp [*]; done)), (by first | rfl | (simp; done) | (simp [*]; done)), H', ⟨by have := HJ2.out; have := HJ6.out; have := HJ11.out; first | omega | exact Nat.le_refl _⟩, by repeat (first | exact Drawn0.refl _ | apply Drawn0.step)⟩
                      · replace c20 := Bool.eq_false_iff.mpr c20
                        subst c20
                        have H1 : ((copperplateref04_Digits.f kj11 a0 (wrap64 (x1_11 + 1))).bind fun t162 => (if t162 = (wrap64 (x1_11 + 1)) then (some (0, wrap64 (x1_11 + 1), false)) else (copperplateref05_Number.j3 kj11 a0 t162 4))) = some (r1, r2, r3) := by rw [if_neg (show ¬ (false = true) by decide)] at H; exact H
                        clear H
                        have H := H1
                        clear H1
                        replace H := Option.bind_eq_some_iff.mp H
                        obtain ⟨t162, A230, H⟩ := H
                        replace H : (if t162 = (wrap64 (x1_11 + 1)) then (some (0, wrap64 (x1_11 + 1), false)) else (copperplateref05_Number.j3 kj11 a0 t162 4)) = some (r1, r2, r3) := H
                        have A23 := Aside0.mk A230
                        clear A230
                        by_cases c24 : t162 = (wrap64 (x1_11 + 1))
                        · rw [if_pos c24] at H
                          have c24b0 : (t162 == (wrap64 (x1_11 + 1))) = true := beq_iff_eq.mpr c24
                          have c24b1 : (t162 != (wrap64 (x1_11 + 1))) = false := bne_eq_false_iff_eq.mpr c24
                          clear c24
                          simp only [Option.some.injEq, Prod.mk.injEq] at H
                          obtain ⟨rfl, rfl, rfl⟩ := H
                          go_wp2_with (first | ((with_reducible refine gate_callee (f := 38) rfl ?_); refine goesL_ (some 59) rfl rfl Try.func38 (by kernel_rfl) rfl #[.string a0, .int .i64 (wrap64 (x1_11 + 1)), .string (⟨#[43, 45]⟩ : ByteArray)] rfl (by (try simp only [List.map_toArray, List.map_cons, List.map_nil]); first | done | rfl | (simp only [List.length_drop, List.length_take]; rfl)) ?_; (with_reducible refine (copperplateref05_at.calls kj11 a0 (wrap64 (x1_11 + 1)) (⟨#[43, 45]⟩ : ByteArray) false _ A19.out).mono ?_); rintro e w' ⟨rfl, ⟨nd, rfl⟩⟩; refine ⟨_, rfl, ?_⟩) | ((with_reducible refine gate_callee (f := 20) rfl ?_); refine goesL_ (some 65) rfl rfl Try.func20 (by kernel_rfl) rfl #[.string a0, .int .i64 (wrap64 (x1_11 + 1))] rfl (by (try simp only [List.map_toArray, List.map_cons, List.map_nil]); first | done | rfl | (simp only [List.length_drop, List.length_take]; rfl)) ?_; (with_reducible refine (copperplateref04_Digits.calls kj11 a0 (wrap64 (x1_11 + 1)) t162 _ A23.out).mono ?_); rintro e w' ⟨rfl, ⟨nd, rfl⟩⟩; refine ⟨_, rfl, ?_⟩))
                          go_ret3
                          exact ⟨by first | rfl | (simp; done) | (simp [*]; done), by repeat (first | exact Drawn0.refl _ | apply Drawn0.step)⟩
                        · rw [if_neg c24] at H
                          have c24b0 : (t162 == (wrap64 (x1_11 + 1))) = false := beq_eq_false_iff_ne.mpr c24
                          have c24b1 : (t162 != (wrap64 (x1_11 + 1))) = true := bne_iff_ne.mpr c24
                          have H' := Aside0.mk H
                          clear H
                          go_wp2_with (first | ((with_reducible refine gate_callee (f := 38) rfl ?_); refine goesL_ (some 59) rfl rfl Try.func38 (by kernel_rfl) rfl #[.string a0, .int .i64 (wrap64 (x1_11 + 1)), .string (⟨#[43, 45]⟩ : ByteArray)] rfl (by (try simp only [List.map_toArray, List.map_cons, List.map_nil]); first | done | rfl | (simp only [List.length_drop, List.length_take]; rfl)) ?_; (with_reducible refine (copperplateref05_at.calls kj11 a0 (wrap64 (x1_11 + 1)) (⟨#[43, 45]⟩ : ByteArray) false _ A19.out).mono ?_); rintro e w' ⟨rfl, ⟨nd, rfl⟩⟩; refine ⟨_, rfl, ?_⟩) | ((with_reducible refine gate_callee (f := 20) rfl ?_); refine goesL_ (some 65) rfl rfl Try.func20 (by kernel_rfl) rfl #[.string a0, .int .i64 (wrap64 (x1_11 + 1))] rfl (by (try simp only [List.map_toArray, List.map_cons, List.map_nil]); first | done | rfl | (simp only [List.length_drop, List.length_take]; rfl)) ?_; (with_reducible refine (copperplateref04_Digits.calls kj11 a0 (wrap64 (x1_11 + 1)) t162 _ A23.out).mono ?_); rintro e w' ⟨rfl, ⟨nd, rfl⟩⟩; refine ⟨_, rfl, ?_⟩))
                          go_meet
                          case rel => exact ⟨_, (t162), (4), (by first | rfl | (simp; done) | (simp [*]; done)), (by first | rfl | (simp; done) | (simp [*]; done)), H', ⟨by have := HJ2.out; have := HJ6.out; have := HJ11.out; first | omega | exact Nat.le_refl _⟩, by repeat (first | exact Drawn0.refl _ | apply Drawn0.step)⟩
                    · replace c18 := Bool.eq_false_iff.mpr c18
                      subst c18
                      have H1 : (copperplateref05_Number.j3 kj11 a0 x1_11 x7_11) = some (r1, r2, r3) := by rw [if_neg (show ¬ (false = true) by decide)] at H; exact H
                      clear H
                      have H := H1
                      clear H1
                      have H' := Aside0.mk H
                      clear H
                      go_wp2
                      go_meet
                      case rel => exact ⟨_, (x1_11), (x7_11), (by first | rfl | (simp; done) | (simp [*]; done)), (by first | rfl | (simp; done) | (simp [*]; done)), H', ⟨by have := HJ2.out; have := HJ6.out; have := HJ11.out; first | omega | exact Nat.le_refl _⟩, by repeat (first | exact Drawn0.refl _ | apply Drawn0.step)⟩
                  case rest =>
                    clear HC17
                    try clear c1
                    try clear c2
                    try clear p2
                    try clear c3
                    try clear c4
                    try clear c4b0
                    try clear c5
                    try clear c6
                    try clear p6
                    try clear c8
                    try clear c10
                    try clear c10b0
                    try clear c10b1
                    try clear c11
                    try clear c13
                    try clear c15
                    try clear c15b0
                    try clear c15b1
                    try clear c18
                    try clear c20
                    try clear c22
                    try clear c22b0
                    try clear c22b1
                    try clear c24
                    try clear c24b0
                    try clear c24b1
                    try clear p2
                    try clear p6
                    obtain ⟨kq, x1_16, x7_16, rfl, rfl, HA, HJ16, ⟨mc16, rfl⟩⟩ := hcut
                    cases kq with
                    | zero => exact absurd HA.out (by simp [copperplateref05_Number.j3])
                    | succ kj16 =>
                      have H := HA.out
                      clear HA
                      simp only [copperplateref05_Number.j3] at H
                      replace H := Option.bind_eq_some_iff.mp H
                      obtain ⟨t163, A250, H⟩ := H
                      replace H : (if t163 = true then (some (0, x1_16, false)) else (if x1_16 < (a0.size : Int) then (if 0 ≤ x1_16 then ((copperplateref04_Begins.f (bt a0 x1_16)).bind fun t164 => (if t164 = true then (some (0, x1_16, false)) else (some (x7_16, x1_16, true)))) else (none)) else (some (x7_16, x1_16, true)))) = some (r1, r2, r3) := H
                      have A25 := Aside0.mk A250
                      clear A250
                      by_cases c26 : t163 = true
                      · subst c26
                        have H1 : (some (0, x1_16, false)) = some (r1, r2, r3) := by rw [if_pos rfl] at H; exact H
                        clear H
                        have H := H1
                        clear H1
                        simp only [Option.some.injEq, Prod.mk.injEq] at H
                        obtain ⟨rfl, rfl, rfl⟩ := H
                        go_wp2_with (first | ((with_reducible refine gate_callee (f := 38) rfl ?_); refine goesL_ (some 73) rfl rfl Try.func38 (by kernel_rfl) rfl #[.string a0, .int .i64 x1_16, .string (⟨#[48, 49, 50, 51, 52, 53, 54, 55, 56, 57, 46]⟩ : ByteArray)] rfl (by (try simp only [List.map_toArray, List.map_cons, List.map_nil]); first | done | rfl | (simp only [List.length_drop, List.length_take]; rfl)) ?_; (with_reducible refine (copperplateref05_at.calls kj16 a0 x1_16 (⟨#[48, 49, 50, 51, 52, 53, 54, 55, 56, 57, 46]⟩ : ByteArray) true _ A25.out).mono ?_); rintro e w' ⟨rfl, ⟨nd, rfl⟩⟩; refine ⟨_, rfl, ?_⟩))
                        go_ret3
                        exact ⟨by first | rfl | (simp; done) | (simp [*]; done), by repeat (first | exact Drawn0.refl _ | apply Drawn0.step)⟩
                      · replace c26 := Bool.eq_false_iff.mpr c26
                        subst c26
                        have H1 : (if x1_16 < (a0.size : Int) then (if 0 ≤ x1_16 then ((copperplateref04_Begins.f (bt a0 x1_16)).bind fun t164 => (if t164 = true then (some (0, x1_16, false)) else (some (x7_16, x1_16, true)))) else (none)) else (some (x7_16, x1_16, true))) = some (r1, r2, r3) := by rw [if_neg (show ¬ (false = true) by decide)] at H; exact H
                        clear H
                        have H := H1
                        clear H1
                        by_cases c27 : x1_16 < (a0.size : Int)
                        · rw [if_pos c27] at H
                          have c27b0 : decide (x1_16 < (a0.size : Int)) = true := decide_eq_true c27
                          clear c27
                          by_cases c28 : 0 ≤ x1_16
                          · rw [if_pos c28] at H
                            have c28b0 : decide (0 ≤ x1_16) = true := decide_eq_true c28
                            clear c28
                            replace H := Option.bind_eq_some_iff.mp H
                            obtain ⟨t164, A300, H⟩ := H
                            replace H : (if t164 = true then (some (0, x1_16, false)) else (some (x7_16, x1_16, true))) = some (r1, r2, r3) := H
                            have A30 := Aside0.mk A300
                            clear A300
                            by_cases c31 : t164 = true
                            · subst c31
                              have H1 : (some (0, x1_16, false)) = some (r1, r2, r3) := by rw [if_pos rfl] at H; exact H
                              clear H
                              have H := H1
                              clear H1
                              simp only [Option.some.injEq, Prod.mk.injEq] at H
                              obtain ⟨rfl, rfl, rfl⟩ := H
                              go_wp2_with (first | ((with_reducible refine gate_callee (f := 38) rfl ?_); refine goesL_ (some 73) rfl rfl Try.func38 (by kernel_rfl) rfl #[.string a0, .int .i64 x1_16, .string (⟨#[48, 49, 50, 51, 52, 53, 54, 55, 56, 57, 46]⟩ : ByteArray)] rfl (by (try simp only [List.map_toArray, List.map_cons, List.map_nil]); first | done | rfl | (simp only [List.length_drop, List.length_take]; rfl)) ?_; (with_reducible refine (copperplateref05_at.calls kj16 a0 x1_16 (⟨#[48, 49, 50, 51, 52, 53, 54, 55, 56, 57, 46]⟩ : ByteArray) false _ A25.out).mono ?_); rintro e w' ⟨rfl, ⟨nd, rfl⟩⟩; refine ⟨_, rfl, ?_⟩; have p29 : 0 ≤ (x1_16 : Int) := of_decide_eq_true (by first | (with_reducible assumption) | assumption); have q29 : x1_16 < (a0.size : Int) := of_decide_eq_true (by first | (with_reducible assumption) | assumption); have hx29 := bt_at a0 x1_16; replace p29 := eq_true p29; replace q29 := eq_true q29) | (go_at_call 15; (with_reducible refine (copperplateref04_Begins.calls (bt a0 x1_16) true _ A30.out).mono ?_); rintro e w' ⟨rfl, ⟨nd, rfl⟩⟩))
                              go_ret3
                              exact ⟨by first | rfl | (simp; done) | (simp [*]; done), by repeat (first | exact Drawn0.refl _ | apply Drawn0.step)⟩
                            · replace c31 := Bool.eq_false_iff.mpr c31
                              subst c31
                              have H1 : (some (x7_16, x1_16, true)) = some (r1, r2, r3) := by rw [if_neg (show ¬ (false = true) by decide)] at H; exact H
                              clear H
                              have H := H1
                              clear H1
                              simp only [Option.some.injEq, Prod.mk.injEq] at H
                              obtain ⟨rfl, rfl, rfl⟩ := H
                              go_wp2_with (first | ((with_reducible refine gate_callee (f := 38) rfl ?_); refine goesL_ (some 73) rfl rfl Try.func38 (by kernel_rfl) rfl #[.string a0, .int .i64 x1_16, .string (⟨#[48, 49, 50, 51, 52, 53, 54, 55, 56, 57, 46]⟩ : ByteArray)] rfl (by (try simp only [List.map_toArray, List.map_cons, List.map_nil]); first | done | rfl | (simp only [List.length_drop, List.length_take]; rfl)) ?_; (with_reducible refine (copperplateref05_at.calls kj16 a0 x1_16 (⟨#[48, 49, 50, 51, 52, 53, 54, 55, 56, 57, 46]⟩ : ByteArray) false _ A25.out).mono ?_); rintro e w' ⟨rfl, ⟨nd, rfl⟩⟩; refine ⟨_, rfl, ?_⟩; have p29 : 0 ≤ (x1_16 : Int) := of_decide_eq_true (by first | (with_reducible assumption) | assumption); have q29 : x1_16 < (a0.size : Int) := of_decide_eq_true (by first | (with_reducible assumption) | assumption); have hx29 := bt_at a0 x1_16; replace p29 := eq_true p29; replace q29 := eq_true q29) | (go_at_call 15; (with_reducible refine (copperplateref04_Begins.calls (bt a0 x1_16) false _ A30.out).mono ?_); rintro e w' ⟨rfl, ⟨nd, rfl⟩⟩))
                              go_ret3
                              exact ⟨by first | rfl | (simp; done) | (simp [*]; done), by repeat (first | exact Drawn0.refl _ | apply Drawn0.step)⟩
                          · rw [if_neg c28] at H
                            exact absurd H (by simp)
                        · rw [if_neg c27] at H
                          have c27b0 : decide (x1_16 < (a0.size : Int)) = false := decide_eq_false c27
                          clear c27
                          simp only [Option.some.injEq, Prod.mk.injEq] at H
                          obtain ⟨rfl, rfl, rfl⟩ := H
                          go_wp2_with (first | ((with_reducible refine gate_callee (f := 38) rfl ?_); refine goesL_ (some 73) rfl rfl Try.func38 (by kernel_rfl) rfl #[.string a0, .int .i64 x1_16, .string (⟨#[48, 49, 50, 51, 52, 53, 54, 55, 56, 57, 46]⟩ : ByteArray)] rfl (by (try simp only [List.map_toArray, List.map_cons, List.map_nil]); first | done | rfl | (simp only [List.length_drop, List.length_take]; rfl)) ?_; (with_reducible refine (copperplateref05_at.calls kj16 a0 x1_16 (⟨#[48, 49, 50, 51, 52, 53, 54, 55, 56, 57, 46]⟩ : ByteArray) false _ A25.out).mono ?_); rintro e w' ⟨rfl, ⟨nd, rfl⟩⟩; refine ⟨_, rfl, ?_⟩))
                          go_ret3
                          exact ⟨by first | rfl | (simp; done) | (simp [*]; done), by repeat (first | exact Drawn0.refl _ | apply Drawn0.step)⟩

/-! ### copperplateref05_Whole: function 26 -/
def copperplateref05_Whole.f (k : Nat) (a0 : ByteArray) : Option (Bool) := (copperplateref05_Number.f k a0 0).bind fun bt165 => (if bt165.2.2 = true then (some (bt165.2.1 == (a0.size : Int))) else (some false))
theorem copperplateref05_Whole.mono : ∀ a0 k, LeO (copperplateref05_Whole.f k a0) (copperplateref05_Whole.f (k + 1) a0) := by
  intro a0 k
  unfold copperplateref05_Whole.f
  repeat' first
      | (with_reducible exact copperplateref05_Number.mono _ _ _)
      | (with_reducible exact LeO.refl _)
      | (with_reducible exact LeO.none _)
      | (with_reducible refine LeO.ite ?_ ?_)
      | (with_reducible refine LeO.bind ?_ (fun _ => ?_))
      | exact copperplateref05_Number.mono _ _ _
      | exact LeO.none _
      | refine LeO.ite ?_ ?_
      | refine LeO.bind ?_ (fun _ => ?_)
set_option maxHeartbeats 8000000 in
set_option maxRecDepth 100000 in
theorem copperplateref05_Whole.calls (k : Nat) (a0 : ByteArray) (r : Bool) (w : World) (h : copperplateref05_Whole.f k a0 = some r) :
    Calls Try.prog 26 #[.string a0] w fun e w' => e = .returned (.bool r) ∧ Drawn0 w w' := by
  have H : ((copperplateref05_Number.f k a0 0).bind fun bt165 => (if bt165.2.2 = true then (some (bt165.2.1 == (a0.size : Int))) else (some false))) = some r := h
  clear h
  replace H := Option.bind_eq_some_iff.mp H
  obtain ⟨⟨t165, t166, t167⟩, A20, H⟩ := H
  replace H : (if t167 = true then (some (t166 == (a0.size : Int))) else (some false)) = some r := H
  have A2 := Aside0.mk A20
  clear A20
  by_cases c3 : t167 = true
  · subst c3
    have H1 : (some (t166 == (a0.size : Int))) = some r := by rw [if_pos rfl] at H; exact H
    clear H
    have H := H1
    clear H1
    obtain rfl := Option.some.inj H
    go_enter Try.func26, Try.ntmps26
    go_wp2_with (first | ((with_reducible refine gate_callee (f := 25) rfl ?_); refine goesL_ (some 8) rfl rfl Try.func25 (by kernel_rfl) rfl #[.string a0, .int .i64 0] rfl (by (try simp only [List.map_toArray, List.map_cons, List.map_nil]); first | done | rfl | (simp only [List.length_drop, List.length_take]; rfl)) ?_; (with_reducible refine (copperplateref05_Number.calls k a0 0 t165 t166 true _ A2.out).mono ?_); rintro e w' ⟨rfl, ⟨nd, rfl⟩⟩; refine ⟨_, rfl, ?_⟩))
    go_ret
    exact ⟨by first | rfl | (simp; done) | (simp [*]; done), by repeat (first | exact Drawn0.refl _ | apply Drawn0.step)⟩
  · replace c3 := Bool.eq_false_iff.mpr c3
    subst c3
    have H1 : (some false) = some r := by rw [if_neg (show ¬ (false = true) by decide)] at H; exact H
    clear H
    have H := H1
    clear H1
    obtain rfl := Option.some.inj H
    go_enter Try.func26, Try.ntmps26
    go_wp2_with (first | ((with_reducible refine gate_callee (f := 25) rfl ?_); refine goesL_ (some 8) rfl rfl Try.func25 (by kernel_rfl) rfl #[.string a0, .int .i64 0] rfl (by (try simp only [List.map_toArray, List.map_cons, List.map_nil]); first | done | rfl | (simp only [List.length_drop, List.length_take]; rfl)) ?_; (with_reducible refine (copperplateref05_Number.calls k a0 0 t165 t166 false _ A2.out).mono ?_); rintro e w' ⟨rfl, ⟨nd, rfl⟩⟩; refine ⟨_, rfl, ?_⟩))
    go_ret
    exact ⟨by first | rfl | (simp; done) | (simp [*]; done), by repeat (first | exact Drawn0.refl _ | apply Drawn0.step)⟩

/-! ### copperplatelaw05_NumTells: function 9 -/
def copperplatelaw05_NumTells.j0 : Nat → ByteArray → Int → Bool → Bool → Option (Bool)
  | 0, _, _, _, _ => none
  | k + 1, x0, x1, x5, x20 => if x20 = true then (some x5) else ((num_Number.f x0 x1).bind fun bt169 => ((copperplateref05_Number.f k x0 x1).bind fun bt172 => ((copperplateref05_Whole.f k x0).bind fun t175 => (if bt169.1 = bt172.1 then (if bt169.2.1 = bt172.2.1 then (if (bt169.2.2 == bt172.2.2) = true then ((num_Whole.f x0).bind fun t176 => (some (t176 == t175))) else (some false)) else (some false)) else (some false)))))
def copperplatelaw05_NumTells.f (k : Nat) (a0 : ByteArray) (a1 : Int) : Option (Bool) := (copperplatelaw05_awake.f).bind fun t168 => (if t168 = true then (copperplatelaw05_NumTells.j0 k a0 a1 t168 (decide ((a0.size : Int) > 600))) else (copperplatelaw05_NumTells.j0 k a0 a1 t168 true))
theorem copperplatelaw05_NumTells.mono_l : ∀ k, (∀ y0 y1 y2 y3, LeO (copperplatelaw05_NumTells.j0 k y0 y1 y2 y3) (copperplatelaw05_NumTells.j0 (k + 1) y0 y1 y2 y3))
  | 0 => fun _ _ _ _ r h => by simp [copperplatelaw05_NumTells.j0] at h
  | k + 1 => by
    have ih0 := copperplatelaw05_NumTells.mono_l k
    · intro y0 y1 y2 y3
      unfold copperplatelaw05_NumTells.j0
      repeat' first
      | (with_reducible exact ih0 _ _ _ _)
      | (with_reducible exact copperplateref05_Number.mono _ _ _)
      | (with_reducible exact copperplateref05_Whole.mono _ _)
      | (with_reducible exact LeO.refl _)
      | (with_reducible exact LeO.none _)
      | (with_reducible refine LeO.ite ?_ ?_)
      | (with_reducible refine LeO.bind ?_ (fun _ => ?_))
      | exact ih0 _ _ _ _
      | exact copperplateref05_Number.mono _ _ _
      | exact copperplateref05_Whole.mono _ _
      | exact LeO.none _
      | refine LeO.ite ?_ ?_
      | refine LeO.bind ?_ (fun _ => ?_)
theorem copperplatelaw05_NumTells.mono : ∀ a0 a1 k, LeO (copperplatelaw05_NumTells.f k a0 a1) (copperplatelaw05_NumTells.f (k + 1) a0 a1) := by
  intro a0 a1 k
  have ih0 := copperplatelaw05_NumTells.mono_l k
  unfold copperplatelaw05_NumTells.f
  repeat' first
      | (with_reducible exact ih0 _ _ _ _)
      | (with_reducible exact copperplateref05_Number.mono _ _ _)
      | (with_reducible exact copperplateref05_Whole.mono _ _)
      | (with_reducible exact LeO.refl _)
      | (with_reducible exact LeO.none _)
      | (with_reducible refine LeO.ite ?_ ?_)
      | (with_reducible refine LeO.bind ?_ (fun _ => ?_))
      | exact ih0 _ _ _ _
      | exact copperplateref05_Number.mono _ _ _
      | exact copperplateref05_Whole.mono _ _
      | exact LeO.none _
      | refine LeO.ite ?_ ?_
      | refine LeO.bind ?_ (fun _ => ?_)
set_option maxHeartbeats 8000000 in
set_option maxRecDepth 100000 in
theorem copperplatelaw05_NumTells.calls (k : Nat) (a0 : ByteArray) (a1 : Int) (r : Bool) (w : World) (h : copperplatelaw05_NumTells.f k a0 a1 = some r) :
    Calls Try.prog 9 #[.string a0, .int .i64 a1] w fun e w' => e = .returned (.bool r) ∧ Below w.heap.size w w' := by
  have HB := Aside0.mk (Below.refl w.heap.size w)
  have H : ((copperplatelaw05_awake.f).bind fun t168 => (if t168 = true then (copperplatelaw05_NumTells.j0 k a0 a1 t168 (decide ((a0.size : Int) > 600))) else (copperplatelaw05_NumTells.j0 k a0 a1 t168 true))) = some r := h
  clear h
  replace H := Option.bind_eq_some_iff.mp H
  obtain ⟨t168, A30, H⟩ := H
  replace H : (if t168 = true then (copperplatelaw05_NumTells.j0 k a0 a1 t168 (decide ((a0.size : Int) > 600))) else (copperplatelaw05_NumTells.j0 k a0 a1 t168 true)) = some r := H
  have A3 := Aside0.mk A30
  clear A30
  have HC4 := Aside0.mk H
  clear H
  go_enter Try.func9, Try.ntmps9
  go_upto_region 2 with (first | ((with_reducible refine gate_callee (f := 23) rfl ?_); refine goesL_ (some 13) rfl rfl Try.func23 (by kernel_rfl) rfl #[] rfl (by (try simp only [List.map_toArray, List.map_cons, List.map_nil]); first | done | rfl | (simp only [List.length_drop, List.length_take]; rfl)) ?_; (with_reducible refine (copperplatelaw05_awake.calls  t168 _ A3.out).mono ?_); rintro e w5 ⟨rfl, hb⟩; refine ⟨_, rfl, ?_⟩; have n0_ := Aside0.mk (below_step (by repeat (first | (with_reducible first | exact HB.out | apply below_alloc | apply pw_below_drewN | apply below_drew1) | exact HB.out)) hb); clear HB; have HB := n0_; clear n0_; (try clear hb); (try clear hb2); (try clear hk); (try clear hi)))
  (try simp only [Act.put, List.setIfInBounds_toArray, List.set_cons_zero, List.set_cons_succ])
  go_cut [20] (fun v20 wc => ∃ (kq : Nat) (x20_3 : Bool), v20 = .bool x20_3 ∧ Aside0 (copperplatelaw05_NumTells.j0 kq a0 a1 t168 x20_3 = some r) ∧ Aside0 (kq ≤ k) ∧ Aside0 (Below w.heap.size w wc))
  case first =>
    have H := HC4.out
    clear HC4
    by_cases c6 : t168 = true
    · subst c6
      have H1 : (copperplatelaw05_NumTells.j0 k a0 a1 true (decide ((a0.size : Int) > 600))) = some r := by rw [if_pos rfl] at H; exact H
      clear H
      have H := H1
      clear H1
      have H' := Aside0.mk H
      clear H
      go_wp2
      go_meet
      case rel => exact ⟨_, (decide ((a0.size : Int) > 600)), (by first | rfl | (simp; done) | (simp [*]; done)), H', ⟨by first | omega | exact Nat.le_refl _⟩, ⟨by repeat (first | (with_reducible first | exact HB.out | apply below_alloc | apply pw_below_drewN | apply below_drew1) | exact HB.out)⟩⟩
    · replace c6 := Bool.eq_false_iff.mpr c6
      subst c6
      have H1 : (copperplatelaw05_NumTells.j0 k a0 a1 false true) = some r := by rw [if_neg (show ¬ (false = true) by decide)] at H; exact H
      clear H
      have H := H1
      clear H1
      have H' := Aside0.mk H
      clear H
      go_wp2
      go_meet
      case rel => exact ⟨_, (true), (by first | rfl | (simp; done) | (simp [*]; done)), H', ⟨by first | omega | exact Nat.le_refl _⟩, ⟨by repeat (first | (with_reducible first | exact HB.out | apply below_alloc | apply pw_below_drewN | apply below_drew1) | exact HB.out)⟩⟩
  case rest =>
    clear HC4
    try clear c2
    try clear p2
    try clear c6
    obtain ⟨kq, x20_3, rfl, HA, HJ3, HB⟩ := hcut
    cases kq with
    | zero => exact absurd HA.out (by simp [copperplatelaw05_NumTells.j0])
    | succ kj3 =>
      have H := HA.out
      clear HA
      simp only [copperplatelaw05_NumTells.j0] at H
      by_cases c7 : x20_3 = true
      · subst c7
        have H1 : (some t168) = some r := by rw [if_pos rfl] at H; exact H
        clear H
        have H := H1
        clear H1
        obtain rfl := Option.some.inj H
        go_wp2
        go_ret
        exact ⟨by first | rfl | (simp [errW_none, errW_some] <;> rfl) | (simp [*, errW_none, errW_some] <;> rfl), by repeat (first | (with_reducible first | exact HB.out | apply below_alloc | apply pw_below_drewN | apply below_drew1) | exact HB.out)⟩
      · replace c7 := Bool.eq_false_iff.mpr c7
        subst c7
        have H1 : ((num_Number.f a0 a1).bind fun bt169 => ((copperplateref05_Number.f kj3 a0 a1).bind fun bt172 => ((copperplateref05_Whole.f kj3 a0).bind fun t175 => (if bt169.1 = bt172.1 then (if bt169.2.1 = bt172.2.1 then (if (bt169.2.2 == bt172.2.2) = true then ((num_Whole.f a0).bind fun t176 => (some (t176 == t175))) else (some false)) else (some false)) else (some false))))) = some r := by rw [if_neg (show ¬ (false = true) by decide)] at H; exact H
        clear H
        have H := H1
        clear H1
        replace H := Option.bind_eq_some_iff.mp H
        obtain ⟨⟨t169, t170, t171⟩, A80, H⟩ := H
        replace H : ((copperplateref05_Number.f kj3 a0 a1).bind fun bt172 => ((copperplateref05_Whole.f kj3 a0).bind fun t175 => (if t169 = bt172.1 then (if t170 = bt172.2.1 then (if (t171 == bt172.2.2) = true then ((num_Whole.f a0).bind fun t176 => (some (t176 == t175))) else (some false)) else (some false)) else (some false)))) = some r := H
        have A8 := Aside0.mk A80
        clear A80
        replace H := Option.bind_eq_some_iff.mp H
        obtain ⟨⟨t172, t173, t174⟩, A90, H⟩ := H
        replace H : ((copperplateref05_Whole.f kj3 a0).bind fun t175 => (if t169 = t172 then (if t170 = t173 then (if (t171 == t174) = true then ((num_Whole.f a0).bind fun t176 => (some (t176 == t175))) else (some false)) else (some false)) else (some false))) = some r := H
        have A9 := Aside0.mk A90
        clear A90
        replace H := Option.bind_eq_some_iff.mp H
        obtain ⟨t175, A100, H⟩ := H
        replace H : (if t169 = t172 then (if t170 = t173 then (if (t171 == t174) = true then ((num_Whole.f a0).bind fun t176 => (some (t176 == t175))) else (some false)) else (some false)) else (some false)) = some r := H
        have A10 := Aside0.mk A100
        clear A100
        by_cases c11 : t169 = t172
        · rw [if_pos c11] at H
          have c11b0 : (t169 == t172) = true := beq_iff_eq.mpr c11
          have c11b1 : (t169 != t172) = false := bne_eq_false_iff_eq.mpr c11
          clear c11
          by_cases c12 : t170 = t173
          · rw [if_pos c12] at H
            have c12b0 : (t170 == t173) = true := beq_iff_eq.mpr c12
            have c12b1 : (t170 != t173) = false := bne_eq_false_iff_eq.mpr c12
            clear c12
            by_cases c13 : (t171 == t174) = true
            · rw [if_pos c13] at H
              have c13b0 : (t171 == t174) = true := c13
              (try (have c13b1 : decide (t171 = t174) = true := by simpa using c13))
              (try (have c13b2 : (t171 == t174) = true := by simpa using c13))
              clear c13
              replace H := Option.bind_eq_some_iff.mp H
              obtain ⟨t176, A140, H⟩ := H
              replace H : (some (t176 == t175)) = some r := H
              have A14 := Aside0.mk A140
              clear A140
              obtain rfl := Option.some.inj H
              go_wp2_with (first | ((with_reducible refine gate_callee (f := 24) rfl ?_); refine goesL_ (some 25) rfl rfl Try.func24 (by kernel_rfl) rfl #[.string a0, .int .i64 a1] rfl (by (try simp only [List.map_toArray, List.map_cons, List.map_nil]); first | done | rfl | (simp only [List.length_drop, List.length_take]; rfl)) ?_; (with_reducible refine (num_Number.calls a0 a1 t169 t170 t171 _ A8.out).mono ?_); rintro e w15 ⟨rfl, hb⟩; refine ⟨_, rfl, ?_⟩; have n0_ := Aside0.mk (below_step (by repeat (first | (with_reducible first | exact HB.out | apply below_alloc | apply pw_below_drewN | apply below_drew1) | exact HB.out)) hb); clear HB; have HB := n0_; clear n0_; (try clear hb); (try clear hb2); (try clear hk); (try clear hi)) | ((with_reducible refine gate_callee (f := 25) rfl ?_); refine goesL_ (some 32) rfl rfl Try.func25 (by kernel_rfl) rfl #[.string a0, .int .i64 a1] rfl (by (try simp only [List.map_toArray, List.map_cons, List.map_nil]); first | done | rfl | (simp only [List.length_drop, List.length_take]; rfl)) ?_; (with_reducible refine (copperplateref05_Number.calls kj3 a0 a1 t172 t173 t174 _ A9.out).mono ?_); rintro e w' ⟨rfl, ⟨nd, rfl⟩⟩; refine ⟨_, rfl, ?_⟩) | ((with_reducible refine gate_callee (f := 26) rfl ?_); refine goesL_ (some 37) rfl rfl Try.func26 (by kernel_rfl) rfl #[.string a0] rfl (by (try simp only [List.map_toArray, List.map_cons, List.map_nil]); first | done | rfl | (simp only [List.length_drop, List.length_take]; rfl)) ?_; (with_reducible refine (copperplateref05_Whole.calls kj3 a0 t175 _ A10.out).mono ?_); rintro e w' ⟨rfl, ⟨nd, rfl⟩⟩; refine ⟨_, rfl, ?_⟩) | (go_at_call 27; (with_reducible refine (num_Whole.calls a0 t176 _ A14.out).mono ?_); rintro e w16 ⟨rfl, hb⟩; have n0_ := Aside0.mk (below_step (by repeat (first | (with_reducible first | exact HB.out | apply below_alloc | apply pw_below_drewN | apply below_drew1) | exact HB.out)) hb); clear HB; have HB := n0_; clear n0_; (try clear hb); (try clear hb2); (try clear hk); (try clear hi)))
              go_ret
              exact ⟨by first | rfl | (simp [errW_none, errW_some] <;> rfl) | (simp [*, errW_none, errW_some] <;> rfl), by repeat (first | (with_reducible first | exact HB.out | apply below_alloc | apply pw_below_drewN | apply below_drew1) | exact HB.out)⟩
            · rw [if_neg c13] at H
              have c13b0 : (t171 == t174) = false := by simpa using c13
              (try (have c13b1 : decide (t171 = t174) = false := by simpa using c13))
              (try (have c13b2 : (t171 == t174) = false := by simpa using c13))
              (try (have c13b3 : ¬ (t171 = t174) := by simpa using c13))
              clear c13
              obtain rfl := Option.some.inj H
              go_wp2_with (first | ((with_reducible refine gate_callee (f := 24) rfl ?_); refine goesL_ (some 25) rfl rfl Try.func24 (by kernel_rfl) rfl #[.string a0, .int .i64 a1] rfl (by (try simp only [List.map_toArray, List.map_cons, List.map_nil]); first | done | rfl | (simp only [List.length_drop, List.length_take]; rfl)) ?_; (with_reducible refine (num_Number.calls a0 a1 t169 t170 t171 _ A8.out).mono ?_); rintro e w17 ⟨rfl, hb⟩; refine ⟨_, rfl, ?_⟩; have n0_ := Aside0.mk (below_step (by repeat (first | (with_reducible first | exact HB.out | apply below_alloc | apply pw_below_drewN | apply below_drew1) | exact HB.out)) hb); clear HB; have HB := n0_; clear n0_; (try clear hb); (try clear hb2); (try clear hk); (try clear hi)) | ((with_reducible refine gate_callee (f := 25) rfl ?_); refine goesL_ (some 32) rfl rfl Try.func25 (by kernel_rfl) rfl #[.string a0, .int .i64 a1] rfl (by (try simp only [List.map_toArray, List.map_cons, List.map_nil]); first | done | rfl | (simp only [List.length_drop, List.length_take]; rfl)) ?_; (with_reducible refine (copperplateref05_Number.calls kj3 a0 a1 t172 t173 t174 _ A9.out).mono ?_); rintro e w' ⟨rfl, ⟨nd, rfl⟩⟩; refine ⟨_, rfl, ?_⟩) | ((with_reducible refine gate_callee (f := 26) rfl ?_); refine goesL_ (some 37) rfl rfl Try.func26 (by kernel_rfl) rfl #[.string a0] rfl (by (try simp only [List.map_toArray, List.map_cons, List.map_nil]); first | done | rfl | (simp only [List.length_drop, List.length_take]; rfl)) ?_; (with_reducible refine (copperplateref05_Whole.calls kj3 a0 t175 _ A10.out).mono ?_); rintro e w' ⟨rfl, ⟨nd, rfl⟩⟩; refine ⟨_, rfl, ?_⟩))
              go_ret
              exact ⟨by first | rfl | (simp [errW_none, errW_some] <;> rfl) | (simp [*, errW_none, errW_some] <;> rfl), by repeat (first | (with_reducible first | exact HB.out | apply below_alloc | apply pw_below_drewN | apply below_drew1) | exact HB.out)⟩
          · rw [if_neg c12] at H
            have c12b0 : (t170 == t173) = false := beq_eq_false_iff_ne.mpr c12
            have c12b1 : (t170 != t173) = true := bne_iff_ne.mpr c12
            obtain rfl := Option.some.inj H
            go_wp2_with (first | ((with_reducible refine gate_callee (f := 24) rfl ?_); refine goesL_ (some 25) rfl rfl Try.func24 (by kernel_rfl) rfl #[.string a0, .int .i64 a1] rfl (by (try simp only [List.map_toArray, List.map_cons, List.map_nil]); first | done | rfl | (simp only [List.length_drop, List.length_take]; rfl)) ?_; (with_reducible refine (num_Number.calls a0 a1 t169 t170 t171 _ A8.out).mono ?_); rintro e w18 ⟨rfl, hb⟩; refine ⟨_, rfl, ?_⟩; have n0_ := Aside0.mk (below_step (by repeat (first | (with_reducible first | exact HB.out | apply below_alloc | apply pw_below_drewN | apply below_drew1) | exact HB.out)) hb); clear HB; have HB := n0_; clear n0_; (try clear hb); (try clear hb2); (try clear hk); (try clear hi)) | ((with_reducible refine gate_callee (f := 25) rfl ?_); refine goesL_ (some 32) rfl rfl Try.func25 (by kernel_rfl) rfl #[.string a0, .int .i64 a1] rfl (by (try simp only [List.map_toArray, List.map_cons, List.map_nil]); first | done | rfl | (simp only [List.length_drop, List.length_take]; rfl)) ?_; (with_reducible refine (copperplateref05_Number.calls kj3 a0 a1 t172 t173 t174 _ A9.out).mono ?_); rintro e w' ⟨rfl, ⟨nd, rfl⟩⟩; refine ⟨_, rfl, ?_⟩) | ((with_reducible refine gate_callee (f := 26) rfl ?_); refine goesL_ (some 37) rfl rfl Try.func26 (by kernel_rfl) rfl #[.string a0] rfl (by (try simp only [List.map_toArray, List.map_cons, List.map_nil]); first | done | rfl | (simp only [List.length_drop, List.length_take]; rfl)) ?_; (with_reducible refine (copperplateref05_Whole.calls kj3 a0 t175 _ A10.out).mono ?_); rintro e w' ⟨rfl, ⟨nd, rfl⟩⟩; refine ⟨_, rfl, ?_⟩))
            go_ret
            exact ⟨by first | rfl | (simp [errW_none, errW_some] <;> rfl) | (simp [*, errW_none, errW_some] <;> rfl), by repeat (first | (with_reducible first | exact HB.out | apply below_alloc | apply pw_below_drewN | apply below_drew1) | exact HB.out)⟩
        · rw [if_neg c11] at H
          have c11b0 : (t169 == t172) = false := beq_eq_false_iff_ne.mpr c11
          have c11b1 : (t169 != t172) = true := bne_iff_ne.mpr c11
          obtain rfl := Option.some.inj H
          go_wp2_with (first | ((with_reducible refine gate_callee (f := 24) rfl ?_); refine goesL_ (some 25) rfl rfl Try.func24 (by kernel_rfl) rfl #[.string a0, .int .i64 a1] rfl (by (try simp only [List.map_toArray, List.map_cons, List.map_nil]); first | done | rfl | (simp only [List.length_drop, List.length_take]; rfl)) ?_; (with_reducible refine (num_Number.calls a0 a1 t169 t170 t171 _ A8.out).mono ?_); rintro e w19 ⟨rfl, hb⟩; refine ⟨_, rfl, ?_⟩; have n0_ := Aside0.mk (below_step (by repeat (first | (with_reducible first | exact HB.out | apply below_alloc | apply pw_below_drewN | apply below_drew1) | exact HB.out)) hb); clear HB; have HB := n0_; clear n0_; (try clear hb); (try clear hb2); (try clear hk); (try clear hi)) | ((with_reducible refine gate_callee (f := 25) rfl ?_); refine goesL_ (some 32) rfl rfl Try.func25 (by kernel_rfl) rfl #[.string a0, .int .i64 a1] rfl (by (try simp only [List.map_toArray, List.map_cons, List.map_nil]); first | done | rfl | (simp only [List.length_drop, List.length_take]; rfl)) ?_; (with_reducible refine (copperplateref05_Number.calls kj3 a0 a1 t172 t173 t174 _ A9.out).mono ?_); rintro e w' ⟨rfl, ⟨nd, rfl⟩⟩; refine ⟨_, rfl, ?_⟩) | ((with_reducible refine gate_callee (f := 26) rfl ?_); refine goesL_ (some 37) rfl rfl Try.func26 (by kernel_rfl) rfl #[.string a0] rfl (by (try simp only [List.map_toArray, List.map_cons, List.map_nil]); first | done | rfl | (simp only [List.length_drop, List.length_take]; rfl)) ?_; (with_reducible refine (copperplateref05_Whole.calls kj3 a0 t175 _ A10.out).mono ?_); rintro e w' ⟨rfl, ⟨nd, rfl⟩⟩; refine ⟨_, rfl, ?_⟩))
          go_ret
          exact ⟨by first | rfl | (simp [errW_none, errW_some] <;> rfl) | (simp [*, errW_none, errW_some] <;> rfl), by repeat (first | (with_reducible first | exact HB.out | apply below_alloc | apply pw_below_drewN | apply below_drew1) | exact HB.out)⟩

/-- THE ONE PURE STATEMENT of copperplatelaw05_NumTells: yours. -/
def copperplatelaw05_NumTells.Pure : Prop := ∀ (a0 : ByteArray) (a1 : Int), a0.size ≤ 140737488351232 → (Lit.int .i64 a1).wf = true → ∃ k, copperplatelaw05_NumTells.f k a0 a1 = some true
theorem copperplatelaw05_NumTells.walk (P : copperplatelaw05_NumTells.Pure) (a0 : ByteArray) (a1 : Int) (w : World) (w0 : a0.size ≤ 140737488351232) (w1 : (Lit.int .i64 a1).wf = true) :
    Calls Try.prog 9 #[.string a0, .int .i64 a1] w fun e w' => e = .returned (.bool true) ∧ Below w.heap.size w w' := by
  obtain ⟨k, h⟩ := P a0 a1 w0 w1
  refine (copperplatelaw05_NumTells.calls k a0 a1 true w h).mono ?_
  rintro e w' ⟨rfl, hd⟩
  exact ⟨rfl, hd⟩

end Go.Proofs.Ytdhncfkbblfokaa.Q
