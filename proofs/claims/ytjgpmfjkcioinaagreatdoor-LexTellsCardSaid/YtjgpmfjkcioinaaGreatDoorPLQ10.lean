/-
  Texts of this seat, put together by bundle.py.
-/
import Derived.Test.YtjgpmfjkcioinaaGreatDoorPLGG9
import Derived.Test.YtjgpmfjkcioinaaGreatDoorPLQ5
import Derived.Test.YtjgpmfjkcioinaaGreatDoorPLQ7
import Derived.Test.YtjgpmfjkcioinaaGreatDoorPLQ9
namespace Go.Proofs.YtjgpmfjkcioinaaGreatDoor.Q
open Go.Proofs.YtjgpmfjkcioinaaGreatDoor.G
open Go.RowKit Go.Proofs.YtjgpmfjkcioinaaGreatDoorW.PrintWords Go.Proofs.YtjgpmfjkcioinaaGreatDoorW.PrintLast Go.Proofs.YtjgpmfjkcioinaaGreatDoorW.PrintMore
attribute [local go_sem] max2_int min2_int max_two min_two max_three min_three max_four min_four
set_option linter.unusedVariables false
set_option linter.unusedSimpArgs false
mutual
def copperplateref06_String.j0 : Nat → ByteArray → Int → Bool → Option (ByteArray × Int × Bool)
 | 0, _, _, _ => none
 | k + 1, x0, x1, x27 => if x27 = true then (some ((⟨#[]⟩ : ByteArray), x1, false)) else (copperplateref06_String.l0 k x0 (⟨#[]⟩ : ByteArray) (wrap64 (x1 + 1)))
def copperplateref06_String.l0 : Nat → ByteArray → ByteArray → Int → Option (ByteArray × Int × Bool)
 | 0, _, _, _ => none
 | k + 1, x0, x7, x8 => if x8 < (x0.size : Int) then (if 0 ≤ x8 then (copperplateref06_String.j2 k x0 x7 x8 ((bt x0 x8) != 34)) else (none)) else (copperplateref06_String.j2 k x0 x7 x8 false)
def copperplateref06_String.j2 : Nat → ByteArray → ByteArray → Int → Bool → Option (ByteArray × Int × Bool)
 | 0, _, _, _, _ => none
 | k + 1, x0, x7, x8, x40 => if x40 = true then (if 0 ≤ x8 then (if x8 < (x0.size : Int) then (if (bt x0 x8) = 92 then ((copperplateref06_Escape.f k x0 x8).bind fun bt193 => (if bt193.2.2 = true then (if x7.size + bt193.1.size ≤ 9223372036854775807 then (copperplateref06_String.l0 k x0 (x7 ++ bt193.1) bt193.2.1) else (none)) else (some ((⟨#[]⟩ : ByteArray), bt193.2.1, false)))) else ((copperplateref02_Next.f k x0 x8).bind fun bt196 => (if bt196.2 = 0 then (some ((⟨#[]⟩ : ByteArray), x8, false)) else (if bt196.1 = 10 then (some ((⟨#[]⟩ : ByteArray), x8, false)) else (if bt196.1 = 13 then (some ((⟨#[]⟩ : ByteArray), x8, false)) else (if x8 ≤ (wrap64 (x8 + bt196.2)) then (if (wrap64 (x8 + bt196.2)) ≤ (x0.size : Int) then (if x7.size + (x0.extract (x8 : Int).toNat ((wrap64 (x8 + bt196.2)) : Int).toNat).size ≤ 9223372036854775807 then (copperplateref06_String.l0 k x0 (x7 ++ (x0.extract (x8 : Int).toNat ((wrap64 (x8 + bt196.2)) : Int).toNat)) (wrap64 (x8 + bt196.2))) else (none)) else (none)) else (none))))))) else (none)) else (none)) else (if x8 ≥ (x0.size : Int) then (some ((⟨#[]⟩ : ByteArray), x8, false)) else (some (x7, wrap64 (x8 + 1), true)))
end
def copperplateref06_String.f (k : Nat) (a0 : ByteArray) (a1 : Int) : Option (ByteArray × Int × Bool) := if a1 < 0 then (copperplateref06_String.j0 k a0 a1 true) else (if a1 ≥ (a0.size : Int) then (copperplateref06_String.j0 k a0 a1 true) else (if 0 ≤ a1 then (if a1 < (a0.size : Int) then (copperplateref06_String.j0 k a0 a1 ((bt a0 a1) != 34)) else (none)) else (none)))
theorem copperplateref06_String.mono_l : ∀ k, (∀ y0 y1 y2, LeO (copperplateref06_String.j0 k y0 y1 y2) (copperplateref06_String.j0 (k + 1) y0 y1 y2)) ∧ (∀ y0 y1 y2, LeO (copperplateref06_String.l0 k y0 y1 y2) (copperplateref06_String.l0 (k + 1) y0 y1 y2)) ∧ (∀ y0 y1 y2 y3, LeO (copperplateref06_String.j2 k y0 y1 y2 y3) (copperplateref06_String.j2 (k + 1) y0 y1 y2 y3))
 | 0 => ⟨fun _ _ _ r h => by simp [copperplateref06_String.j0] at h, fun _ _ _ r h => by simp [copperplateref06_String.l0] at h, fun _ _ _ _ r h => by simp [copperplateref06_String.j2] at h⟩
 | k + 1 => by
  obtain ⟨ih0, ih1, ih2⟩ := copperplateref06_String.mono_l k
  refine ⟨?_, ?_, ?_⟩
  ·intro y0 y1 y2
   unfold copperplateref06_String.j0
   repeat' first
   | (with_reducible exact ih0 _ _ _)
   | (with_reducible exact ih1 _ _ _)
   | (with_reducible exact ih2 _ _ _ _)
   | (with_reducible exact copperplateref02_Next.mono _ _ _)
   | (with_reducible exact copperplateref06_Escape.mono _ _ _)
   | (with_reducible exact LeO.refl _)
   | (with_reducible exact LeO.none _)
   | (with_reducible refine LeO.ite ?_ ?_)
   | (with_reducible refine LeO.bind ?_ (fun _ => ?_))
   | exact ih0 _ _ _
   | exact ih1 _ _ _
   | exact ih2 _ _ _ _
   | exact copperplateref02_Next.mono _ _ _
   | exact copperplateref06_Escape.mono _ _ _
   | exact LeO.none _
   | refine LeO.ite ?_ ?_
   | refine LeO.bind ?_ (fun _ => ?_)
  ·intro y0 y1 y2
   unfold copperplateref06_String.l0
   repeat' first
   | (with_reducible exact ih0 _ _ _)
   | (with_reducible exact ih1 _ _ _)
   | (with_reducible exact ih2 _ _ _ _)
   | (with_reducible exact copperplateref02_Next.mono _ _ _)
   | (with_reducible exact copperplateref06_Escape.mono _ _ _)
   | (with_reducible exact LeO.refl _)
   | (with_reducible exact LeO.none _)
   | (with_reducible refine LeO.ite ?_ ?_)
   | (with_reducible refine LeO.bind ?_ (fun _ => ?_))
   | exact ih0 _ _ _
   | exact ih1 _ _ _
   | exact ih2 _ _ _ _
   | exact copperplateref02_Next.mono _ _ _
   | exact copperplateref06_Escape.mono _ _ _
   | exact LeO.none _
   | refine LeO.ite ?_ ?_
   | refine LeO.bind ?_ (fun _ => ?_)
  ·intro y0 y1 y2 y3
   unfold copperplateref06_String.j2
   repeat' first
   | (with_reducible exact ih0 _ _ _)
   | (with_reducible exact ih1 _ _ _)
   | (with_reducible exact ih2 _ _ _ _)
   | (with_reducible exact copperplateref02_Next.mono _ _ _)
   | (with_reducible exact copperplateref06_Escape.mono _ _ _)
   | (with_reducible exact LeO.refl _)
   | (with_reducible exact LeO.none _)
   | (with_reducible refine LeO.ite ?_ ?_)
   | (with_reducible refine LeO.bind ?_ (fun _ => ?_))
   | exact ih0 _ _ _
   | exact ih1 _ _ _
   | exact ih2 _ _ _ _
   | exact copperplateref02_Next.mono _ _ _
   | exact copperplateref06_Escape.mono _ _ _
   | exact LeO.none _
   | refine LeO.ite ?_ ?_
   | refine LeO.bind ?_ (fun _ => ?_)
theorem copperplateref06_String.mono : ∀ a0 a1 k, LeO (copperplateref06_String.f k a0 a1) (copperplateref06_String.f (k + 1) a0 a1) := by
 intro a0 a1 k
 obtain ⟨ih0, ih1, ih2⟩ := copperplateref06_String.mono_l k
 unfold copperplateref06_String.f
 repeat' first
   | (with_reducible exact ih0 _ _ _)
   | (with_reducible exact ih1 _ _ _)
   | (with_reducible exact ih2 _ _ _ _)
   | (with_reducible exact copperplateref02_Next.mono _ _ _)
   | (with_reducible exact copperplateref06_Escape.mono _ _ _)
   | (with_reducible exact LeO.refl _)
   | (with_reducible exact LeO.none _)
   | (with_reducible refine LeO.ite ?_ ?_)
   | (with_reducible refine LeO.bind ?_ (fun _ => ?_))
   | exact ih0 _ _ _
   | exact ih1 _ _ _
   | exact ih2 _ _ _ _
   | exact copperplateref02_Next.mono _ _ _
   | exact copperplateref06_Escape.mono _ _ _
   | exact LeO.none _
   | refine LeO.ite ?_ ?_
   | refine LeO.bind ?_ (fun _ => ?_)
set_option maxHeartbeats 8000000 in
set_option maxRecDepth 100000 in
theorem copperplateref06_String.calls (k : Nat) (a0 : ByteArray) (a1 : Int) (r1 : ByteArray) (r2 : Int) (r3 : Bool) (w : World) (h : copperplateref06_String.f k a0 a1 = some (r1, r2, r3)) :
  Calls Tryz.prog 62 #[.string a0, .int .i64 a1] w fun e w' => e = .returned (.tuple #[.string r1, .int .i64 r2, .bool r3]) ∧ Below w.heap.size w w' := by
 have HB := Aside0.mk (Below.refl w.heap.size w)
 have H : (if a1 < 0 then (copperplateref06_String.j0 k a0 a1 true) else (if a1 ≥ (a0.size : Int) then (copperplateref06_String.j0 k a0 a1 true) else (if 0 ≤ a1 then (if a1 < (a0.size : Int) then (copperplateref06_String.j0 k a0 a1 ((bt a0 a1) != 34)) else (none)) else (none)))) = some (r1, r2, r3) := h
 clear h
 have HC3 := Aside0.mk H
 clear H
 go_enter Tryz.func62, Tryz.ntmps62
 go_upto_region 1 with (fail)
 go_cut [27] (fun v27 wc => ∃ (kq : Nat) (x27_2 : Bool), v27 = .bool x27_2 ∧ Aside0 (copperplateref06_String.j0 kq a0 a1 x27_2 = some (r1, r2, r3)) ∧ Aside0 (kq ≤ k) ∧ Aside0 (Below w.heap.size w wc))
 case first =>
  have H := HC3.out
  clear HC3
  by_cases c4 : a1 < 0
  ·rw [if_pos c4] at H
   have c4b0 : decide (a1 < 0) = true := decide_eq_true c4
   clear c4
   (first | rw [c4b0] | (simp only [i64_w, i32_w]; rw [c4b0]) | skip)
   have H' := Aside0.mk H
   clear H
   go_wp2
   go_meet
   case rel => exact ⟨_, (true), (by first | rfl | (simp; done) | (simp [*]; done)), H', ⟨by first | omega | exact Nat.le_refl _⟩, ⟨hbz⟩⟩
  ·rw [if_neg c4] at H
   have c4b0 : decide (a1 < 0) = false := decide_eq_false c4
   clear c4
   (first | rw [c4b0] | (simp only [i64_w, i32_w]; rw [c4b0]) | skip)
   by_cases c5 : a1 ≥ (a0.size : Int)
   ·rw [if_pos c5] at H
    have c5b0 : decide ((a0.size : Int) ≤ a1) = true := decide_eq_true c5
    clear c5
    have H' := Aside0.mk H
    clear H
    go_wp2
    go_meet
    case rel => exact ⟨_, (true), (by first | rfl | (simp; done) | (simp [*]; done)), H', ⟨by first | omega | exact Nat.le_refl _⟩, ⟨hbz⟩⟩
   ·rw [if_neg c5] at H
    have c5b0 : decide ((a0.size : Int) ≤ a1) = false := decide_eq_false c5
    clear c5
    by_cases c6 : 0 ≤ a1
    ·rw [if_pos c6] at H
     have c6b0 : decide (0 ≤ a1) = true := decide_eq_true c6
     clear c6
     by_cases c7 : a1 < (a0.size : Int)
     ·rw [if_pos c7] at H
      have c7b0 : decide (a1 < (a0.size : Int)) = true := decide_eq_true c7
      clear c7
      have H' := Aside0.mk H
      clear H
      have p8 : 0 ≤ (a1 : Int) := of_decide_eq_true (by first | (with_reducible assumption) | assumption)
      have q8 : a1 < (a0.size : Int) := of_decide_eq_true (by first | (with_reducible assumption) | assumption)
      have hx8 := bt_at a0 a1
      replace p8 := eq_true p8
      replace q8 := eq_true q8
      go_wp2
      go_meet
      case rel => exact ⟨_, (((bt a0 a1) != 34)), (by first | rfl | (simp; done) | (simp [*]; done)), H', ⟨by first | omega | exact Nat.le_refl _⟩, ⟨hbz⟩⟩
     ·rw [if_neg c7] at H
      exact absurd H (by simp)
    ·rw [if_neg c6] at H
     exact absurd H (by simp)
 case rest =>
  clear HC3
  try clear p2
  try clear c4
  try clear c4b0
  try clear c5
  try clear c5b0
  try clear c6
  try clear c6b0
  try clear c7
  try clear c7b0
  try clear p8
  try clear q8
  try clear hx8
  try clear p8
  try clear q8
  obtain ⟨kq, x27_2, rfl, HA, HJ2, HB⟩ := hcut
  cases kq with
  | zero => exact absurd HA.out (by simp [copperplateref06_String.j0])
  | succ kj2 =>
   have H := HA.out
   clear HA
   simp only [copperplateref06_String.j0] at H
   by_cases c9 : x27_2 = true
   ·subst c9
    have H1 : (some ((⟨#[]⟩ : ByteArray), a1, false)) = some (r1, r2, r3) := by rw [if_pos rfl] at H; exact H
    clear H
    have H := H1
    clear H1
    simp only [Option.some.injEq, Prod.mk.injEq] at H
    obtain ⟨rfl, rfl, rfl⟩ := H
    go_wp2
    go_ret3
    exact ⟨by first | rfl | (simp [errW_none, errW_some] <;> rfl) | (simp [*, errW_none, errW_some] <;> rfl), hbz⟩
   ·replace c9 := Bool.eq_false_iff.mpr c9
    subst c9
    have H1 : (copperplateref06_String.l0 kj2 a0 (⟨#[]⟩ : ByteArray) (wrap64 (a1 + 1))) = some (r1, r2, r3) := by rw [if_neg (show ¬ (false = true) by decide)] at H; exact H
    clear H
    have H := H1
    clear H1
    have H' := Aside0.mk H
    clear H
    go_wp2
    go_loopg [7, 8] kj2 (fun kq v7 v8 w' => ∃ (x7_2 : ByteArray) (x8_2 : Int), v7 = .string x7_2 ∧ v8 = .int .i64 x8_2 ∧ Aside0 (copperplateref06_String.l0 kq a0 x7_2 x8_2 = some (r1, r2, r3)) ∧ Aside0 (kq ≤ kj2) ∧ Aside0 (Below w.heap.size w w'))
    case atStart => exact ⟨((⟨#[]⟩ : ByteArray)), (wrap64 (a1 + 1)), (by first | rfl | (simp; done) | (simp [*]; done)), (by first | rfl | (simp; done) | (simp [*]; done)), H', ⟨Nat.le_refl _⟩, ⟨hbz⟩⟩
    case round =>
     clear H'
     try clear p2
     try clear c4
     try clear c4b0
     try clear c5
     try clear c5b0
     try clear c6
     try clear c6b0
     try clear p6
     try clear c7
     try clear c7b0
     try clear p8
     try clear q8
     try clear hx8
     try clear c9
     try clear p2
     try clear p8
     try clear q8
     obtain ⟨x7_2, x8_2, rfl, rfl, HA, HK2, HB⟩ := hrel
     cases gk with
     | zero => exact absurd HA.out (by simp [copperplateref06_String.l0])
     | succ k2 =>
      have H := HA.out
      clear HA
      simp only [copperplateref06_String.l0] at H
      have HC10 := Aside0.mk H
      clear H
      go_upto_region 5 with (fail)
      go_cut [40] (fun v40 wc => ∃ (kq : Nat) (x40_9 : Bool), v40 = .bool x40_9 ∧ Aside0 (copperplateref06_String.j2 kq a0 x7_2 x8_2 x40_9 = some (r1, r2, r3)) ∧ Aside0 (kq ≤ k2) ∧ Aside0 (Below w.heap.size w wc))
      case first =>
       have H := HC10.out
       clear HC10
       by_cases c11 : x8_2 < (a0.size : Int)
       ·rw [if_pos c11] at H
        have c11b0 : decide (x8_2 < (a0.size : Int)) = true := decide_eq_true c11
        clear c11
        (first | rw [c11b0] | (simp only [i64_w, i32_w]; rw [c11b0]) | skip)
        by_cases c12 : 0 ≤ x8_2
        ·rw [if_pos c12] at H
         have c12b0 : decide (0 ≤ x8_2) = true := decide_eq_true c12
         clear c12
         have H' := Aside0.mk H
         clear H
         have p13 : 0 ≤ (x8_2 : Int) := of_decide_eq_true (by first | (with_reducible assumption) | assumption)
         have q13 : x8_2 < (a0.size : Int) := of_decide_eq_true (by first | (with_reducible assumption) | assumption)
         have hx13 := bt_at a0 x8_2
         replace p13 := eq_true p13
         replace q13 := eq_true q13
         go_wp2
         go_meet
         case rel => exact ⟨_, (((bt a0 x8_2) != 34)), (by first | rfl | (simp; done) | (simp [*]; done)), H', ⟨by have := HJ2.out; have := HK2.out; first | omega | exact Nat.le_refl _⟩, ⟨hbz⟩⟩
        ·rw [if_neg c12] at H
         exact absurd H (by simp)
       ·rw [if_neg c11] at H
        have c11b0 : decide (x8_2 < (a0.size : Int)) = false := decide_eq_false c11
        clear c11
        (first | rw [c11b0] | (simp only [i64_w, i32_w]; rw [c11b0]) | skip)
        have H' := Aside0.mk H
        clear H
        go_wp2
        go_meet
        case rel => exact ⟨_, (false), (by first | rfl | (simp; done) | (simp [*]; done)), H', ⟨by have := HJ2.out; have := HK2.out; first | omega | exact Nat.le_refl _⟩, ⟨hbz⟩⟩
      case rest =>
       clear HC10
       try clear c1
       try clear p1
       try clear q1
       try clear hx1
       try clear p2
       try clear c4
       try clear c4b0
       try clear c5
       try clear c5b0
       try clear c6
       try clear c6b0
       try clear p6
       try clear c7
       try clear c7b0
       try clear p8
       try clear q8
       try clear hx8
       try clear c9
       try clear c11
       try clear c11b0
       try clear c12
       try clear c12b0
       try clear p13
       try clear q13
       try clear hx13
       try clear p13
       try clear p2
       try clear p6
       try clear p8
       try clear q13
       try clear q8
       obtain ⟨kq, x40_9, rfl, HA, HJ9, HB⟩ := hcut
       cases kq with
       | zero => exact absurd HA.out (by simp [copperplateref06_String.j2])
       | succ kj9 =>
        have H := HA.out
        clear HA
        simp only [copperplateref06_String.j2] at H
        by_cases c14 : x40_9 = true
        ·subst c14
         have H1 : (if 0 ≤ x8_2 then (if x8_2 < (a0.size : Int) then (if (bt a0 x8_2) = 92 then ((copperplateref06_Escape.f kj9 a0 x8_2).bind fun bt193 => (if bt193.2.2 = true then (if x7_2.size + bt193.1.size ≤ 9223372036854775807 then (copperplateref06_String.l0 kj9 a0 (x7_2 ++ bt193.1) bt193.2.1) else (none)) else (some ((⟨#[]⟩ : ByteArray), bt193.2.1, false)))) else ((copperplateref02_Next.f kj9 a0 x8_2).bind fun bt196 => (if bt196.2 = 0 then (some ((⟨#[]⟩ : ByteArray), x8_2, false)) else (if bt196.1 = 10 then (some ((⟨#[]⟩ : ByteArray), x8_2, false)) else (if bt196.1 = 13 then (some ((⟨#[]⟩ : ByteArray), x8_2, false)) else (if x8_2 ≤ (wrap64 (x8_2 + bt196.2)) then (if (wrap64 (x8_2 + bt196.2)) ≤ (a0.size : Int) then (if x7_2.size + (a0.extract (x8_2 : Int).toNat ((wrap64 (x8_2 + bt196.2)) : Int).toNat).size ≤ 9223372036854775807 then (copperplateref06_String.l0 kj9 a0 (x7_2 ++ (a0.extract (x8_2 : Int).toNat ((wrap64 (x8_2 + bt196.2)) : Int).toNat)) (wrap64 (x8_2 + bt196.2))) else (none)) else (none)) else (none))))))) else (none)) else (none)) = some (r1, r2, r3) := by rw [if_pos rfl] at H; exact H
         clear H
         have H := H1
         clear H1
         by_cases c15 : 0 ≤ x8_2
         ·rw [if_pos c15] at H
          have c15b0 : decide (0 ≤ x8_2) = true := decide_eq_true c15
          clear c15
          by_cases c16 : x8_2 < (a0.size : Int)
          ·rw [if_pos c16] at H
           have c16b0 : decide (x8_2 < (a0.size : Int)) = true := decide_eq_true c16
           clear c16
           by_cases c18 : (bt a0 x8_2) = 92
           ·rw [if_pos c18] at H
            have c18b0 : ((bt a0 x8_2) == 92) = true := beq_iff_eq.mpr c18
            have c18b1 : ((bt a0 x8_2) != 92) = false := bne_eq_false_iff_eq.mpr c18
            clear c18
            replace H := Option.bind_eq_some_iff.mp H
            obtain ⟨⟨t193, t194, t195⟩, A190, H⟩ := H
            replace H : (if t195 = true then (if x7_2.size + t193.size ≤ 9223372036854775807 then (copperplateref06_String.l0 kj9 a0 (x7_2 ++ t193) t194) else (none)) else (some ((⟨#[]⟩ : ByteArray), t194, false))) = some (r1, r2, r3) := H
            have A19 := Aside0.mk A190
            clear A190
            by_cases c20 : t195 = true
            ·subst c20
             have H1 : (if x7_2.size + t193.size ≤ 9223372036854775807 then (copperplateref06_String.l0 kj9 a0 (x7_2 ++ t193) t194) else (none)) = some (r1, r2, r3) := by rw [if_pos rfl] at H; exact H
             clear H
             have H := H1
             clear H1
             by_cases c21 : x7_2.size + t193.size ≤ 9223372036854775807
             ·rw [if_pos c21] at H
              have c21b0 := eq_true c21
              have c21b1 : decide (x7_2.size + t193.size ≤ 9223372036854775807) = true := decide_eq_true c21
              try have c21b2 : (9223372036854775807 < x7_2.size + t193.size) = False := eq_false (Nat.not_lt.2 c21)
              have H' := Aside0.mk H
              clear H
              have p17 : 0 ≤ (x8_2 : Int) := of_decide_eq_true (by first | (with_reducible assumption) | assumption)
              have q17 : x8_2 < (a0.size : Int) := of_decide_eq_true (by first | (with_reducible assumption) | assumption)
              have hx17 := bt_at a0 x8_2
              replace p17 := eq_true p17
              replace q17 := eq_true q17
              go_wp2_with (first | ((with_reducible refine gate_callee (f := 84) rfl ?_); refine goesL_ (some 48) rfl rfl Tryz.func84 (by kernel_rfl) rfl #[.string a0, .int .i64 x8_2] rfl gz ?_; (with_reducible refine (copperplateref06_Escape.calls kj9 a0 x8_2 t193 t194 true _ A19.out).mono ?_); rintro e w22 ⟨rfl, hb⟩; refine ⟨_, rfl, ?_⟩; have n0_ := Aside0.mk (below_step hbz hb); clear HB; have HB := n0_; clear n0_; (try clear hb); (try clear hb2); (try clear hk); (try clear hi)))
              go_roundg kj9
              case measure => have := HJ2.out; have := HK2.out; have := HJ9.out; omega
              case rel => exact ⟨(x7_2 ++ t193), (t194), (by first | rfl | (simp; done) | (simp [*]; done)), (by first | rfl | (simp; done) | (simp [*]; done)), H', ⟨by have := HJ2.out; have := HK2.out; have := HJ9.out; omega⟩, ⟨hbz⟩⟩
             ·rw [if_neg c21] at H
              exact absurd H (by simp)
            ·replace c20 := Bool.eq_false_iff.mpr c20
             subst c20
             have H1 : (some ((⟨#[]⟩ : ByteArray), t194, false)) = some (r1, r2, r3) := by rw [if_neg (show ¬ (false = true) by decide)] at H; exact H
             clear H
             have H := H1
             clear H1
             simp only [Option.some.injEq, Prod.mk.injEq] at H
             obtain ⟨rfl, rfl, rfl⟩ := H
             have p17 : 0 ≤ (x8_2 : Int) := of_decide_eq_true (by first | (with_reducible assumption) | assumption)
             have q17 : x8_2 < (a0.size : Int) := of_decide_eq_true (by first | (with_reducible assumption) | assumption)
             have hx17 := bt_at a0 x8_2
             replace p17 := eq_true p17
             replace q17 := eq_true q17
             go_wp2_with (first | ((with_reducible refine gate_callee (f := 84) rfl ?_); refine goesL_ (some 48) rfl rfl Tryz.func84 (by kernel_rfl) rfl #[.string a0, .int .i64 x8_2] rfl gz ?_; (with_reducible refine (copperplateref06_Escape.calls kj9 a0 x8_2 t193 t194 false _ A19.out).mono ?_); rintro e w23 ⟨rfl, hb⟩; refine ⟨_, rfl, ?_⟩; have n0_ := Aside0.mk (below_step hbz hb); clear HB; have HB := n0_; clear n0_; (try clear hb); (try clear hb2); (try clear hk); (try clear hi)))
             go_ret3
             exact ⟨by first | rfl | (simp [errW_none, errW_some] <;> rfl) | (simp [*, errW_none, errW_some] <;> rfl), hbz⟩
           ·rw [if_neg c18] at H
            have c18b0 : ((bt a0 x8_2) == 92) = false := beq_eq_false_iff_ne.mpr c18
            have c18b1 : ((bt a0 x8_2) != 92) = true := bne_iff_ne.mpr c18
            replace H := Option.bind_eq_some_iff.mp H
            obtain ⟨⟨t196, t197⟩, A240, H⟩ := H
            replace H : (if t197 = 0 then (some ((⟨#[]⟩ : ByteArray), x8_2, false)) else (if t196 = 10 then (some ((⟨#[]⟩ : ByteArray), x8_2, false)) else (if t196 = 13 then (some ((⟨#[]⟩ : ByteArray), x8_2, false)) else (if x8_2 ≤ (wrap64 (x8_2 + t197)) then (if (wrap64 (x8_2 + t197)) ≤ (a0.size : Int) then (if x7_2.size + (a0.extract (x8_2 : Int).toNat ((wrap64 (x8_2 + t197)) : Int).toNat).size ≤ 9223372036854775807 then (copperplateref06_String.l0 kj9 a0 (x7_2 ++ (a0.extract (x8_2 : Int).toNat ((wrap64 (x8_2 + t197)) : Int).toNat)) (wrap64 (x8_2 + t197))) else (none)) else (none)) else (none))))) = some (r1, r2, r3) := H
            have A24 := Aside0.mk A240
            clear A240
            by_cases c25 : t197 = 0
            ·rw [if_pos c25] at H
             have c25b0 : (t197 == 0) = true := beq_iff_eq.mpr c25
             have c25b1 : (t197 != 0) = false := bne_eq_false_iff_eq.mpr c25
             clear c25
             simp only [Option.some.injEq, Prod.mk.injEq] at H
             obtain ⟨rfl, rfl, rfl⟩ := H
             have p17 : 0 ≤ (x8_2 : Int) := of_decide_eq_true (by first | (with_reducible assumption) | assumption)
             have q17 : x8_2 < (a0.size : Int) := of_decide_eq_true (by first | (with_reducible assumption) | assumption)
             have hx17 := bt_at a0 x8_2
             replace p17 := eq_true p17
             replace q17 := eq_true q17
             go_wp2_with (first | ((with_reducible refine gate_callee (f := 66) rfl ?_); refine goesL_ (some 62) rfl rfl Tryz.func66 (by kernel_rfl) rfl #[.string a0, .int .i64 x8_2] rfl gz ?_; (with_reducible refine (copperplateref02_Next.calls kj9 a0 x8_2 t196 t197 _ A24.out).mono ?_); rintro e w26 ⟨rfl, hb⟩; refine ⟨_, rfl, ?_⟩; have n0_ := Aside0.mk (below_step hbz hb); clear HB; have HB := n0_; clear n0_; (try clear hb); (try clear hb2); (try clear hk); (try clear hi)))
             go_ret3
             exact ⟨by first | rfl | (simp [errW_none, errW_some] <;> rfl) | (simp [*, errW_none, errW_some] <;> rfl), hbz⟩
            ·rw [if_neg c25] at H
             have c25b0 : (t197 == 0) = false := beq_eq_false_iff_ne.mpr c25
             have c25b1 : (t197 != 0) = true := bne_iff_ne.mpr c25
             by_cases c27 : t196 = 10
             ·rw [if_pos c27] at H
              have c27b0 : (t196 == 10) = true := beq_iff_eq.mpr c27
              have c27b1 : (t196 != 10) = false := bne_eq_false_iff_eq.mpr c27
              clear c27
              simp only [Option.some.injEq, Prod.mk.injEq] at H
              obtain ⟨rfl, rfl, rfl⟩ := H
              have p17 : 0 ≤ (x8_2 : Int) := of_decide_eq_true (by first | (with_reducible assumption) | assumption)
              have q17 : x8_2 < (a0.size : Int) := of_decide_eq_true (by first | (with_reducible assumption) | assumption)
              have hx17 := bt_at a0 x8_2
              replace p17 := eq_true p17
              replace q17 := eq_true q17
              go_wp2_with (first | ((with_reducible refine gate_callee (f := 66) rfl ?_); refine goesL_ (some 62) rfl rfl Tryz.func66 (by kernel_rfl) rfl #[.string a0, .int .i64 x8_2] rfl gz ?_; (with_reducible refine (copperplateref02_Next.calls kj9 a0 x8_2 t196 t197 _ A24.out).mono ?_); rintro e w28 ⟨rfl, hb⟩; refine ⟨_, rfl, ?_⟩; have n0_ := Aside0.mk (below_step hbz hb); clear HB; have HB := n0_; clear n0_; (try clear hb); (try clear hb2); (try clear hk); (try clear hi)))
              go_ret3
              exact ⟨by first | rfl | (simp [errW_none, errW_some] <;> rfl) | (simp [*, errW_none, errW_some] <;> rfl), hbz⟩
             ·rw [if_neg c27] at H
              have c27b0 : (t196 == 10) = false := beq_eq_false_iff_ne.mpr c27
              have c27b1 : (t196 != 10) = true := bne_iff_ne.mpr c27
              by_cases c29 : t196 = 13
              ·rw [if_pos c29] at H
               have c29b0 : (t196 == 13) = true := beq_iff_eq.mpr c29
               have c29b1 : (t196 != 13) = false := bne_eq_false_iff_eq.mpr c29
               clear c29
               simp only [Option.some.injEq, Prod.mk.injEq] at H
               obtain ⟨rfl, rfl, rfl⟩ := H
               have p17 : 0 ≤ (x8_2 : Int) := of_decide_eq_true (by first | (with_reducible assumption) | assumption)
               have q17 : x8_2 < (a0.size : Int) := of_decide_eq_true (by first | (with_reducible assumption) | assumption)
               have hx17 := bt_at a0 x8_2
               replace p17 := eq_true p17
               replace q17 := eq_true q17
               go_wp2_with (first | ((with_reducible refine gate_callee (f := 66) rfl ?_); refine goesL_ (some 62) rfl rfl Tryz.func66 (by kernel_rfl) rfl #[.string a0, .int .i64 x8_2] rfl gz ?_; (with_reducible refine (copperplateref02_Next.calls kj9 a0 x8_2 t196 t197 _ A24.out).mono ?_); rintro e w30 ⟨rfl, hb⟩; refine ⟨_, rfl, ?_⟩; have n0_ := Aside0.mk (below_step hbz hb); clear HB; have HB := n0_; clear n0_; (try clear hb); (try clear hb2); (try clear hk); (try clear hi)))
               go_ret3
               exact ⟨by first | rfl | (simp [errW_none, errW_some] <;> rfl) | (simp [*, errW_none, errW_some] <;> rfl), hbz⟩
              ·rw [if_neg c29] at H
               have c29b0 : (t196 == 13) = false := beq_eq_false_iff_ne.mpr c29
               have c29b1 : (t196 != 13) = true := bne_iff_ne.mpr c29
               have c31b0 := eq_true (of_decide_eq_true (by first | (with_reducible assumption) | assumption) : 0 ≤ x8_2)
               by_cases c32 : x8_2 ≤ (wrap64 (x8_2 + t197))
               ·rw [if_pos c32] at H
                have c32b0 := eq_true c32
                have c32b1 : decide (x8_2 ≤ (wrap64 (x8_2 + t197))) = true := decide_eq_true c32
                by_cases c33 : (wrap64 (x8_2 + t197)) ≤ (a0.size : Int)
                ·rw [if_pos c33] at H
                 have c33b0 := eq_true c33
                 have c33b1 : decide ((wrap64 (x8_2 + t197)) ≤ (a0.size : Int)) = true := decide_eq_true c33
                 by_cases c34 : x7_2.size + (a0.extract (x8_2 : Int).toNat ((wrap64 (x8_2 + t197)) : Int).toNat).size ≤ 9223372036854775807
                 ·rw [if_pos c34] at H
                  have c34b0 := eq_true c34
                  have c34b1 : decide (x7_2.size + (a0.extract (x8_2 : Int).toNat ((wrap64 (x8_2 + t197)) : Int).toNat).size ≤ 9223372036854775807) = true := decide_eq_true c34
                  try have c34b2 : (9223372036854775807 < x7_2.size + (a0.extract (x8_2 : Int).toNat ((wrap64 (x8_2 + t197)) : Int).toNat).size) = False := eq_false (Nat.not_lt.2 c34)
                  have H' := Aside0.mk H
                  clear H
                  have p17 : 0 ≤ (x8_2 : Int) := of_decide_eq_true (by first | (with_reducible assumption) | assumption)
                  have q17 : x8_2 < (a0.size : Int) := of_decide_eq_true (by first | (with_reducible assumption) | assumption)
                  have hx17 := bt_at a0 x8_2
                  replace p17 := eq_true p17
                  replace q17 := eq_true q17
                  go_wp2_with (first | ((with_reducible refine gate_callee (f := 66) rfl ?_); refine goesL_ (some 62) rfl rfl Tryz.func66 (by kernel_rfl) rfl #[.string a0, .int .i64 x8_2] rfl gz ?_; (with_reducible refine (copperplateref02_Next.calls kj9 a0 x8_2 t196 t197 _ A24.out).mono ?_); rintro e w35 ⟨rfl, hb⟩; refine ⟨_, rfl, ?_⟩; have n0_ := Aside0.mk (below_step hbz hb); clear HB; have HB := n0_; clear n0_; (try clear hb); (try clear hb2); (try clear hk); (try clear hi)))
                  go_roundg kj9
                  case measure => have := HJ2.out; have := HK2.out; have := HJ9.out; omega
                  case rel => exact ⟨(x7_2 ++ (a0.extract (x8_2 : Int).toNat ((wrap64 (x8_2 + t197)) : Int).toNat)), (wrap64 (x8_2 + t197)), (by first | rfl | (simp; done) | (simp [*]; done)), (by first | rfl | (simp; done) | (simp [*]; done)), H', ⟨by have := HJ2.out; have := HK2.out; have := HJ9.out; omega⟩, ⟨hbz⟩⟩
                 ·rw [if_neg c34] at H
                  exact absurd H (by simp)
                ·rw [if_neg c33] at H
                 exact absurd H (by simp)
               ·rw [if_neg c32] at H
                exact absurd H (by simp)
          ·rw [if_neg c16] at H
           exact absurd H (by simp)
         ·rw [if_neg c15] at H
          exact absurd H (by simp)
        ·replace c14 := Bool.eq_false_iff.mpr c14
         subst c14
         have H1 : (if x8_2 ≥ (a0.size : Int) then (some ((⟨#[]⟩ : ByteArray), x8_2, false)) else (some (x7_2, wrap64 (x8_2 + 1), true))) = some (r1, r2, r3) := by rw [if_neg (show ¬ (false = true) by decide)] at H; exact H
         clear H
         have H := H1
         clear H1
         by_cases c36 : x8_2 ≥ (a0.size : Int)
         ·rw [if_pos c36] at H
          have c36b0 : decide ((a0.size : Int) ≤ x8_2) = true := decide_eq_true c36
          clear c36
          simp only [Option.some.injEq, Prod.mk.injEq] at H
          obtain ⟨rfl, rfl, rfl⟩ := H
          go_wp2
          go_ret3
          exact ⟨by first | rfl | (simp [errW_none, errW_some] <;> rfl) | (simp [*, errW_none, errW_some] <;> rfl), hbz⟩
         ·rw [if_neg c36] at H
          have c36b0 : decide ((a0.size : Int) ≤ x8_2) = false := decide_eq_false c36
          clear c36
          simp only [Option.some.injEq, Prod.mk.injEq] at H
          obtain ⟨rfl, rfl, rfl⟩ := H
          go_wp2
          go_ret3
          exact ⟨by first | rfl | (simp [errW_none, errW_some] <;> rfl) | (simp [*, errW_none, errW_some] <;> rfl), hbz⟩
def copperplateref09_some.j0 : Nat → ByteArray → Int → Bool → Option (ByteArray × Int × Bool)
 | 0, _, _, _ => none
 | k + 1, x0, x1, x25 => if x25 = true then ((copperplateref07_Raw.f k x0 x1).bind fun bt198 => (if bt198.2.2 = true then ((copperplateref07_Fold.f k bt198.1).bind fun t201 => (some (t201, bt198.2.1, true))) else (some ((⟨#[]⟩ : ByteArray), bt198.2.1, false)))) else ((copperplateref06_String.f k x0 x1).bind fun bt202 => (some (bt202.1, bt202.2.1, bt202.2.2)))
def copperplateref09_some.f (k : Nat) (a0 : ByteArray) (a1 : Int) : Option (ByteArray × Int × Bool) := if (wrap64 ((a0.size : Int) - a1)) ≥ 3 then (if 0 ≤ a1 then (if a1 ≤ (wrap64 (a1 + 3)) then (if (wrap64 (a1 + 3)) ≤ (a0.size : Int) then (copperplateref09_some.j0 k a0 a1 ((a0.extract (a1 : Int).toNat ((wrap64 (a1 + 3)) : Int).toNat).toList == ([34, 34, 34] : List UInt8))) else (none)) else (none)) else (none)) else (copperplateref09_some.j0 k a0 a1 false)
theorem copperplateref09_some.mono_l : ∀ k, (∀ y0 y1 y2, LeO (copperplateref09_some.j0 k y0 y1 y2) (copperplateref09_some.j0 (k + 1) y0 y1 y2))
 | 0 => fun _ _ _ r h => by simp [copperplateref09_some.j0] at h
 | k + 1 => by
  have ih0 := copperplateref09_some.mono_l k
  ·intro y0 y1 y2
   unfold copperplateref09_some.j0
   repeat' first
   | (with_reducible exact ih0 _ _ _)
   | (with_reducible exact copperplateref06_String.mono _ _ _)
   | (with_reducible exact copperplateref07_Fold.mono _ _)
   | (with_reducible exact copperplateref07_Raw.mono _ _ _)
   | (with_reducible exact LeO.refl _)
   | (with_reducible exact LeO.none _)
   | (with_reducible refine LeO.ite ?_ ?_)
   | (with_reducible refine LeO.bind ?_ (fun _ => ?_))
   | exact ih0 _ _ _
   | exact copperplateref06_String.mono _ _ _
   | exact copperplateref07_Fold.mono _ _
   | exact copperplateref07_Raw.mono _ _ _
   | exact LeO.none _
   | refine LeO.ite ?_ ?_
   | refine LeO.bind ?_ (fun _ => ?_)
theorem copperplateref09_some.mono : ∀ a0 a1 k, LeO (copperplateref09_some.f k a0 a1) (copperplateref09_some.f (k + 1) a0 a1) := by
 intro a0 a1 k
 have ih0 := copperplateref09_some.mono_l k
 unfold copperplateref09_some.f
 repeat' first
   | (with_reducible exact ih0 _ _ _)
   | (with_reducible exact copperplateref06_String.mono _ _ _)
   | (with_reducible exact copperplateref07_Fold.mono _ _)
   | (with_reducible exact copperplateref07_Raw.mono _ _ _)
   | (with_reducible exact LeO.refl _)
   | (with_reducible exact LeO.none _)
   | (with_reducible refine LeO.ite ?_ ?_)
   | (with_reducible refine LeO.bind ?_ (fun _ => ?_))
   | exact ih0 _ _ _
   | exact copperplateref06_String.mono _ _ _
   | exact copperplateref07_Fold.mono _ _
   | exact copperplateref07_Raw.mono _ _ _
   | exact LeO.none _
   | refine LeO.ite ?_ ?_
   | refine LeO.bind ?_ (fun _ => ?_)
set_option maxHeartbeats 8000000 in
set_option maxRecDepth 100000 in
theorem copperplateref09_some.calls (k : Nat) (a0 : ByteArray) (a1 : Int) (r1 : ByteArray) (r2 : Int) (r3 : Bool) (w : World) (h : copperplateref09_some.f k a0 a1 = some (r1, r2, r3)) :
  Calls Tryz.prog 27 #[.string a0, .int .i64 a1] w fun e w' => e = .returned (.tuple #[.string r1, .int .i64 r2, .bool r3]) ∧ Below w.heap.size w w' := by
 have HB := Aside0.mk (Below.refl w.heap.size w)
 have H : (if (wrap64 ((a0.size : Int) - a1)) ≥ 3 then (if 0 ≤ a1 then (if a1 ≤ (wrap64 (a1 + 3)) then (if (wrap64 (a1 + 3)) ≤ (a0.size : Int) then (copperplateref09_some.j0 k a0 a1 ((a0.extract (a1 : Int).toNat ((wrap64 (a1 + 3)) : Int).toNat).toList == ([34, 34, 34] : List UInt8))) else (none)) else (none)) else (none)) else (copperplateref09_some.j0 k a0 a1 false)) = some (r1, r2, r3) := h
 clear h
 have HC3 := Aside0.mk H
 clear H
 go_enter Tryz.func27, Tryz.ntmps27
 go_upto_region 1 with (fail)
 go_cut [25] (fun v25 wc => ∃ (kq : Nat) (x25_2 : Bool), v25 = .bool x25_2 ∧ Aside0 (copperplateref09_some.j0 kq a0 a1 x25_2 = some (r1, r2, r3)) ∧ Aside0 (kq ≤ k) ∧ Aside0 (Below w.heap.size w wc))
 case first =>
  have H := HC3.out
  clear HC3
  by_cases c4 : (wrap64 ((a0.size : Int) - a1)) ≥ 3
  ·rw [if_pos c4] at H
   have c4b0 : decide (3 ≤ (wrap64 ((a0.size : Int) - a1))) = true := decide_eq_true c4
   clear c4
   (first | rw [c4b0] | (simp only [i64_w, i32_w]; rw [c4b0]) | skip)
   by_cases c5 : 0 ≤ a1
   ·rw [if_pos c5] at H
    have c5b0 := eq_true c5
    have c5b1 : decide (0 ≤ a1) = true := decide_eq_true c5
    clear c5
    by_cases c6 : a1 ≤ (wrap64 (a1 + 3))
    ·rw [if_pos c6] at H
     have c6b0 := eq_true c6
     have c6b1 : decide (a1 ≤ (wrap64 (a1 + 3))) = true := decide_eq_true c6
     by_cases c7 : (wrap64 (a1 + 3)) ≤ (a0.size : Int)
     ·rw [if_pos c7] at H
      have c7b0 := eq_true c7
      have c7b1 : decide ((wrap64 (a1 + 3)) ≤ (a0.size : Int)) = true := decide_eq_true c7
      have H' := Aside0.mk H
      clear H
      go_wp2
      go_meet
      case rel => exact ⟨_, (((a0.extract (a1 : Int).toNat ((wrap64 (a1 + 3)) : Int).toNat).toList == ([34, 34, 34] : List UInt8))), (by first | rfl | (simp; done) | (simp [*]; done)), H', ⟨by first | omega | exact Nat.le_refl _⟩, ⟨hbz⟩⟩
     ·rw [if_neg c7] at H
      exact absurd H (by simp)
    ·rw [if_neg c6] at H
     exact absurd H (by simp)
   ·rw [if_neg c5] at H
    exact absurd H (by simp)
  ·rw [if_neg c4] at H
   have c4b0 : decide (3 ≤ (wrap64 ((a0.size : Int) - a1))) = false := decide_eq_false c4
   clear c4
   (first | rw [c4b0] | (simp only [i64_w, i32_w]; rw [c4b0]) | skip)
   have H' := Aside0.mk H
   clear H
   go_wp2
   go_meet
   case rel => exact ⟨_, (false), (by first | rfl | (simp; done) | (simp [*]; done)), H', ⟨by first | omega | exact Nat.le_refl _⟩, ⟨hbz⟩⟩
 case rest =>
  clear HC3
  try clear c2
  try clear p2
  try clear c4
  try clear c4b0
  try clear c5
  try clear c5b0
  try clear c5b1
  try clear c6
  try clear c6b0
  try clear c6b1
  try clear p6
  try clear c7
  try clear c7b0
  try clear c7b1
  obtain ⟨kq, x25_2, rfl, HA, HJ2, HB⟩ := hcut
  cases kq with
  | zero => exact absurd HA.out (by simp [copperplateref09_some.j0])
  | succ kj2 =>
   have H := HA.out
   clear HA
   simp only [copperplateref09_some.j0] at H
   by_cases c8 : x25_2 = true
   ·subst c8
    have H1 : ((copperplateref07_Raw.f kj2 a0 a1).bind fun bt198 => (if bt198.2.2 = true then ((copperplateref07_Fold.f kj2 bt198.1).bind fun t201 => (some (t201, bt198.2.1, true))) else (some ((⟨#[]⟩ : ByteArray), bt198.2.1, false)))) = some (r1, r2, r3) := by rw [if_pos rfl] at H; exact H
    clear H
    have H := H1
    clear H1
    replace H := Option.bind_eq_some_iff.mp H
    obtain ⟨⟨t198, t199, t200⟩, A90, H⟩ := H
    replace H : (if t200 = true then ((copperplateref07_Fold.f kj2 t198).bind fun t201 => (some (t201, t199, true))) else (some ((⟨#[]⟩ : ByteArray), t199, false))) = some (r1, r2, r3) := H
    have A9 := Aside0.mk A90
    clear A90
    by_cases c10 : t200 = true
    ·subst c10
     have H1 : ((copperplateref07_Fold.f kj2 t198).bind fun t201 => (some (t201, t199, true))) = some (r1, r2, r3) := by rw [if_pos rfl] at H; exact H
     clear H
     have H := H1
     clear H1
     replace H := Option.bind_eq_some_iff.mp H
     obtain ⟨t201, A110, H⟩ := H
     replace H : (some (t201, t199, true)) = some (r1, r2, r3) := H
     have A11 := Aside0.mk A110
     clear A110
     simp only [Option.some.injEq, Prod.mk.injEq] at H
     obtain ⟨rfl, rfl, rfl⟩ := H
     go_wp2_with (first | ((with_reducible refine gate_callee (f := 60) rfl ?_); refine goesL_ (some 29) rfl rfl Tryz.func60 (by kernel_rfl) rfl #[.string a0, .int .i64 a1] rfl gz ?_; (with_reducible refine (copperplateref07_Raw.calls kj2 a0 a1 t198 t199 true _ A9.out).mono ?_); rintro e w12 ⟨rfl, hb⟩; refine ⟨_, rfl, ?_⟩; have n0_ := Aside0.mk (below_step hbz hb); clear HB; have HB := n0_; clear n0_; (try clear hb); (try clear hb2); (try clear hk); (try clear hi)) | ((with_reducible refine gate_callee (f := 61) rfl ?_); refine goesL_ (some 37) rfl rfl Tryz.func61 (by kernel_rfl) rfl #[.string t198] rfl gz ?_; (with_reducible refine (copperplateref07_Fold.calls kj2 t198 t201 _ A11.out).mono ?_); rintro e w13 ⟨rfl, hb⟩; refine ⟨_, rfl, ?_⟩; have n0_ := Aside0.mk (below_step hbz hb); clear HB; have HB := n0_; clear n0_; (try clear hb); (try clear hb2); (try clear hk); (try clear hi)))
     go_ret3
     exact ⟨by first | rfl | (simp [errW_none, errW_some] <;> rfl) | (simp [*, errW_none, errW_some] <;> rfl), hbz⟩
    ·replace c10 := Bool.eq_false_iff.mpr c10
     subst c10
     have H1 : (some ((⟨#[]⟩ : ByteArray), t199, false)) = some (r1, r2, r3) := by rw [if_neg (show ¬ (false = true) by decide)] at H; exact H
     clear H
     have H := H1
     clear H1
     simp only [Option.some.injEq, Prod.mk.injEq] at H
     obtain ⟨rfl, rfl, rfl⟩ := H
     go_wp2_with (first | ((with_reducible refine gate_callee (f := 60) rfl ?_); refine goesL_ (some 29) rfl rfl Tryz.func60 (by kernel_rfl) rfl #[.string a0, .int .i64 a1] rfl gz ?_; (with_reducible refine (copperplateref07_Raw.calls kj2 a0 a1 t198 t199 false _ A9.out).mono ?_); rintro e w14 ⟨rfl, hb⟩; refine ⟨_, rfl, ?_⟩; have n0_ := Aside0.mk (below_step hbz hb); clear HB; have HB := n0_; clear n0_; (try clear hb); (try clear hb2); (try clear hk); (try clear hi)))
     go_ret3
     exact ⟨by first | rfl | (simp [errW_none, errW_some] <;> rfl) | (simp [*, errW_none, errW_some] <;> rfl), hbz⟩
   ·replace c8 := Bool.eq_false_iff.mpr c8
    subst c8
    have H1 : ((copperplateref06_String.f kj2 a0 a1).bind fun bt202 => (some (bt202.1, bt202.2.1, bt202.2.2))) = some (r1, r2, r3) := by rw [if_neg (show ¬ (false = true) by decide)] at H; exact H
    clear H
    have H := H1
    clear H1
    replace H := Option.bind_eq_some_iff.mp H
    obtain ⟨⟨t202, t203, t204⟩, A150, H⟩ := H
    replace H : (some (t202, t203, t204)) = some (r1, r2, r3) := H
    have A15 := Aside0.mk A150
    clear A150
    simp only [Option.some.injEq, Prod.mk.injEq] at H
    obtain ⟨rfl, rfl, rfl⟩ := H
    go_wp2_with (first | ((with_reducible refine gate_callee (f := 62) rfl ?_); refine goesL_ (some 42) rfl rfl Tryz.func62 (by kernel_rfl) rfl #[.string a0, .int .i64 a1] rfl gz ?_; (with_reducible refine (copperplateref06_String.calls kj2 a0 a1 t202 t203 t204 _ A15.out).mono ?_); rintro e w16 ⟨rfl, hb⟩; refine ⟨_, rfl, ?_⟩; have n0_ := Aside0.mk (below_step hbz hb); clear HB; have HB := n0_; clear n0_; (try clear hb); (try clear hb2); (try clear hk); (try clear hi)))
    go_ret3
    exact ⟨by first | rfl | (simp [errW_none, errW_some] <;> rfl) | (simp [*, errW_none, errW_some] <;> rfl), hbz⟩
end Go.Proofs.YtjgpmfjkcioinaaGreatDoor.Q
