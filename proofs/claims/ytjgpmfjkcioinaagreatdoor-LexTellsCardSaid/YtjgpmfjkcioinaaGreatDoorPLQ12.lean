/-
  Texts of this seat, put together by bundle.py.
-/
import Derived.Test.YtjgpmfjkcioinaaGreatDoorPLGG9
import Derived.Test.YtjgpmfjkcioinaaGreatDoorPLQ5
namespace Go.Proofs.YtjgpmfjkcioinaaGreatDoor.Q
open Go.Proofs.YtjgpmfjkcioinaaGreatDoor.G
open Go.RowKit Go.Proofs.YtjgpmfjkcioinaaGreatDoorW.PrintWords Go.Proofs.YtjgpmfjkcioinaaGreatDoorW.PrintLast Go.Proofs.YtjgpmfjkcioinaaGreatDoorW.PrintMore
attribute [local go_sem] max2_int min2_int max_two min_two max_three min_three max_four min_four
set_option linter.unusedVariables false
set_option linter.unusedSimpArgs false
def copperplateref02_Bad.l0 : Nat → ByteArray → Int → Option (Int)
 | 0, _, _ => none
 | k + 1, x0, x3 => if x3 < (x0.size : Int) then ((copperplateref02_Next.f k x0 x3).bind fun bt230 => (if bt230.2 = 0 then (some x3) else (copperplateref02_Bad.l0 k x0 (wrap64 (x3 + bt230.2))))) else (some (-1))
def copperplateref02_Bad.f (k : Nat) (a0 : ByteArray) : Option (Int) := copperplateref02_Bad.l0 k a0 0
theorem copperplateref02_Bad.mono_l : ∀ k, (∀ y0 y1, LeO (copperplateref02_Bad.l0 k y0 y1) (copperplateref02_Bad.l0 (k + 1) y0 y1))
 | 0 => fun _ _ r h => by simp [copperplateref02_Bad.l0] at h
 | k + 1 => by
  have ih0 := copperplateref02_Bad.mono_l k
  ·intro y0 y1
   unfold copperplateref02_Bad.l0
   repeat' first
   | (with_reducible exact ih0 _ _)
   | (with_reducible exact copperplateref02_Next.mono _ _ _)
   | (with_reducible exact LeO.refl _)
   | (with_reducible exact LeO.none _)
   | (with_reducible refine LeO.ite ?_ ?_)
   | (with_reducible refine LeO.bind ?_ (fun _ => ?_))
   | exact ih0 _ _
   | exact copperplateref02_Next.mono _ _ _
   | exact LeO.none _
   | refine LeO.ite ?_ ?_
   | refine LeO.bind ?_ (fun _ => ?_)
theorem copperplateref02_Bad.mono : ∀ a0 k, LeO (copperplateref02_Bad.f k a0) (copperplateref02_Bad.f (k + 1) a0) := by
 intro a0 k
 have ih0 := copperplateref02_Bad.mono_l k
 unfold copperplateref02_Bad.f
 repeat' first
   | (with_reducible exact ih0 _ _)
   | (with_reducible exact copperplateref02_Next.mono _ _ _)
   | (with_reducible exact LeO.refl _)
   | (with_reducible exact LeO.none _)
   | (with_reducible refine LeO.ite ?_ ?_)
   | (with_reducible refine LeO.bind ?_ (fun _ => ?_))
   | exact ih0 _ _
   | exact copperplateref02_Next.mono _ _ _
   | exact LeO.none _
   | refine LeO.ite ?_ ?_
   | refine LeO.bind ?_ (fun _ => ?_)
set_option maxHeartbeats 8000000 in
set_option maxRecDepth 100000 in
theorem copperplateref02_Bad.calls (k : Nat) (a0 : ByteArray) (r : Int) (w : World) (h : copperplateref02_Bad.f k a0 = some r) :
  Calls Tryz.prog 31 #[.string a0] w fun e w' => e = .returned (.int .i64 r) ∧ Below w.heap.size w w' := by
 have HB := Aside0.mk (Below.refl w.heap.size w)
 have H : (copperplateref02_Bad.l0 k a0 0) = some r := h
 clear h
 have H' := Aside0.mk H
 clear H
 go_enter Tryz.func31, Tryz.ntmps31
 go_wp2
 go_loopg [3] k (fun kq v3 w' => ∃ (x3_1 : Int), v3 = .int .i64 x3_1 ∧ Aside0 (copperplateref02_Bad.l0 kq a0 x3_1 = some r) ∧ Aside0 (kq ≤ k) ∧ Aside0 (Below w.heap.size w w'))
 case atStart => exact ⟨(0), (by first | rfl | (simp; done) | (simp [*]; done)), H', ⟨Nat.le_refl _⟩, ⟨hbz⟩⟩
 case round =>
  clear H'
  obtain ⟨x3_1, rfl, HA, HK1, HB⟩ := hrel
  cases gk with
  | zero => exact absurd HA.out (by simp [copperplateref02_Bad.l0])
  | succ k1 =>
   have H := HA.out
   clear HA
   simp only [copperplateref02_Bad.l0] at H
   by_cases c2 : x3_1 < (a0.size : Int)
   ·rw [if_pos c2] at H
    have c2b0 : decide (x3_1 < (a0.size : Int)) = true := decide_eq_true c2
    clear c2
    replace H := Option.bind_eq_some_iff.mp H
    obtain ⟨⟨t230, t231⟩, A30, H⟩ := H
    replace H : (if t231 = 0 then (some x3_1) else (copperplateref02_Bad.l0 k1 a0 (wrap64 (x3_1 + t231)))) = some r := H
    have A3 := Aside0.mk A30
    clear A30
    by_cases c4 : t231 = 0
    ·rw [if_pos c4] at H
     have c4b0 : (t231 == 0) = true := beq_iff_eq.mpr c4
     have c4b1 : (t231 != 0) = false := bne_eq_false_iff_eq.mpr c4
     clear c4
     obtain rfl := Option.some.inj H
     go_wp2_with (first | ((with_reducible refine gate_callee (f := 66) rfl ?_); refine goesL_ (some 13) rfl rfl Tryz.func66 (by kernel_rfl) rfl #[.string a0, .int .i64 x3_1] rfl gz ?_; (with_reducible refine (copperplateref02_Next.calls k1 a0 x3_1 t230 t231 _ A3.out).mono ?_); rintro e w5 ⟨rfl, hb⟩; refine ⟨_, rfl, ?_⟩; have n0_ := Aside0.mk (below_step hbz hb); clear HB; have HB := n0_; clear n0_; (try clear hb); (try clear hb2); (try clear hk); (try clear hi)))
     go_ret
     exact ⟨by first | rfl | (simp [errW_none, errW_some] <;> rfl) | (simp [*, errW_none, errW_some] <;> rfl), hbz⟩
    ·rw [if_neg c4] at H
     have c4b0 : (t231 == 0) = false := beq_eq_false_iff_ne.mpr c4
     have c4b1 : (t231 != 0) = true := bne_iff_ne.mpr c4
     have H' := Aside0.mk H
     clear H
     go_wp2_with (first | ((with_reducible refine gate_callee (f := 66) rfl ?_); refine goesL_ (some 13) rfl rfl Tryz.func66 (by kernel_rfl) rfl #[.string a0, .int .i64 x3_1] rfl gz ?_; (with_reducible refine (copperplateref02_Next.calls k1 a0 x3_1 t230 t231 _ A3.out).mono ?_); rintro e w6 ⟨rfl, hb⟩; refine ⟨_, rfl, ?_⟩; have n0_ := Aside0.mk (below_step hbz hb); clear HB; have HB := n0_; clear n0_; (try clear hb); (try clear hb2); (try clear hk); (try clear hi)))
     go_roundg k1
     case measure => have := HK1.out; omega
     case rel => exact ⟨(wrap64 (x3_1 + t231)), (by first | rfl | (simp; done) | (simp [*]; done)), H', ⟨by have := HK1.out; omega⟩, ⟨hbz⟩⟩
   ·rw [if_neg c2] at H
    have c2b0 : decide (x3_1 < (a0.size : Int)) = false := decide_eq_false c2
    clear c2
    obtain rfl := Option.some.inj H
    go_wp2
    go_ret
    exact ⟨by first | rfl | (simp [errW_none, errW_some] <;> rfl) | (simp [*, errW_none, errW_some] <;> rfl), hbz⟩
mutual
def copperplateref04_nothing.j0 : Nat → ByteArray → Int → Int → Bool → Option (Int)
 | 0, _, _, _, _ => none
 | k + 1, x0, x1, x5, x27 => if x27 = true then (some 1) else (if (wrap64 ((x0.size : Int) - x1)) ≥ 3 then (if x5 = 239 then (if 0 ≤ (wrap64 (x1 + 1)) then (if (wrap64 (x1 + 1)) < (x0.size : Int) then (if (bt x0 (wrap64 (x1 + 1))) = 187 then (if 0 ≤ (wrap64 (x1 + 2)) then (if (wrap64 (x1 + 2)) < (x0.size : Int) then (copperplateref04_nothing.j1 k x0 x1 x5 ((bt x0 (wrap64 (x1 + 2))) == 191)) else (none)) else (none)) else (copperplateref04_nothing.j1 k x0 x1 x5 false)) else (none)) else (none)) else (copperplateref04_nothing.j1 k x0 x1 x5 false)) else (copperplateref04_nothing.j1 k x0 x1 x5 false))
def copperplateref04_nothing.j1 : Nat → ByteArray → Int → Int → Bool → Option (Int)
 | 0, _, _, _, _ => none
 | k + 1, x0, x1, x5, x50 => if x50 = true then (some 3) else (copperplateref04_nothing.l0 k x0 x1 x5 0)
def copperplateref04_nothing.l0 : Nat → ByteArray → Int → Int → Int → Option (Int)
 | 0, _, _, _, _ => none
 | k + 1, x0, x1, x5, x6 => if x5 = 35 then (if (wrap64 (x1 + x6)) < (x0.size : Int) then (if 0 ≤ (wrap64 (x1 + x6)) then (if (bt x0 (wrap64 (x1 + x6))) = 10 then (some x6) else (if (bt x0 (wrap64 (x1 + x6))) = 13 then (some x6) else (copperplateref04_nothing.l0 k x0 x1 x5 (wrap64 (x6 + 1))))) else (none)) else (some x6)) else (some x6)
end
def copperplateref04_nothing.f (k : Nat) (a0 : ByteArray) (a1 : Int) : Option (Int) := if 0 ≤ a1 then (if a1 < (a0.size : Int) then (if (bt a0 a1) = 9 then (copperplateref04_nothing.j0 k a0 a1 (bt a0 a1) true) else (if (bt a0 a1) = 10 then (copperplateref04_nothing.j0 k a0 a1 (bt a0 a1) true) else (if (bt a0 a1) = 13 then (copperplateref04_nothing.j0 k a0 a1 (bt a0 a1) true) else (if (bt a0 a1) = 32 then (copperplateref04_nothing.j0 k a0 a1 (bt a0 a1) true) else (copperplateref04_nothing.j0 k a0 a1 (bt a0 a1) ((bt a0 a1) == 44)))))) else (none)) else (none)
theorem copperplateref04_nothing.mono_l : ∀ k, (∀ y0 y1 y2 y3, LeO (copperplateref04_nothing.j0 k y0 y1 y2 y3) (copperplateref04_nothing.j0 (k + 1) y0 y1 y2 y3)) ∧ (∀ y0 y1 y2 y3, LeO (copperplateref04_nothing.j1 k y0 y1 y2 y3) (copperplateref04_nothing.j1 (k + 1) y0 y1 y2 y3)) ∧ (∀ y0 y1 y2 y3, LeO (copperplateref04_nothing.l0 k y0 y1 y2 y3) (copperplateref04_nothing.l0 (k + 1) y0 y1 y2 y3))
 | 0 => ⟨fun _ _ _ _ r h => by simp [copperplateref04_nothing.j0] at h, fun _ _ _ _ r h => by simp [copperplateref04_nothing.j1] at h, fun _ _ _ _ r h => by simp [copperplateref04_nothing.l0] at h⟩
 | k + 1 => by
  obtain ⟨ih0, ih1, ih2⟩ := copperplateref04_nothing.mono_l k
  refine ⟨?_, ?_, ?_⟩
  ·intro y0 y1 y2 y3
   unfold copperplateref04_nothing.j0
   repeat' first
   | (with_reducible exact ih0 _ _ _ _)
   | (with_reducible exact ih1 _ _ _ _)
   | (with_reducible exact ih2 _ _ _ _)
   | (with_reducible exact LeO.refl _)
   | (with_reducible exact LeO.none _)
   | (with_reducible refine LeO.ite ?_ ?_)
   | (with_reducible refine LeO.bind ?_ (fun _ => ?_))
   | exact ih0 _ _ _ _
   | exact ih1 _ _ _ _
   | exact ih2 _ _ _ _
   | exact LeO.none _
   | refine LeO.ite ?_ ?_
   | refine LeO.bind ?_ (fun _ => ?_)
  ·intro y0 y1 y2 y3
   unfold copperplateref04_nothing.j1
   repeat' first
   | (with_reducible exact ih0 _ _ _ _)
   | (with_reducible exact ih1 _ _ _ _)
   | (with_reducible exact ih2 _ _ _ _)
   | (with_reducible exact LeO.refl _)
   | (with_reducible exact LeO.none _)
   | (with_reducible refine LeO.ite ?_ ?_)
   | (with_reducible refine LeO.bind ?_ (fun _ => ?_))
   | exact ih0 _ _ _ _
   | exact ih1 _ _ _ _
   | exact ih2 _ _ _ _
   | exact LeO.none _
   | refine LeO.ite ?_ ?_
   | refine LeO.bind ?_ (fun _ => ?_)
  ·intro y0 y1 y2 y3
   unfold copperplateref04_nothing.l0
   repeat' first
   | (with_reducible exact ih0 _ _ _ _)
   | (with_reducible exact ih1 _ _ _ _)
   | (with_reducible exact ih2 _ _ _ _)
   | (with_reducible exact LeO.refl _)
   | (with_reducible exact LeO.none _)
   | (with_reducible refine LeO.ite ?_ ?_)
   | (with_reducible refine LeO.bind ?_ (fun _ => ?_))
   | exact ih0 _ _ _ _
   | exact ih1 _ _ _ _
   | exact ih2 _ _ _ _
   | exact LeO.none _
   | refine LeO.ite ?_ ?_
   | refine LeO.bind ?_ (fun _ => ?_)
theorem copperplateref04_nothing.mono : ∀ a0 a1 k, LeO (copperplateref04_nothing.f k a0 a1) (copperplateref04_nothing.f (k + 1) a0 a1) := by
 intro a0 a1 k
 obtain ⟨ih0, ih1, ih2⟩ := copperplateref04_nothing.mono_l k
 unfold copperplateref04_nothing.f
 repeat' first
   | (with_reducible exact ih0 _ _ _ _)
   | (with_reducible exact ih1 _ _ _ _)
   | (with_reducible exact ih2 _ _ _ _)
   | (with_reducible exact LeO.refl _)
   | (with_reducible exact LeO.none _)
   | (with_reducible refine LeO.ite ?_ ?_)
   | (with_reducible refine LeO.bind ?_ (fun _ => ?_))
   | exact ih0 _ _ _ _
   | exact ih1 _ _ _ _
   | exact ih2 _ _ _ _
   | exact LeO.none _
   | refine LeO.ite ?_ ?_
   | refine LeO.bind ?_ (fun _ => ?_)
set_option maxHeartbeats 8000000 in
set_option maxRecDepth 100000 in
theorem copperplateref04_nothing.calls (k : Nat) (a0 : ByteArray) (a1 : Int) (r : Int) (w : World) (h : copperplateref04_nothing.f k a0 a1 = some r) :
  Calls Tryz.prog 67 #[.string a0, .int .i64 a1] w fun e w' => e = .returned (.int .i64 r) ∧ Drawn0 w w' := by
 have H : (if 0 ≤ a1 then (if a1 < (a0.size : Int) then (if (bt a0 a1) = 9 then (copperplateref04_nothing.j0 k a0 a1 (bt a0 a1) true) else (if (bt a0 a1) = 10 then (copperplateref04_nothing.j0 k a0 a1 (bt a0 a1) true) else (if (bt a0 a1) = 13 then (copperplateref04_nothing.j0 k a0 a1 (bt a0 a1) true) else (if (bt a0 a1) = 32 then (copperplateref04_nothing.j0 k a0 a1 (bt a0 a1) true) else (copperplateref04_nothing.j0 k a0 a1 (bt a0 a1) ((bt a0 a1) == 44)))))) else (none)) else (none)) = some r := h
 clear h
 by_cases c3 : 0 ≤ a1
 ·rw [if_pos c3] at H
  have c3b0 : decide (0 ≤ a1) = true := decide_eq_true c3
  clear c3
  by_cases c4 : a1 < (a0.size : Int)
  ·rw [if_pos c4] at H
   have c4b0 : decide (a1 < (a0.size : Int)) = true := decide_eq_true c4
   clear c4
   have HC6 := Aside0.mk H
   clear H
   have p5 : 0 ≤ (a1 : Int) := of_decide_eq_true (by first | (with_reducible assumption) | assumption)
   have q5 : a1 < (a0.size : Int) := of_decide_eq_true (by first | (with_reducible assumption) | assumption)
   have hx5 := bt_at a0 a1
   replace p5 := eq_true p5
   replace q5 := eq_true q5
   go_enter Tryz.func67, Tryz.ntmps67
   go_upto_region 2 with (fail)
   go_cut [27] (fun v27 wc => ∃ (kq : Nat) (x27_5 : Bool), v27 = .bool x27_5 ∧ Aside0 (copperplateref04_nothing.j0 kq a0 a1 (bt a0 a1) x27_5 = some r) ∧ Aside0 (kq ≤ k) ∧ Drawn0 w wc)
   case first =>
    have H := HC6.out
    clear HC6
    by_cases c7 : (bt a0 a1) = 9
    ·rw [if_pos c7] at H
     have c7b0 : ((bt a0 a1) == 9) = true := beq_iff_eq.mpr c7
     have c7b1 : ((bt a0 a1) != 9) = false := bne_eq_false_iff_eq.mpr c7
     clear c7
     (first | rw [c7b0] | (simp only [i64_w, i32_w]; rw [c7b0]) | skip)
     have H' := Aside0.mk H
     clear H
     go_wp2
     go_meet
     case rel => exact ⟨_, (true), (by first | rfl | (simp; done) | (simp [*]; done)), H', ⟨by first | omega | exact Nat.le_refl _⟩, by repeat (first | exact Drawn0.refl _ | apply Drawn0.step)⟩
    ·rw [if_neg c7] at H
     have c7b0 : ((bt a0 a1) == 9) = false := beq_eq_false_iff_ne.mpr c7
     have c7b1 : ((bt a0 a1) != 9) = true := bne_iff_ne.mpr c7
     (first | rw [c7b0] | (simp only [i64_w, i32_w]; rw [c7b0]) | skip)
     by_cases c8 : (bt a0 a1) = 10
     ·rw [if_pos c8] at H
      have c8b0 : ((bt a0 a1) == 10) = true := beq_iff_eq.mpr c8
      have c8b1 : ((bt a0 a1) != 10) = false := bne_eq_false_iff_eq.mpr c8
      clear c8
      have H' := Aside0.mk H
      clear H
      go_wp2
      go_meet
      case rel => exact ⟨_, (true), (by first | rfl | (simp; done) | (simp [*]; done)), H', ⟨by first | omega | exact Nat.le_refl _⟩, by repeat (first | exact Drawn0.refl _ | apply Drawn0.step)⟩
     ·rw [if_neg c8] at H
      have c8b0 : ((bt a0 a1) == 10) = false := beq_eq_false_iff_ne.mpr c8
      have c8b1 : ((bt a0 a1) != 10) = true := bne_iff_ne.mpr c8
      by_cases c9 : (bt a0 a1) = 13
      ·rw [if_pos c9] at H
       have c9b0 : ((bt a0 a1) == 13) = true := beq_iff_eq.mpr c9
       have c9b1 : ((bt a0 a1) != 13) = false := bne_eq_false_iff_eq.mpr c9
       clear c9
       have H' := Aside0.mk H
       clear H
       go_wp2
       go_meet
       case rel => exact ⟨_, (true), (by first | rfl | (simp; done) | (simp [*]; done)), H', ⟨by first | omega | exact Nat.le_refl _⟩, by repeat (first | exact Drawn0.refl _ | apply Drawn0.step)⟩
      ·rw [if_neg c9] at H
       have c9b0 : ((bt a0 a1) == 13) = false := beq_eq_false_iff_ne.mpr c9
       have c9b1 : ((bt a0 a1) != 13) = true := bne_iff_ne.mpr c9
       by_cases c10 : (bt a0 a1) = 32
       ·rw [if_pos c10] at H
        have c10b0 : ((bt a0 a1) == 32) = true := beq_iff_eq.mpr c10
        have c10b1 : ((bt a0 a1) != 32) = false := bne_eq_false_iff_eq.mpr c10
        clear c10
        have H' := Aside0.mk H
        clear H
        go_wp2
        go_meet
        case rel => exact ⟨_, (true), (by first | rfl | (simp; done) | (simp [*]; done)), H', ⟨by first | omega | exact Nat.le_refl _⟩, by repeat (first | exact Drawn0.refl _ | apply Drawn0.step)⟩
       ·rw [if_neg c10] at H
        have c10b0 : ((bt a0 a1) == 32) = false := beq_eq_false_iff_ne.mpr c10
        have c10b1 : ((bt a0 a1) != 32) = true := bne_iff_ne.mpr c10
        have H' := Aside0.mk H
        clear H
        go_wp2
        go_meet
        case rel => exact ⟨_, (((bt a0 a1) == 44)), (by first | rfl | (simp; done) | (simp [*]; done)), H', ⟨by first | omega | exact Nat.le_refl _⟩, by repeat (first | exact Drawn0.refl _ | apply Drawn0.step)⟩
   case rest =>
    clear HC6
    try clear c1
    try clear p2
    try clear c3
    try clear c3b0
    try clear c4
    try clear c4b0
    try clear p5
    try clear q5
    try clear hx5
    try clear c6
    try clear c7
    try clear c7b0
    try clear c7b1
    try clear c8
    try clear c8b0
    try clear c8b1
    try clear c9
    try clear c9b0
    try clear c9b1
    try clear c10
    try clear c10b0
    try clear c10b1
    try clear p5
    try clear q5
    obtain ⟨kq, x27_5, rfl, HA, HJ5, ⟨mc5, rfl⟩⟩ := hcut
    cases kq with
    | zero => exact absurd HA.out (by simp [copperplateref04_nothing.j0])
    | succ kj5 =>
     have H := HA.out
     clear HA
     simp only [copperplateref04_nothing.j0] at H
     by_cases c11 : x27_5 = true
     ·subst c11
      have H1 : (some 1) = some r := by rw [if_pos rfl] at H; exact H
      clear H
      have H := H1
      clear H1
      obtain rfl := Option.some.inj H
      go_wp2
      go_ret
      exact ⟨by first | rfl | (simp; done) | (simp [*]; done), by repeat (first | exact Drawn0.refl _ | apply Drawn0.step)⟩
     ·replace c11 := Bool.eq_false_iff.mpr c11
      subst c11
      have H1 : (if (wrap64 ((a0.size : Int) - a1)) ≥ 3 then (if (bt a0 a1) = 239 then (if 0 ≤ (wrap64 (a1 + 1)) then (if (wrap64 (a1 + 1)) < (a0.size : Int) then (if (bt a0 (wrap64 (a1 + 1))) = 187 then (if 0 ≤ (wrap64 (a1 + 2)) then (if (wrap64 (a1 + 2)) < (a0.size : Int) then (copperplateref04_nothing.j1 kj5 a0 a1 (bt a0 a1) ((bt a0 (wrap64 (a1 + 2))) == 191)) else (none)) else (none)) else (copperplateref04_nothing.j1 kj5 a0 a1 (bt a0 a1) false)) else (none)) else (none)) else (copperplateref04_nothing.j1 kj5 a0 a1 (bt a0 a1) false)) else (copperplateref04_nothing.j1 kj5 a0 a1 (bt a0 a1) false)) = some r := by rw [if_neg (show ¬ (false = true) by decide)] at H; exact H
      clear H
      have H := H1
      clear H1
      have HC12 := Aside0.mk H
      clear H
      go_upto_region 4 with (fail)
      go_cut [50] (fun v50 wc => ∃ (kq : Nat) (x50_11 : Bool), v50 = .bool x50_11 ∧ Aside0 (copperplateref04_nothing.j1 kq a0 a1 (bt a0 a1) x50_11 = some r) ∧ Aside0 (kq ≤ kj5) ∧ Drawn0 w wc)
      case first =>
       have H := HC12.out
       clear HC12
       by_cases c13 : (wrap64 ((a0.size : Int) - a1)) ≥ 3
       ·rw [if_pos c13] at H
        have c13b0 : decide (3 ≤ (wrap64 ((a0.size : Int) - a1))) = true := decide_eq_true c13
        clear c13
        (first | rw [c13b0] | (simp only [i64_w, i32_w]; rw [c13b0]) | skip)
        by_cases c14 : (bt a0 a1) = 239
        ·rw [if_pos c14] at H
         have c14b0 : ((bt a0 a1) == 239) = true := beq_iff_eq.mpr c14
         have c14b1 : ((bt a0 a1) != 239) = false := bne_eq_false_iff_eq.mpr c14
         clear c14
         obtain ⟨ji15, hji15⟩ : ∃ j_ : Int, (wrap64 (a1 + 1)) = j_ := ⟨_, rfl⟩
         replace H : (if 0 ≤ (ji15) then (if (ji15) < (a0.size : Int) then (if (bt a0 (ji15)) = 187 then (if 0 ≤ (wrap64 (a1 + 2)) then (if (wrap64 (a1 + 2)) < (a0.size : Int) then (copperplateref04_nothing.j1 kj5 a0 a1 (bt a0 a1) ((bt a0 (wrap64 (a1 + 2))) == 191)) else (none)) else (none)) else (copperplateref04_nothing.j1 kj5 a0 a1 (bt a0 a1) false)) else (none)) else (none)) = some r := by first | (rw [hji15] at H; exact H) | (simp only [hji15] at H ⊢; exact H)
         have hji15w : (IntKind.i64.wrap (a1 + 1)) = ji15 := (i64_w _).trans hji15
         by_cases c16 : 0 ≤ (ji15)
         ·rw [if_pos c16] at H
          have c16b0 : decide (0 ≤ (ji15)) = true := decide_eq_true c16
          clear c16
          by_cases c17 : (ji15) < (a0.size : Int)
          ·rw [if_pos c17] at H
           have c17b0 : decide ((ji15) < (a0.size : Int)) = true := decide_eq_true c17
           clear c17
           by_cases c19 : (bt a0 (ji15)) = 187
           ·rw [if_pos c19] at H
            have c19b0 : ((bt a0 (ji15)) == 187) = true := beq_iff_eq.mpr c19
            have c19b1 : ((bt a0 (ji15)) != 187) = false := bne_eq_false_iff_eq.mpr c19
            clear c19
            obtain ⟨ji20, hji20⟩ : ∃ j_ : Int, (wrap64 (a1 + 2)) = j_ := ⟨_, rfl⟩
            replace H : (if 0 ≤ (ji20) then (if (ji20) < (a0.size : Int) then (copperplateref04_nothing.j1 kj5 a0 a1 (bt a0 a1) ((bt a0 (ji20)) == 191)) else (none)) else (none)) = some r := by first | (rw [hji20] at H; exact H) | (simp only [hji20] at H ⊢; exact H)
            have hji20w : (IntKind.i64.wrap (a1 + 2)) = ji20 := (i64_w _).trans hji20
            by_cases c21 : 0 ≤ (ji20)
            ·rw [if_pos c21] at H
             have c21b0 : decide (0 ≤ (ji20)) = true := decide_eq_true c21
             clear c21
             by_cases c22 : (ji20) < (a0.size : Int)
             ·rw [if_pos c22] at H
              have c22b0 : decide ((ji20) < (a0.size : Int)) = true := decide_eq_true c22
              clear c22
              have H' := Aside0.mk H
              clear H
              have p18 : 0 ≤ ((ji15) : Int) := of_decide_eq_true (by first | (with_reducible assumption) | assumption)
              have q18 : (ji15) < (a0.size : Int) := of_decide_eq_true (by first | (with_reducible assumption) | assumption)
              have hx18 := bt_at a0 (ji15)
              replace p18 := eq_true p18
              replace q18 := eq_true q18
              have p23 : 0 ≤ ((ji20) : Int) := of_decide_eq_true (by first | (with_reducible assumption) | assumption)
              have q23 : (ji20) < (a0.size : Int) := of_decide_eq_true (by first | (with_reducible assumption) | assumption)
              have hx23 := bt_at a0 (ji20)
              replace p23 := eq_true p23
              replace q23 := eq_true q23
              go_wp2
              go_meet
              case rel => exact ⟨_, (((bt a0 (ji20)) == 191)), (by first | rfl | (simp; done) | (simp only [← hji20] <;> (first | rfl | simp)) | (simp [*]; done)), H', ⟨by have := HJ5.out; first | omega | exact Nat.le_refl _⟩, by repeat (first | exact Drawn0.refl _ | apply Drawn0.step)⟩
             ·rw [if_neg c22] at H
              exact absurd H (by simp)
            ·rw [if_neg c21] at H
             exact absurd H (by simp)
           ·rw [if_neg c19] at H
            have c19b0 : ((bt a0 (ji15)) == 187) = false := beq_eq_false_iff_ne.mpr c19
            have c19b1 : ((bt a0 (ji15)) != 187) = true := bne_iff_ne.mpr c19
            have H' := Aside0.mk H
            clear H
            have p18 : 0 ≤ ((ji15) : Int) := of_decide_eq_true (by first | (with_reducible assumption) | assumption)
            have q18 : (ji15) < (a0.size : Int) := of_decide_eq_true (by first | (with_reducible assumption) | assumption)
            have hx18 := bt_at a0 (ji15)
            replace p18 := eq_true p18
            replace q18 := eq_true q18
            go_wp2
            go_meet
            case rel => exact ⟨_, (false), (by first | rfl | (simp; done) | (simp [*]; done)), H', ⟨by have := HJ5.out; first | omega | exact Nat.le_refl _⟩, by repeat (first | exact Drawn0.refl _ | apply Drawn0.step)⟩
          ·rw [if_neg c17] at H
           exact absurd H (by simp)
         ·rw [if_neg c16] at H
          exact absurd H (by simp)
        ·rw [if_neg c14] at H
         have c14b0 : ((bt a0 a1) == 239) = false := beq_eq_false_iff_ne.mpr c14
         have c14b1 : ((bt a0 a1) != 239) = true := bne_iff_ne.mpr c14
         have H' := Aside0.mk H
         clear H
         go_wp2
         go_meet
         case rel => exact ⟨_, (false), (by first | rfl | (simp; done) | (simp [*]; done)), H', ⟨by have := HJ5.out; first | omega | exact Nat.le_refl _⟩, by repeat (first | exact Drawn0.refl _ | apply Drawn0.step)⟩
       ·rw [if_neg c13] at H
        have c13b0 : decide (3 ≤ (wrap64 ((a0.size : Int) - a1))) = false := decide_eq_false c13
        clear c13
        (first | rw [c13b0] | (simp only [i64_w, i32_w]; rw [c13b0]) | skip)
        have H' := Aside0.mk H
        clear H
        go_wp2
        go_meet
        case rel => exact ⟨_, (false), (by first | rfl | (simp; done) | (simp [*]; done)), H', ⟨by have := HJ5.out; first | omega | exact Nat.le_refl _⟩, by repeat (first | exact Drawn0.refl _ | apply Drawn0.step)⟩
      case rest =>
       clear HC12
       try clear c1
       try clear p1
       try clear q1
       try clear hx1
       try clear c2
       try clear p2
       try clear q2
       try clear hx2
       try clear c3
       try clear c3b0
       try clear c4
       try clear c4b0
       try clear c5
       try clear p5
       try clear q5
       try clear hx5
       try clear c6
       try clear p6
       try clear c7
       try clear c7b0
       try clear c7b1
       try clear c8
       try clear c8b0
       try clear c8b1
       try clear c9
       try clear c9b0
       try clear c9b1
       try clear c10
       try clear c10b0
       try clear c10b1
       try clear c11
       try clear c13
       try clear c13b0
       try clear c14
       try clear c14b0
       try clear c14b1
       try clear c16
       try clear c16b0
       try clear c17
       try clear c17b0
       try clear p18
       try clear q18
       try clear hx18
       try clear c19
       try clear c19b0
       try clear c19b1
       try clear c21
       try clear c21b0
       try clear c22
       try clear c22b0
       try clear p23
       try clear q23
       try clear hx23
       try clear p18
       try clear p2
       try clear p23
       try clear p5
       try clear q18
       try clear q23
       try clear q5
       obtain ⟨kq, x50_11, rfl, HA, HJ11, ⟨mc11, rfl⟩⟩ := hcut
       cases kq with
       | zero => exact absurd HA.out (by simp [copperplateref04_nothing.j1])
       | succ kj11 =>
        have H := HA.out
        clear HA
        simp only [copperplateref04_nothing.j1] at H
        by_cases c24 : x50_11 = true
        ·subst c24
         have H1 : (some 3) = some r := by rw [if_pos rfl] at H; exact H
         clear H
         have H := H1
         clear H1
         obtain rfl := Option.some.inj H
         go_wp2
         go_ret
         exact ⟨by first | rfl | (simp; done) | (simp [*]; done), by repeat (first | exact Drawn0.refl _ | apply Drawn0.step)⟩
        ·replace c24 := Bool.eq_false_iff.mpr c24
         subst c24
         have H1 : (copperplateref04_nothing.l0 kj11 a0 a1 (bt a0 a1) 0) = some r := by rw [if_neg (show ¬ (false = true) by decide)] at H; exact H
         clear H
         have H := H1
         clear H1
         have H' := Aside0.mk H
         clear H
         go_wp2
         go_loopg [6] kj11 (fun kq v6 w' => ∃ (x6_3 : Int), v6 = .int .i64 x6_3 ∧ Aside0 (copperplateref04_nothing.l0 kq a0 a1 (bt a0 a1) x6_3 = some r) ∧ Aside0 (kq ≤ kj11) ∧ Drawn0 w w')
         case atStart => exact ⟨(0), (by first | rfl | (simp; done) | (simp [*]; done)), H', ⟨Nat.le_refl _⟩, by repeat (first | exact Drawn0.refl _ | apply Drawn0.step)⟩
         case round =>
          clear H'
          try clear c1
          try clear p1
          try clear q1
          try clear hx1
          try clear c2
          try clear p2
          try clear q2
          try clear hx2
          try clear c3
          try clear c3b0
          try clear c4
          try clear c4b0
          try clear c5
          try clear p5
          try clear q5
          try clear hx5
          try clear c6
          try clear p6
          try clear c7
          try clear c7b0
          try clear c7b1
          try clear c8
          try clear c8b0
          try clear c8b1
          try clear c9
          try clear c9b0
          try clear c9b1
          try clear c10
          try clear c10b0
          try clear c10b1
          try clear c11
          try clear c13
          try clear c13b0
          try clear c14
          try clear c14b0
          try clear c14b1
          try clear c16
          try clear c16b0
          try clear c17
          try clear c17b0
          try clear p18
          try clear q18
          try clear hx18
          try clear c19
          try clear c19b0
          try clear c19b1
          try clear c21
          try clear c21b0
          try clear c22
          try clear c22b0
          try clear p23
          try clear q23
          try clear hx23
          try clear c24
          try clear p1
          try clear p18
          try clear p2
          try clear p23
          try clear p5
          try clear p6
          try clear q1
          try clear q18
          try clear q2
          try clear q23
          try clear q5
          obtain ⟨x6_3, rfl, HA, HK3, ⟨m3, rfl⟩⟩ := hrel
          cases gk with
          | zero => exact absurd HA.out (by simp [copperplateref04_nothing.l0])
          | succ k3 =>
           have H := HA.out
           clear HA
           simp only [copperplateref04_nothing.l0] at H
           by_cases c25 : (bt a0 a1) = 35
           ·rw [if_pos c25] at H
            have c25b0 : ((bt a0 a1) == 35) = true := beq_iff_eq.mpr c25
            have c25b1 : ((bt a0 a1) != 35) = false := bne_eq_false_iff_eq.mpr c25
            clear c25
            by_cases c26 : (wrap64 (a1 + x6_3)) < (a0.size : Int)
            ·rw [if_pos c26] at H
             have c26b0 : decide ((wrap64 (a1 + x6_3)) < (a0.size : Int)) = true := decide_eq_true c26
             clear c26
             obtain ⟨ji27, hji27⟩ : ∃ j_ : Int, (wrap64 (a1 + x6_3)) = j_ := ⟨_, rfl⟩
             replace H : (if 0 ≤ (ji27) then (if (bt a0 (ji27)) = 10 then (some x6_3) else (if (bt a0 (ji27)) = 13 then (some x6_3) else (copperplateref04_nothing.l0 k3 a0 a1 (bt a0 a1) (wrap64 (x6_3 + 1))))) else (none)) = some r := by first | (rw [hji27] at H; exact H) | (simp only [hji27] at H ⊢; exact H)
             (try rw [hji27] at c26b0)
             have hji27w : (IntKind.i64.wrap (a1 + x6_3)) = ji27 := (i64_w _).trans hji27
             by_cases c28 : 0 ≤ (ji27)
             ·rw [if_pos c28] at H
              have c28b0 : decide (0 ≤ (ji27)) = true := decide_eq_true c28
              clear c28
              by_cases c30 : (bt a0 (ji27)) = 10
              ·rw [if_pos c30] at H
               have c30b0 : ((bt a0 (ji27)) == 10) = true := beq_iff_eq.mpr c30
               have c30b1 : ((bt a0 (ji27)) != 10) = false := bne_eq_false_iff_eq.mpr c30
               clear c30
               obtain rfl := Option.some.inj H
               have p29 : 0 ≤ ((ji27) : Int) := of_decide_eq_true (by first | (with_reducible assumption) | assumption)
               have q29 : (ji27) < (a0.size : Int) := of_decide_eq_true (by first | (with_reducible assumption) | assumption)
               have hx29 := bt_at a0 (ji27)
               replace p29 := eq_true p29
               replace q29 := eq_true q29
               go_wp2
               go_ret
               exact ⟨by first | rfl | (simp; done) | (simp only [← hji27] <;> (first | rfl | simp)) | (simp [*]; done), by repeat (first | exact Drawn0.refl _ | apply Drawn0.step)⟩
              ·rw [if_neg c30] at H
               have c30b0 : ((bt a0 (ji27)) == 10) = false := beq_eq_false_iff_ne.mpr c30
               have c30b1 : ((bt a0 (ji27)) != 10) = true := bne_iff_ne.mpr c30
               by_cases c32 : (bt a0 (ji27)) = 13
               ·rw [if_pos c32] at H
                have c32b0 : ((bt a0 (ji27)) == 13) = true := beq_iff_eq.mpr c32
                have c32b1 : ((bt a0 (ji27)) != 13) = false := bne_eq_false_iff_eq.mpr c32
                clear c32
                obtain rfl := Option.some.inj H
                have p29 : 0 ≤ ((ji27) : Int) := of_decide_eq_true (by first | (with_reducible assumption) | assumption)
                have q29 : (ji27) < (a0.size : Int) := of_decide_eq_true (by first | (with_reducible assumption) | assumption)
                have hx29 := bt_at a0 (ji27)
                replace p29 := eq_true p29
                replace q29 := eq_true q29
                have p31 : 0 ≤ ((ji27) : Int) := of_decide_eq_true (by first | (with_reducible assumption) | assumption)
                have q31 : (ji27) < (a0.size : Int) := of_decide_eq_true (by first | (with_reducible assumption) | assumption)
                have hx31 := bt_at a0 (ji27)
                replace p31 := eq_true p31
                replace q31 := eq_true q31
                go_wp2
                go_ret
                exact ⟨by first | rfl | (simp; done) | (simp only [← hji27] <;> (first | rfl | simp)) | (simp [*]; done), by repeat (first | exact Drawn0.refl _ | apply Drawn0.step)⟩
               ·rw [if_neg c32] at H
                have c32b0 : ((bt a0 (ji27)) == 13) = false := beq_eq_false_iff_ne.mpr c32
                have c32b1 : ((bt a0 (ji27)) != 13) = true := bne_iff_ne.mpr c32
                have H' := Aside0.mk H
                clear H
                have p29 : 0 ≤ ((ji27) : Int) := of_decide_eq_true (by first | (with_reducible assumption) | assumption)
                have q29 : (ji27) < (a0.size : Int) := of_decide_eq_true (by first | (with_reducible assumption) | assumption)
                have hx29 := bt_at a0 (ji27)
                replace p29 := eq_true p29
                replace q29 := eq_true q29
                have p31 : 0 ≤ ((ji27) : Int) := of_decide_eq_true (by first | (with_reducible assumption) | assumption)
                have q31 : (ji27) < (a0.size : Int) := of_decide_eq_true (by first | (with_reducible assumption) | assumption)
                have hx31 := bt_at a0 (ji27)
                replace p31 := eq_true p31
                replace q31 := eq_true q31
                go_wp2
                go_roundg k3
                case measure => have := HJ5.out; have := HJ11.out; have := HK3.out; omega
                case rel => exact ⟨(wrap64 (x6_3 + 1)), (by first | rfl | (simp; done) | (simp [*]; done)), H', ⟨by have := HJ5.out; have := HJ11.out; have := HK3.out; omega⟩, by repeat (first | exact Drawn0.refl _ | apply Drawn0.step)⟩
             ·rw [if_neg c28] at H
              exact absurd H (by simp)
            ·rw [if_neg c26] at H
             have c26b0 : decide ((wrap64 (a1 + x6_3)) < (a0.size : Int)) = false := decide_eq_false c26
             clear c26
             obtain rfl := Option.some.inj H
             go_wp2
             go_ret
             exact ⟨by first | rfl | (simp; done) | (simp [*]; done), by repeat (first | exact Drawn0.refl _ | apply Drawn0.step)⟩
           ·rw [if_neg c25] at H
            have c25b0 : ((bt a0 a1) == 35) = false := beq_eq_false_iff_ne.mpr c25
            have c25b1 : ((bt a0 a1) != 35) = true := bne_iff_ne.mpr c25
            obtain rfl := Option.some.inj H
            go_wp2
            go_ret
            exact ⟨by first | rfl | (simp; done) | (simp [*]; done), by repeat (first | exact Drawn0.refl _ | apply Drawn0.step)⟩
  ·rw [if_neg c4] at H
   exact absurd H (by simp)
 ·rw [if_neg c3] at H
  exact absurd H (by simp)
def copperplateref04_Blank.l0 : Nat → ByteArray → Int → Option (Int)
 | 0, _, _ => none
 | k + 1, x0, x1 => if x1 < (x0.size : Int) then ((copperplateref04_nothing.f k x0 x1).bind fun t232 => (if t232 = 0 then (some x1) else (copperplateref04_Blank.l0 k x0 (wrap64 (x1 + t232))))) else (some x1)
def copperplateref04_Blank.f (k : Nat) (a0 : ByteArray) (a1 : Int) : Option (Int) := if a1 < 0 then (some a1) else (copperplateref04_Blank.l0 k a0 a1)
theorem copperplateref04_Blank.mono_l : ∀ k, (∀ y0 y1, LeO (copperplateref04_Blank.l0 k y0 y1) (copperplateref04_Blank.l0 (k + 1) y0 y1))
 | 0 => fun _ _ r h => by simp [copperplateref04_Blank.l0] at h
 | k + 1 => by
  have ih0 := copperplateref04_Blank.mono_l k
  ·intro y0 y1
   unfold copperplateref04_Blank.l0
   repeat' first
   | (with_reducible exact ih0 _ _)
   | (with_reducible exact copperplateref04_nothing.mono _ _ _)
   | (with_reducible exact LeO.refl _)
   | (with_reducible exact LeO.none _)
   | (with_reducible refine LeO.ite ?_ ?_)
   | (with_reducible refine LeO.bind ?_ (fun _ => ?_))
   | exact ih0 _ _
   | exact copperplateref04_nothing.mono _ _ _
   | exact LeO.none _
   | refine LeO.ite ?_ ?_
   | refine LeO.bind ?_ (fun _ => ?_)
theorem copperplateref04_Blank.mono : ∀ a0 a1 k, LeO (copperplateref04_Blank.f k a0 a1) (copperplateref04_Blank.f (k + 1) a0 a1) := by
 intro a0 a1 k
 have ih0 := copperplateref04_Blank.mono_l k
 unfold copperplateref04_Blank.f
 repeat' first
   | (with_reducible exact ih0 _ _)
   | (with_reducible exact copperplateref04_nothing.mono _ _ _)
   | (with_reducible exact LeO.refl _)
   | (with_reducible exact LeO.none _)
   | (with_reducible refine LeO.ite ?_ ?_)
   | (with_reducible refine LeO.bind ?_ (fun _ => ?_))
   | exact ih0 _ _
   | exact copperplateref04_nothing.mono _ _ _
   | exact LeO.none _
   | refine LeO.ite ?_ ?_
   | refine LeO.bind ?_ (fun _ => ?_)
set_option maxHeartbeats 8000000 in
set_option maxRecDepth 100000 in
theorem copperplateref04_Blank.calls (k : Nat) (a0 : ByteArray) (a1 : Int) (r : Int) (w : World) (h : copperplateref04_Blank.f k a0 a1 = some r) :
  Calls Tryz.prog 32 #[.string a0, .int .i64 a1] w fun e w' => e = .returned (.int .i64 r) ∧ Drawn0 w w' := by
 have H : (if a1 < 0 then (some a1) else (copperplateref04_Blank.l0 k a0 a1)) = some r := h
 clear h
 by_cases c3 : a1 < 0
 ·rw [if_pos c3] at H
  have c3b0 : decide (a1 < 0) = true := decide_eq_true c3
  clear c3
  obtain rfl := Option.some.inj H
  go_enter Tryz.func32, Tryz.ntmps32
  go_wp2
  go_ret
  exact ⟨by first | rfl | (simp; done) | (simp [*]; done), by repeat (first | exact Drawn0.refl _ | apply Drawn0.step)⟩
 ·rw [if_neg c3] at H
  have c3b0 : decide (a1 < 0) = false := decide_eq_false c3
  clear c3
  have H' := Aside0.mk H
  clear H
  go_enter Tryz.func32, Tryz.ntmps32
  go_wp2
  go_loopg [1] k (fun kq v1 w' => ∃ (x1_1 : Int), v1 = .int .i64 x1_1 ∧ Aside0 (copperplateref04_Blank.l0 kq a0 x1_1 = some r) ∧ Aside0 (kq ≤ k) ∧ Drawn0 w w')
  case atStart => exact ⟨(a1), (by first | rfl | (simp; done) | (simp [*]; done)), H', ⟨Nat.le_refl _⟩, by repeat (first | exact Drawn0.refl _ | apply Drawn0.step)⟩
  case round =>
   clear H'
   try clear p2
   try clear c3
   try clear c3b0
   obtain ⟨x1_1, rfl, HA, HK1, ⟨m1, rfl⟩⟩ := hrel
   cases gk with
   | zero => exact absurd HA.out (by simp [copperplateref04_Blank.l0])
   | succ k1 =>
    have H := HA.out
    clear HA
    simp only [copperplateref04_Blank.l0] at H
    by_cases c4 : x1_1 < (a0.size : Int)
    ·rw [if_pos c4] at H
     have c4b0 : decide (x1_1 < (a0.size : Int)) = true := decide_eq_true c4
     clear c4
     replace H := Option.bind_eq_some_iff.mp H
     obtain ⟨t232, A50, H⟩ := H
     replace H : (if t232 = 0 then (some x1_1) else (copperplateref04_Blank.l0 k1 a0 (wrap64 (x1_1 + t232)))) = some r := H
     have A5 := Aside0.mk A50
     clear A50
     by_cases c6 : t232 = 0
     ·rw [if_pos c6] at H
      have c6b0 : (t232 == 0) = true := beq_iff_eq.mpr c6
      have c6b1 : (t232 != 0) = false := bne_eq_false_iff_eq.mpr c6
      clear c6
      obtain rfl := Option.some.inj H
      go_wp2_with (first | ((with_reducible refine gate_callee (f := 67) rfl ?_); refine goesL_ (some 15) rfl rfl Tryz.func67 (by kernel_rfl) rfl #[.string a0, .int .i64 x1_1] rfl gz ?_; (with_reducible refine (copperplateref04_nothing.calls k1 a0 x1_1 t232 _ A5.out).mono ?_); rintro e w' ⟨rfl, ⟨nd, rfl⟩⟩; refine ⟨_, rfl, ?_⟩))
      go_ret
      exact ⟨by first | rfl | (simp; done) | (simp [*]; done), by repeat (first | exact Drawn0.refl _ | apply Drawn0.step)⟩
     ·rw [if_neg c6] at H
      have c6b0 : (t232 == 0) = false := beq_eq_false_iff_ne.mpr c6
      have c6b1 : (t232 != 0) = true := bne_iff_ne.mpr c6
      have H' := Aside0.mk H
      clear H
      go_wp2_with (first | ((with_reducible refine gate_callee (f := 67) rfl ?_); refine goesL_ (some 15) rfl rfl Tryz.func67 (by kernel_rfl) rfl #[.string a0, .int .i64 x1_1] rfl gz ?_; (with_reducible refine (copperplateref04_nothing.calls k1 a0 x1_1 t232 _ A5.out).mono ?_); rintro e w' ⟨rfl, ⟨nd, rfl⟩⟩; refine ⟨_, rfl, ?_⟩))
      go_roundg k1
      case measure => have := HK1.out; omega
      case rel => exact ⟨(wrap64 (x1_1 + t232)), (by first | rfl | (simp; done) | (simp [*]; done)), H', ⟨by have := HK1.out; omega⟩, by repeat (first | exact Drawn0.refl _ | apply Drawn0.step)⟩
    ·rw [if_neg c4] at H
     have c4b0 : decide (x1_1 < (a0.size : Int)) = false := decide_eq_false c4
     clear c4
     obtain rfl := Option.some.inj H
     go_wp2
     go_ret
     exact ⟨by first | rfl | (simp; done) | (simp [*]; done), by repeat (first | exact Drawn0.refl _ | apply Drawn0.step)⟩
end Go.Proofs.YtjgpmfjkcioinaaGreatDoor.Q
