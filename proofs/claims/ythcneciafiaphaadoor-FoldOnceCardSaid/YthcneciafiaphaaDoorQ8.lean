-- Printed for this seat by a program of this session (qprint.py), out of the translation; Lean checks it.
import Derived.Test.YthcneciafiaphaaDoorQ0
import Derived.Test.YthcneciafiaphaaDoorQ1
import Derived.Test.YthcneciafiaphaaDoorQ3
namespace Go.Proofs.YthcneciafiaphaaDoor.Q
open Go.Proofs.YthcneciafiaphaaDoor.G
open Go.RowKit Go.Proofs.YthcneciafiaphaaDoorW.PrintWords Go.Proofs.YthcneciafiaphaaDoorW.PrintLast Go.Proofs.YthcneciafiaphaaDoorW.PrintMore
attribute [local go_sem] max2_int min2_int max_two min_two max_three min_three max_four min_four   -- for this text's walks alone
set_option linter.unusedVariables false
set_option linter.unusedSimpArgs false

theorem isE_ (l : List UInt8) : l.isEmpty = !(l != []) := by cases l <;> rfl

/-! ### copperplatelaw07_FoldBlank: function 8 -/
def copperplatelaw07_FoldBlank.j0 : Nat → ByteArray → Int → Bool → Bool → Option (Bool)
  | 0, _, _, _, _ => none
  | k + 1, x0, x1, x5, x23 => if x23 = true then (some x5) else (if 0 ≤ x1 then (if x1 ≤ 9 then (if 1 + x0.size ≤ 9223372036854775807 then ((fold_Fold.f ((⟨#[10]⟩ : ByteArray) ++ x0)).bind fun t240 => (if ((⟨#[32, 32, 32, 32, 32, 32, 32, 32, 32]⟩ : ByteArray).extract 0 (x1 : Int).toNat).size + 2 ≤ 9223372036854775807 then (if (((⟨#[32, 32, 32, 32, 32, 32, 32, 32, 32]⟩ : ByteArray).extract 0 (x1 : Int).toNat) ++ (⟨#[10, 10]⟩ : ByteArray)).size + x0.size ≤ 9223372036854775807 then ((fold_Fold.f ((((⟨#[32, 32, 32, 32, 32, 32, 32, 32, 32]⟩ : ByteArray).extract 0 (x1 : Int).toNat) ++ (⟨#[10, 10]⟩ : ByteArray)) ++ x0)).bind fun t241 => (if t241.toList = t240.toList then (if ((⟨#[10]⟩ : ByteArray) ++ x0).size + 1 ≤ 9223372036854775807 then (if (((⟨#[10]⟩ : ByteArray) ++ x0) ++ (⟨#[10]⟩ : ByteArray)).size + ((⟨#[32, 32, 32, 32, 32, 32, 32, 32, 32]⟩ : ByteArray).extract 0 (x1 : Int).toNat).size ≤ 9223372036854775807 then ((fold_Fold.f ((((⟨#[10]⟩ : ByteArray) ++ x0) ++ (⟨#[10]⟩ : ByteArray)) ++ ((⟨#[32, 32, 32, 32, 32, 32, 32, 32, 32]⟩ : ByteArray).extract 0 (x1 : Int).toNat))).bind fun t242 => (if t242.toList = t240.toList then (if 3 + x0.size ≤ 9223372036854775807 then ((fold_Fold.f ((⟨#[9, 13, 10]⟩ : ByteArray) ++ x0)).bind fun t243 => (if t243.toList = t240.toList then (some true) else (if (x0.size : Int) > 0 then (if 0 < (x0.size : Int) then (if (bt x0 0) = 10 then (some true) else (if 0 ≤ (wrap64 ((x0.size : Int) - 1)) then (if (wrap64 ((x0.size : Int) - 1)) < (x0.size : Int) then (some ((bt x0 (wrap64 ((x0.size : Int) - 1))) == 13)) else (none)) else (none))) else (none)) else (some false)))) else (none)) else (if (x0.size : Int) > 0 then (if 0 < (x0.size : Int) then (if (bt x0 0) = 10 then (some true) else (if 0 ≤ (wrap64 ((x0.size : Int) - 1)) then (if (wrap64 ((x0.size : Int) - 1)) < (x0.size : Int) then (some ((bt x0 (wrap64 ((x0.size : Int) - 1))) == 13)) else (none)) else (none))) else (none)) else (some false)))) else (none)) else (none)) else (if (x0.size : Int) > 0 then (if 0 < (x0.size : Int) then (if (bt x0 0) = 10 then (some true) else (if 0 ≤ (wrap64 ((x0.size : Int) - 1)) then (if (wrap64 ((x0.size : Int) - 1)) < (x0.size : Int) then (some ((bt x0 (wrap64 ((x0.size : Int) - 1))) == 13)) else (none)) else (none))) else (none)) else (some false)))) else (none)) else (none))) else (none)) else (none)) else (none))
def copperplatelaw07_FoldBlank.f (k : Nat) (a0 : ByteArray) (a1 : Int) : Option (Bool) := (copperplatelaw07_awake.f).bind fun t239 => (if t239 = true then (if (a0.size : Int) > 300 then (copperplatelaw07_FoldBlank.j0 k a0 a1 t239 true) else (if a1 < 0 then (copperplatelaw07_FoldBlank.j0 k a0 a1 t239 true) else (copperplatelaw07_FoldBlank.j0 k a0 a1 t239 (decide (a1 > 9))))) else (copperplatelaw07_FoldBlank.j0 k a0 a1 t239 true))
theorem copperplatelaw07_FoldBlank.mono_l : ∀ k, (∀ y0 y1 y2 y3, LeO (copperplatelaw07_FoldBlank.j0 k y0 y1 y2 y3) (copperplatelaw07_FoldBlank.j0 (k + 1) y0 y1 y2 y3))
  | 0 => fun _ _ _ _ r h => by simp [copperplatelaw07_FoldBlank.j0] at h
  | k + 1 => by
    have ih0 := copperplatelaw07_FoldBlank.mono_l k
    · intro y0 y1 y2 y3
      unfold copperplatelaw07_FoldBlank.j0
      repeat' first
      | (with_reducible exact ih0 _ _ _ _)
      | (with_reducible exact LeO.refl _)
      | (with_reducible exact LeO.none _)
      | (with_reducible refine LeO.ite ?_ ?_)
      | (with_reducible refine LeO.bind ?_ (fun _ => ?_))
      | exact ih0 _ _ _ _
      | exact LeO.none _
      | refine LeO.ite ?_ ?_
      | refine LeO.bind ?_ (fun _ => ?_)
theorem copperplatelaw07_FoldBlank.mono : ∀ a0 a1 k, LeO (copperplatelaw07_FoldBlank.f k a0 a1) (copperplatelaw07_FoldBlank.f (k + 1) a0 a1) := by
  intro a0 a1 k
  have ih0 := copperplatelaw07_FoldBlank.mono_l k
  unfold copperplatelaw07_FoldBlank.f
  repeat' first
      | (with_reducible exact ih0 _ _ _ _)
      | (with_reducible exact LeO.refl _)
      | (with_reducible exact LeO.none _)
      | (with_reducible refine LeO.ite ?_ ?_)
      | (with_reducible refine LeO.bind ?_ (fun _ => ?_))
      | exact ih0 _ _ _ _
      | exact LeO.none _
      | refine LeO.ite ?_ ?_
      | refine LeO.bind ?_ (fun _ => ?_)
set_option maxHeartbeats 8000000 in
set_option maxRecDepth 100000 in
theorem copperplatelaw07_FoldBlank.calls (k : Nat) (a0 : ByteArray) (a1 : Int) (r : Bool) (w : World) (h : copperplatelaw07_FoldBlank.f k a0 a1 = some r) :
    Calls Tryd.prog 8 #[.string a0, .int .i64 a1] w fun e w' => e = .returned (.bool r) ∧ Below w.heap.size w w' := by
  have HB := Aside0.mk (Below.refl w.heap.size w)
  have H : ((copperplatelaw07_awake.f).bind fun t239 => (if t239 = true then (if (a0.size : Int) > 300 then (copperplatelaw07_FoldBlank.j0 k a0 a1 t239 true) else (if a1 < 0 then (copperplatelaw07_FoldBlank.j0 k a0 a1 t239 true) else (copperplatelaw07_FoldBlank.j0 k a0 a1 t239 (decide (a1 > 9))))) else (copperplatelaw07_FoldBlank.j0 k a0 a1 t239 true))) = some r := h
  clear h
  replace H := Option.bind_eq_some_iff.mp H
  obtain ⟨t239, A30, H⟩ := H
  replace H : (if t239 = true then (if (a0.size : Int) > 300 then (copperplatelaw07_FoldBlank.j0 k a0 a1 t239 true) else (if a1 < 0 then (copperplatelaw07_FoldBlank.j0 k a0 a1 t239 true) else (copperplatelaw07_FoldBlank.j0 k a0 a1 t239 (decide (a1 > 9))))) else (copperplatelaw07_FoldBlank.j0 k a0 a1 t239 true)) = some r := H
  have A3 := Aside0.mk A30
  clear A30
  have HC4 := Aside0.mk H
  clear H
  go_enter Tryd.func8, Tryd.ntmps8
  go_upto_region 2 with (first | ((with_reducible refine gate_callee (f := 10) rfl ?_); refine goesL_ (some 8) rfl rfl Tryd.func10 (by kernel_rfl) rfl #[] rfl (by (try simp only [List.map_toArray, List.map_cons, List.map_nil]); first | done | rfl | (simp only [List.length_drop, List.length_take]; rfl)) ?_; (with_reducible refine (copperplatelaw07_awake.calls  t239 _ A3.out).mono ?_); rintro e w5 ⟨rfl, hb⟩; refine ⟨_, rfl, ?_⟩; have n0_ := Aside0.mk (below_step (by repeat (first | (with_reducible first | exact HB.out | apply below_alloc | apply pw_below_drewN | apply below_drew1) | exact HB.out)) hb); clear HB; have HB := n0_; clear n0_; (try clear hb); (try clear hb2); (try clear hk); (try clear hi)))
  (try simp only [Act.put, List.setIfInBounds_toArray, List.set_cons_zero, List.set_cons_succ])
  go_cut [23] (fun v23 wc => ∃ (kq : Nat) (x23_3 : Bool), v23 = .bool x23_3 ∧ Aside0 (copperplatelaw07_FoldBlank.j0 kq a0 a1 t239 x23_3 = some r) ∧ Aside0 (kq ≤ k) ∧ Aside0 (Below w.heap.size w wc))
  case first =>
    have H := HC4.out
    clear HC4
    by_cases c6 : t239 = true
    · subst c6
      have H1 : (if (a0.size : Int) > 300 then (copperplatelaw07_FoldBlank.j0 k a0 a1 true true) else (if a1 < 0 then (copperplatelaw07_FoldBlank.j0 k a0 a1 true true) else (copperplatelaw07_FoldBlank.j0 k a0 a1 true (decide (a1 > 9))))) = some r := by rw [if_pos rfl] at H; exact H
      clear H
      have H := H1
      clear H1
      by_cases c7 : (a0.size : Int) > 300
      · rw [if_pos c7] at H
        have c7b0 : decide (300 < (a0.size : Int)) = true := decide_eq_true c7
        have c7b1 : decide (300 < a0.size) = true := decide_eq_true (by omega)
        clear c7
        (first | rw [c7b0] | (simp only [i64_w, i32_w]; rw [c7b0]) | skip)
        have H' := Aside0.mk H
        clear H
        go_wp2
        go_meet
        case rel => exact ⟨_, (true), (by first | rfl | (simp; done) | (simp [*]; done)), H', ⟨by first | omega | exact Nat.le_refl _⟩, ⟨by repeat (first | (with_reducible first | exact HB.out | apply below_alloc | apply pw_below_drewN | apply below_drew1) | exact HB.out)⟩⟩
      · rw [if_neg c7] at H
        have c7b0 : decide (300 < (a0.size : Int)) = false := decide_eq_false c7
        have c7b1 : decide (300 < a0.size) = false := decide_eq_false (by omega)
        clear c7
        (first | rw [c7b0] | (simp only [i64_w, i32_w]; rw [c7b0]) | skip)
        by_cases c8 : a1 < 0
        · rw [if_pos c8] at H
          have c8b0 : decide (a1 < 0) = true := decide_eq_true c8
          clear c8
          have H' := Aside0.mk H
          clear H
          go_wp2
          go_meet
          case rel => exact ⟨_, (true), (by first | rfl | (simp; done) | (simp [*]; done)), H', ⟨by first | omega | exact Nat.le_refl _⟩, ⟨by repeat (first | (with_reducible first | exact HB.out | apply below_alloc | apply pw_below_drewN | apply below_drew1) | exact HB.out)⟩⟩
        · rw [if_neg c8] at H
          have c8b0 : decide (a1 < 0) = false := decide_eq_false c8
          clear c8
          have H' := Aside0.mk H
          clear H
          go_wp2
          go_meet
          case rel => exact ⟨_, (decide (a1 > 9)), (by first | rfl | (simp; done) | (simp [*]; done)), H', ⟨by first | omega | exact Nat.le_refl _⟩, ⟨by repeat (first | (with_reducible first | exact HB.out | apply below_alloc | apply pw_below_drewN | apply below_drew1) | exact HB.out)⟩⟩
    · replace c6 := Bool.eq_false_iff.mpr c6
      subst c6
      have H1 : (copperplatelaw07_FoldBlank.j0 k a0 a1 false true) = some r := by rw [if_neg (show ¬ (false = true) by decide)] at H; exact H
      clear H
      have H := H1
      clear H1
      have H' := Aside0.mk H
      clear H
      go_wp2
      go_meet
      case rel => exact ⟨_, (true), (by first | rfl | (simp; done) | (simp [*]; done)), H', ⟨by first | omega | exact Nat.le_refl _⟩, ⟨by repeat (first | (with_reducible first | exact HB.out | apply below_alloc | apply pw_below_drewN | apply below_drew1) | exact HB.out)⟩⟩
  case rest =>
    clear HC4
    try clear c1
    try clear p2
    try clear c6
    try clear c7
    try clear c7b0
    try clear c7b1
    try clear c8
    try clear c8b0
    obtain ⟨kq, x23_3, rfl, HA, HJ3, HB⟩ := hcut
    cases kq with
    | zero => exact absurd HA.out (by simp [copperplatelaw07_FoldBlank.j0])
    | succ kj3 =>
      have H := HA.out
      clear HA
      simp only [copperplatelaw07_FoldBlank.j0] at H
      by_cases c9 : x23_3 = true
      · subst c9
        have H1 : (some t239) = some r := by rw [if_pos rfl] at H; exact H
        clear H
        have H := H1
        clear H1
        obtain rfl := Option.some.inj H
        go_wp2
        go_ret
        exact ⟨by first | rfl | (simp [errW_none, errW_some] <;> rfl) | (simp [*, errW_none, errW_some] <;> rfl), by repeat (first | (with_reducible first | exact HB.out | apply below_alloc | apply pw_below_drewN | apply below_drew1) | exact HB.out)⟩
      · replace c9 := Bool.eq_false_iff.mpr c9
        subst c9
        have H1 : (if 0 ≤ a1 then (if a1 ≤ 9 then (if 1 + a0.size ≤ 9223372036854775807 then ((fold_Fold.f ((⟨#[10]⟩ : ByteArray) ++ a0)).bind fun t240 => (if ((⟨#[32, 32, 32, 32, 32, 32, 32, 32, 32]⟩ : ByteArray).extract 0 (a1 : Int).toNat).size + 2 ≤ 9223372036854775807 then (if (((⟨#[32, 32, 32, 32, 32, 32, 32, 32, 32]⟩ : ByteArray).extract 0 (a1 : Int).toNat) ++ (⟨#[10, 10]⟩ : ByteArray)).size + a0.size ≤ 9223372036854775807 then ((fold_Fold.f ((((⟨#[32, 32, 32, 32, 32, 32, 32, 32, 32]⟩ : ByteArray).extract 0 (a1 : Int).toNat) ++ (⟨#[10, 10]⟩ : ByteArray)) ++ a0)).bind fun t241 => (if t241.toList = t240.toList then (if ((⟨#[10]⟩ : ByteArray) ++ a0).size + 1 ≤ 9223372036854775807 then (if (((⟨#[10]⟩ : ByteArray) ++ a0) ++ (⟨#[10]⟩ : ByteArray)).size + ((⟨#[32, 32, 32, 32, 32, 32, 32, 32, 32]⟩ : ByteArray).extract 0 (a1 : Int).toNat).size ≤ 9223372036854775807 then ((fold_Fold.f ((((⟨#[10]⟩ : ByteArray) ++ a0) ++ (⟨#[10]⟩ : ByteArray)) ++ ((⟨#[32, 32, 32, 32, 32, 32, 32, 32, 32]⟩ : ByteArray).extract 0 (a1 : Int).toNat))).bind fun t242 => (if t242.toList = t240.toList then (if 3 + a0.size ≤ 9223372036854775807 then ((fold_Fold.f ((⟨#[9, 13, 10]⟩ : ByteArray) ++ a0)).bind fun t243 => (if t243.toList = t240.toList then (some true) else (if (a0.size : Int) > 0 then (if 0 < (a0.size : Int) then (if (bt a0 0) = 10 then (some true) else (if 0 ≤ (wrap64 ((a0.size : Int) - 1)) then (if (wrap64 ((a0.size : Int) - 1)) < (a0.size : Int) then (some ((bt a0 (wrap64 ((a0.size : Int) - 1))) == 13)) else (none)) else (none))) else (none)) else (some false)))) else (none)) else (if (a0.size : Int) > 0 then (if 0 < (a0.size : Int) then (if (bt a0 0) = 10 then (some true) else (if 0 ≤ (wrap64 ((a0.size : Int) - 1)) then (if (wrap64 ((a0.size : Int) - 1)) < (a0.size : Int) then (some ((bt a0 (wrap64 ((a0.size : Int) - 1))) == 13)) else (none)) else (none))) else (none)) else (some false)))) else (none)) else (none)) else (if (a0.size : Int) > 0 then (if 0 < (a0.size : Int) then (if (bt a0 0) = 10 then (some true) else (if 0 ≤ (wrap64 ((a0.size : Int) - 1)) then (if (wrap64 ((a0.size : Int) - 1)) < (a0.size : Int) then (some ((bt a0 (wrap64 ((a0.size : Int) - 1))) == 13)) else (none)) else (none))) else (none)) else (some false)))) else (none)) else (none))) else (none)) else (none)) else (none)) = some r := by rw [if_neg (show ¬ (false = true) by decide)] at H; exact H
        clear H
        have H := H1
        clear H1
        by_cases c10 : 0 ≤ a1
        · rw [if_pos c10] at H
          have c10b0 := eq_true c10
          have c10b1 : decide (0 ≤ a1) = true := decide_eq_true c10
          clear c10
          by_cases c11 : a1 ≤ 9
          · rw [if_pos c11] at H
            have c11b0 := eq_true c11
            have c11b1 : decide (a1 ≤ 9) = true := decide_eq_true c11
            have zz_ : (9223372036854775807 < a1.toNat + 2) = False := eq_false (by omega)
            clear c11
            by_cases c12 : 1 + a0.size ≤ 9223372036854775807
            · rw [if_pos c12] at H
              have c12b0 := eq_true c12
              have c12b1 : decide (1 + a0.size ≤ 9223372036854775807) = true := decide_eq_true c12
              try have c12b2 : (9223372036854775807 < 1 + a0.size) = False := eq_false (Nat.not_lt.2 c12)
              replace H := Option.bind_eq_some_iff.mp H
              obtain ⟨t240, A130, H⟩ := H
              replace H : (if ((⟨#[32, 32, 32, 32, 32, 32, 32, 32, 32]⟩ : ByteArray).extract 0 (a1 : Int).toNat).size + 2 ≤ 9223372036854775807 then (if (((⟨#[32, 32, 32, 32, 32, 32, 32, 32, 32]⟩ : ByteArray).extract 0 (a1 : Int).toNat) ++ (⟨#[10, 10]⟩ : ByteArray)).size + a0.size ≤ 9223372036854775807 then ((fold_Fold.f ((((⟨#[32, 32, 32, 32, 32, 32, 32, 32, 32]⟩ : ByteArray).extract 0 (a1 : Int).toNat) ++ (⟨#[10, 10]⟩ : ByteArray)) ++ a0)).bind fun t241 => (if t241.toList = t240.toList then (if ((⟨#[10]⟩ : ByteArray) ++ a0).size + 1 ≤ 9223372036854775807 then (if (((⟨#[10]⟩ : ByteArray) ++ a0) ++ (⟨#[10]⟩ : ByteArray)).size + ((⟨#[32, 32, 32, 32, 32, 32, 32, 32, 32]⟩ : ByteArray).extract 0 (a1 : Int).toNat).size ≤ 9223372036854775807 then ((fold_Fold.f ((((⟨#[10]⟩ : ByteArray) ++ a0) ++ (⟨#[10]⟩ : ByteArray)) ++ ((⟨#[32, 32, 32, 32, 32, 32, 32, 32, 32]⟩ : ByteArray).extract 0 (a1 : Int).toNat))).bind fun t242 => (if t242.toList = t240.toList then (if 3 + a0.size ≤ 9223372036854775807 then ((fold_Fold.f ((⟨#[9, 13, 10]⟩ : ByteArray) ++ a0)).bind fun t243 => (if t243.toList = t240.toList then (some true) else (if (a0.size : Int) > 0 then (if 0 < (a0.size : Int) then (if (bt a0 0) = 10 then (some true) else (if 0 ≤ (wrap64 ((a0.size : Int) - 1)) then (if (wrap64 ((a0.size : Int) - 1)) < (a0.size : Int) then (some ((bt a0 (wrap64 ((a0.size : Int) - 1))) == 13)) else (none)) else (none))) else (none)) else (some false)))) else (none)) else (if (a0.size : Int) > 0 then (if 0 < (a0.size : Int) then (if (bt a0 0) = 10 then (some true) else (if 0 ≤ (wrap64 ((a0.size : Int) - 1)) then (if (wrap64 ((a0.size : Int) - 1)) < (a0.size : Int) then (some ((bt a0 (wrap64 ((a0.size : Int) - 1))) == 13)) else (none)) else (none))) else (none)) else (some false)))) else (none)) else (none)) else (if (a0.size : Int) > 0 then (if 0 < (a0.size : Int) then (if (bt a0 0) = 10 then (some true) else (if 0 ≤ (wrap64 ((a0.size : Int) - 1)) then (if (wrap64 ((a0.size : Int) - 1)) < (a0.size : Int) then (some ((bt a0 (wrap64 ((a0.size : Int) - 1))) == 13)) else (none)) else (none))) else (none)) else (some false)))) else (none)) else (none)) = some r := H
              have A13 := Aside0.mk A130
              clear A130
              by_cases c14 : ((⟨#[32, 32, 32, 32, 32, 32, 32, 32, 32]⟩ : ByteArray).extract 0 (a1 : Int).toNat).size + 2 ≤ 9223372036854775807
              · rw [if_pos c14] at H
                have c14b0 := eq_true c14
                have c14b1 : decide (((⟨#[32, 32, 32, 32, 32, 32, 32, 32, 32]⟩ : ByteArray).extract 0 (a1 : Int).toNat).size + 2 ≤ 9223372036854775807) = true := decide_eq_true c14
                try have c14b2 : (9223372036854775807 < ((⟨#[32, 32, 32, 32, 32, 32, 32, 32, 32]⟩ : ByteArray).extract 0 (a1 : Int).toNat).size + 2) = False := eq_false (Nat.not_lt.2 c14)
                by_cases c15 : (((⟨#[32, 32, 32, 32, 32, 32, 32, 32, 32]⟩ : ByteArray).extract 0 (a1 : Int).toNat) ++ (⟨#[10, 10]⟩ : ByteArray)).size + a0.size ≤ 9223372036854775807
                · rw [if_pos c15] at H
                  have c15b0 := eq_true c15
                  have c15b1 : decide ((((⟨#[32, 32, 32, 32, 32, 32, 32, 32, 32]⟩ : ByteArray).extract 0 (a1 : Int).toNat) ++ (⟨#[10, 10]⟩ : ByteArray)).size + a0.size ≤ 9223372036854775807) = true := decide_eq_true c15
                  try have c15b2 : (9223372036854775807 < (((⟨#[32, 32, 32, 32, 32, 32, 32, 32, 32]⟩ : ByteArray).extract 0 (a1 : Int).toNat) ++ (⟨#[10, 10]⟩ : ByteArray)).size + a0.size) = False := eq_false (Nat.not_lt.2 c15)
                  replace H := Option.bind_eq_some_iff.mp H
                  obtain ⟨t241, A160, H⟩ := H
                  replace H : (if t241.toList = t240.toList then (if ((⟨#[10]⟩ : ByteArray) ++ a0).size + 1 ≤ 9223372036854775807 then (if (((⟨#[10]⟩ : ByteArray) ++ a0) ++ (⟨#[10]⟩ : ByteArray)).size + ((⟨#[32, 32, 32, 32, 32, 32, 32, 32, 32]⟩ : ByteArray).extract 0 (a1 : Int).toNat).size ≤ 9223372036854775807 then ((fold_Fold.f ((((⟨#[10]⟩ : ByteArray) ++ a0) ++ (⟨#[10]⟩ : ByteArray)) ++ ((⟨#[32, 32, 32, 32, 32, 32, 32, 32, 32]⟩ : ByteArray).extract 0 (a1 : Int).toNat))).bind fun t242 => (if t242.toList = t240.toList then (if 3 + a0.size ≤ 9223372036854775807 then ((fold_Fold.f ((⟨#[9, 13, 10]⟩ : ByteArray) ++ a0)).bind fun t243 => (if t243.toList = t240.toList then (some true) else (if (a0.size : Int) > 0 then (if 0 < (a0.size : Int) then (if (bt a0 0) = 10 then (some true) else (if 0 ≤ (wrap64 ((a0.size : Int) - 1)) then (if (wrap64 ((a0.size : Int) - 1)) < (a0.size : Int) then (some ((bt a0 (wrap64 ((a0.size : Int) - 1))) == 13)) else (none)) else (none))) else (none)) else (some false)))) else (none)) else (if (a0.size : Int) > 0 then (if 0 < (a0.size : Int) then (if (bt a0 0) = 10 then (some true) else (if 0 ≤ (wrap64 ((a0.size : Int) - 1)) then (if (wrap64 ((a0.size : Int) - 1)) < (a0.size : Int) then (some ((bt a0 (wrap64 ((a0.size : Int) - 1))) == 13)) else (none)) else (none))) else (none)) else (some false)))) else (none)) else (none)) else (if (a0.size : Int) > 0 then (if 0 < (a0.size : Int) then (if (bt a0 0) = 10 then (some true) else (if 0 ≤ (wrap64 ((a0.size : Int) - 1)) then (if (wrap64 ((a0.size : Int) - 1)) < (a0.size : Int) then (some ((bt a0 (wrap64 ((a0.size : Int) - 1))) == 13)) else (none)) else (none))) else (none)) else (some false))) = some r := H
                  have A16 := Aside0.mk A160
                  clear A160
                  by_cases c17 : t241.toList = t240.toList
                  · rw [if_pos c17] at H
                    have c17b0 : (t241.toList == t240.toList) = true := beq_iff_eq.mpr c17
                    have c17b1 : (t241.toList != t240.toList) = false := bne_eq_false_iff_eq.mpr c17
                    clear c17
                    by_cases c18 : ((⟨#[10]⟩ : ByteArray) ++ a0).size + 1 ≤ 9223372036854775807
                    · rw [if_pos c18] at H
                      have c18b0 := eq_true c18
                      have c18b1 : decide (((⟨#[10]⟩ : ByteArray) ++ a0).size + 1 ≤ 9223372036854775807) = true := decide_eq_true c18
                      try have c18b2 : (9223372036854775807 < ((⟨#[10]⟩ : ByteArray) ++ a0).size + 1) = False := eq_false (Nat.not_lt.2 c18)
                      have zz2_ : (9223372036854775807 < 1 + a0.size + 1) = False := eq_false (by have h_ := c18; have e_ : (⟨#[10]⟩ : ByteArray).size = 1 := rfl; rw [ByteArray.size_append, e_] at h_; omega)
                      by_cases c19 : (((⟨#[10]⟩ : ByteArray) ++ a0) ++ (⟨#[10]⟩ : ByteArray)).size + ((⟨#[32, 32, 32, 32, 32, 32, 32, 32, 32]⟩ : ByteArray).extract 0 (a1 : Int).toNat).size ≤ 9223372036854775807
                      · rw [if_pos c19] at H
                        have c19b0 := eq_true c19
                        have c19b1 : decide ((((⟨#[10]⟩ : ByteArray) ++ a0) ++ (⟨#[10]⟩ : ByteArray)).size + ((⟨#[32, 32, 32, 32, 32, 32, 32, 32, 32]⟩ : ByteArray).extract 0 (a1 : Int).toNat).size ≤ 9223372036854775807) = true := decide_eq_true c19
                        try have c19b2 : (9223372036854775807 < (((⟨#[10]⟩ : ByteArray) ++ a0) ++ (⟨#[10]⟩ : ByteArray)).size + ((⟨#[32, 32, 32, 32, 32, 32, 32, 32, 32]⟩ : ByteArray).extract 0 (a1 : Int).toNat).size) = False := eq_false (Nat.not_lt.2 c19)
                        replace H := Option.bind_eq_some_iff.mp H
                        obtain ⟨t242, A200, H⟩ := H
                        replace H : (if t242.toList = t240.toList then (if 3 + a0.size ≤ 9223372036854775807 then ((fold_Fold.f ((⟨#[9, 13, 10]⟩ : ByteArray) ++ a0)).bind fun t243 => (if t243.toList = t240.toList then (some true) else (if (a0.size : Int) > 0 then (if 0 < (a0.size : Int) then (if (bt a0 0) = 10 then (some true) else (if 0 ≤ (wrap64 ((a0.size : Int) - 1)) then (if (wrap64 ((a0.size : Int) - 1)) < (a0.size : Int) then (some ((bt a0 (wrap64 ((a0.size : Int) - 1))) == 13)) else (none)) else (none))) else (none)) else (some false)))) else (none)) else (if (a0.size : Int) > 0 then (if 0 < (a0.size : Int) then (if (bt a0 0) = 10 then (some true) else (if 0 ≤ (wrap64 ((a0.size : Int) - 1)) then (if (wrap64 ((a0.size : Int) - 1)) < (a0.size : Int) then (some ((bt a0 (wrap64 ((a0.size : Int) - 1))) == 13)) else (none)) else (none))) else (none)) else (some false))) = some r := H
                        have A20 := Aside0.mk A200
                        clear A200
                        by_cases c21 : t242.toList = t240.toList
                        · rw [if_pos c21] at H
                          have c21b0 : (t242.toList == t240.toList) = true := beq_iff_eq.mpr c21
                          have c21b1 : (t242.toList != t240.toList) = false := bne_eq_false_iff_eq.mpr c21
                          clear c21
                          by_cases c22 : 3 + a0.size ≤ 9223372036854775807
                          · rw [if_pos c22] at H
                            have c22b0 := eq_true c22
                            have c22b1 : decide (3 + a0.size ≤ 9223372036854775807) = true := decide_eq_true c22
                            try have c22b2 : (9223372036854775807 < 3 + a0.size) = False := eq_false (Nat.not_lt.2 c22)
                            replace H := Option.bind_eq_some_iff.mp H
                            obtain ⟨t243, A230, H⟩ := H
                            replace H : (if t243.toList = t240.toList then (some true) else (if (a0.size : Int) > 0 then (if 0 < (a0.size : Int) then (if (bt a0 0) = 10 then (some true) else (if 0 ≤ (wrap64 ((a0.size : Int) - 1)) then (if (wrap64 ((a0.size : Int) - 1)) < (a0.size : Int) then (some ((bt a0 (wrap64 ((a0.size : Int) - 1))) == 13)) else (none)) else (none))) else (none)) else (some false))) = some r := H
                            have A23 := Aside0.mk A230
                            clear A230
                            by_cases c24 : t243.toList = t240.toList
                            · rw [if_pos c24] at H
                              have c24b0 : (t243.toList == t240.toList) = true := beq_iff_eq.mpr c24
                              have c24b1 : (t243.toList != t240.toList) = false := bne_eq_false_iff_eq.mpr c24
                              clear c24
                              obtain rfl := Option.some.inj H
                              go_wp2_with (first | ((with_reducible refine gate_callee (f := 18) rfl ?_); refine goesL_ (some 29) rfl rfl Tryd.func18 (by kernel_rfl) rfl #[.string ((⟨#[10]⟩ : ByteArray) ++ a0)] rfl (by (try simp only [List.map_toArray, List.map_cons, List.map_nil]); first | done | rfl | (simp only [List.length_drop, List.length_take]; rfl)) ?_; (with_reducible refine (fold_Fold.calls ((⟨#[10]⟩ : ByteArray) ++ a0) t240 _ A13.out).mono ?_); rintro e w25 ⟨rfl, hb⟩; refine ⟨_, rfl, ?_⟩; have n0_ := Aside0.mk (below_step (by repeat (first | (with_reducible first | exact HB.out | apply below_alloc | apply pw_below_drewN | apply below_drew1) | exact HB.out)) hb); clear HB; have HB := n0_; clear n0_; (try clear hb); (try clear hb2); (try clear hk); (try clear hi)) | ((with_reducible refine gate_callee (f := 18) rfl ?_); refine goesL_ (some 34) rfl rfl Tryd.func18 (by kernel_rfl) rfl #[.string ((((⟨#[32, 32, 32, 32, 32, 32, 32, 32, 32]⟩ : ByteArray).extract 0 (a1 : Int).toNat) ++ (⟨#[10, 10]⟩ : ByteArray)) ++ a0)] rfl (by (try simp only [List.map_toArray, List.map_cons, List.map_nil]); first | done | rfl | (simp only [List.length_drop, List.length_take]; rfl)) ?_; (with_reducible refine (fold_Fold.calls ((((⟨#[32, 32, 32, 32, 32, 32, 32, 32, 32]⟩ : ByteArray).extract 0 (a1 : Int).toNat) ++ (⟨#[10, 10]⟩ : ByteArray)) ++ a0) t241 _ A16.out).mono ?_); rintro e w26 ⟨rfl, hb⟩; refine ⟨_, rfl, ?_⟩; have n0_ := Aside0.mk (below_step (by repeat (first | (with_reducible first | exact HB.out | apply below_alloc | apply pw_below_drewN | apply below_drew1) | exact HB.out)) hb); clear HB; have HB := n0_; clear n0_; (try clear hb); (try clear hb2); (try clear hk); (try clear hi)) | (go_at_call 18; (with_reducible refine (fold_Fold.calls ((((⟨#[10]⟩ : ByteArray) ++ a0) ++ (⟨#[10]⟩ : ByteArray)) ++ ((⟨#[32, 32, 32, 32, 32, 32, 32, 32, 32]⟩ : ByteArray).extract 0 (a1 : Int).toNat)) t242 _ A20.out).mono ?_); rintro e w27 ⟨rfl, hb⟩; have n0_ := Aside0.mk (below_step (by repeat (first | (with_reducible first | exact HB.out | apply below_alloc | apply pw_below_drewN | apply below_drew1) | exact HB.out)) hb); clear HB; have HB := n0_; clear n0_; (try clear hb); (try clear hb2); (try clear hk); (try clear hi)) | (go_at_call 18; (with_reducible refine (fold_Fold.calls ((⟨#[9, 13, 10]⟩ : ByteArray) ++ a0) t243 _ A23.out).mono ?_); rintro e w28 ⟨rfl, hb⟩; have n0_ := Aside0.mk (below_step (by repeat (first | (with_reducible first | exact HB.out | apply below_alloc | apply pw_below_drewN | apply below_drew1) | exact HB.out)) hb); clear HB; have HB := n0_; clear n0_; (try clear hb); (try clear hb2); (try clear hk); (try clear hi)))
                              go_ret
                              exact ⟨by first | rfl | (simp [errW_none, errW_some] <;> rfl) | (simp [*, errW_none, errW_some] <;> rfl), by repeat (first | (with_reducible first | exact HB.out | apply below_alloc | apply pw_below_drewN | apply below_drew1) | exact HB.out)⟩
                            · rw [if_neg c24] at H
                              have c24b0 : (t243.toList == t240.toList) = false := beq_eq_false_iff_ne.mpr c24
                              have c24b1 : (t243.toList != t240.toList) = true := bne_iff_ne.mpr c24
                              by_cases c29 : (a0.size : Int) > 0
                              · rw [if_pos c29] at H
                                have c29b0 : decide (0 < (a0.size : Int)) = true := decide_eq_true c29
                                have c29b1 : decide (0 < a0.size) = true := decide_eq_true (by omega)
                                clear c29
                                by_cases c30 : 0 < (a0.size : Int)
                                · rw [if_pos c30] at H
                                  have c30b0 : decide (0 < (a0.size : Int)) = true := decide_eq_true c30
                                  have c30b1 : decide (0 < a0.size) = true := decide_eq_true (by omega)
                                  clear c30
                                  by_cases c32 : (bt a0 0) = 10
                                  · rw [if_pos c32] at H
                                    have c32b0 : ((bt a0 0) == 10) = true := beq_iff_eq.mpr c32
                                    have c32b1 : ((bt a0 0) != 10) = false := bne_eq_false_iff_eq.mpr c32
                                    clear c32
                                    obtain rfl := Option.some.inj H
                                    go_wp2_with (first | ((with_reducible refine gate_callee (f := 18) rfl ?_); refine goesL_ (some 29) rfl rfl Tryd.func18 (by kernel_rfl) rfl #[.string ((⟨#[10]⟩ : ByteArray) ++ a0)] rfl (by (try simp only [List.map_toArray, List.map_cons, List.map_nil]); first | done | rfl | (simp only [List.length_drop, List.length_take]; rfl)) ?_; (with_reducible refine (fold_Fold.calls ((⟨#[10]⟩ : ByteArray) ++ a0) t240 _ A13.out).mono ?_); rintro e w33 ⟨rfl, hb⟩; refine ⟨_, rfl, ?_⟩; have n0_ := Aside0.mk (below_step (by repeat (first | (with_reducible first | exact HB.out | apply below_alloc | apply pw_below_drewN | apply below_drew1) | exact HB.out)) hb); clear HB; have HB := n0_; clear n0_; (try clear hb); (try clear hb2); (try clear hk); (try clear hi)) | ((with_reducible refine gate_callee (f := 18) rfl ?_); refine goesL_ (some 34) rfl rfl Tryd.func18 (by kernel_rfl) rfl #[.string ((((⟨#[32, 32, 32, 32, 32, 32, 32, 32, 32]⟩ : ByteArray).extract 0 (a1 : Int).toNat) ++ (⟨#[10, 10]⟩ : ByteArray)) ++ a0)] rfl (by (try simp only [List.map_toArray, List.map_cons, List.map_nil]); first | done | rfl | (simp only [List.length_drop, List.length_take]; rfl)) ?_; (with_reducible refine (fold_Fold.calls ((((⟨#[32, 32, 32, 32, 32, 32, 32, 32, 32]⟩ : ByteArray).extract 0 (a1 : Int).toNat) ++ (⟨#[10, 10]⟩ : ByteArray)) ++ a0) t241 _ A16.out).mono ?_); rintro e w34 ⟨rfl, hb⟩; refine ⟨_, rfl, ?_⟩; have n0_ := Aside0.mk (below_step (by repeat (first | (with_reducible first | exact HB.out | apply below_alloc | apply pw_below_drewN | apply below_drew1) | exact HB.out)) hb); clear HB; have HB := n0_; clear n0_; (try clear hb); (try clear hb2); (try clear hk); (try clear hi)) | (go_at_call 18; (with_reducible refine (fold_Fold.calls ((((⟨#[10]⟩ : ByteArray) ++ a0) ++ (⟨#[10]⟩ : ByteArray)) ++ ((⟨#[32, 32, 32, 32, 32, 32, 32, 32, 32]⟩ : ByteArray).extract 0 (a1 : Int).toNat)) t242 _ A20.out).mono ?_); rintro e w35 ⟨rfl, hb⟩; have n0_ := Aside0.mk (below_step (by repeat (first | (with_reducible first | exact HB.out | apply below_alloc | apply pw_below_drewN | apply below_drew1) | exact HB.out)) hb); clear HB; have HB := n0_; clear n0_; (try clear hb); (try clear hb2); (try clear hk); (try clear hi)) | (go_at_call 18; (with_reducible refine (fold_Fold.calls ((⟨#[9, 13, 10]⟩ : ByteArray) ++ a0) t243 _ A23.out).mono ?_); rintro e w36 ⟨rfl, hb⟩; have n0_ := Aside0.mk (below_step (by repeat (first | (with_reducible first | exact HB.out | apply below_alloc | apply pw_below_drewN | apply below_drew1) | exact HB.out)) hb); clear HB; have HB := n0_; clear n0_; (try clear hb); (try clear hb2); (try clear hk); (try clear hi); have p31 : 0 ≤ (0 : Int) := (by omega); have q31 : 0 < a0.size := (by have : (0 : Int) < (a0.size : Int) := of_decide_eq_true (by first | (with_reducible assumption) | assumption); omega); have hx31 : ∀ h : 0 < a0.size, ((a0[0]'h).toNat : Int) = bt a0 0 := bt_at a0 0; clear p31; have qi31 : (0 < (a0.size : Int)) = True := eq_true (of_decide_eq_true (by first | (with_reducible assumption) | assumption)); replace q31 := eq_true q31))
                                    go_ret
                                    exact ⟨by first | rfl | (simp [errW_none, errW_some] <;> rfl) | (simp [*, errW_none, errW_some] <;> rfl), by repeat (first | (with_reducible first | exact HB.out | apply below_alloc | apply pw_below_drewN | apply below_drew1) | exact HB.out)⟩
                                  · rw [if_neg c32] at H
                                    have c32b0 : ((bt a0 0) == 10) = false := beq_eq_false_iff_ne.mpr c32
                                    have c32b1 : ((bt a0 0) != 10) = true := bne_iff_ne.mpr c32
                                    obtain ⟨ji37, hji37⟩ : ∃ j_ : Int, (wrap64 ((a0.size : Int) - 1)) = j_ := ⟨_, rfl⟩
                                    replace H : (if 0 ≤ (ji37) then (if (ji37) < (a0.size : Int) then (some ((bt a0 (ji37)) == 13)) else (none)) else (none)) = some r := by first | (rw [hji37] at H; exact H) | (simp only [hji37] at H ⊢; exact H)
                                    (try rw [hji37] at A13)
                                    (try rw [hji37] at A16)
                                    (try rw [hji37] at A20)
                                    (try rw [hji37] at A23)
                                    have hji37w : (IntKind.i64.wrap ((a0.size : Int) - 1)) = ji37 := (i64_w _).trans hji37
                                    by_cases c38 : 0 ≤ (ji37)
                                    · rw [if_pos c38] at H
                                      have c38b0 : decide (0 ≤ (ji37)) = true := decide_eq_true c38
                                      clear c38
                                      by_cases c39 : (ji37) < (a0.size : Int)
                                      · rw [if_pos c39] at H
                                        have c39b0 : decide ((ji37) < (a0.size : Int)) = true := decide_eq_true c39
                                        clear c39
                                        obtain rfl := Option.some.inj H
                                        go_wp2_with (first | ((with_reducible refine gate_callee (f := 18) rfl ?_); refine goesL_ (some 29) rfl rfl Tryd.func18 (by kernel_rfl) rfl #[.string ((⟨#[10]⟩ : ByteArray) ++ a0)] rfl (by (try simp only [List.map_toArray, List.map_cons, List.map_nil]); first | done | rfl | (simp only [List.length_drop, List.length_take]; rfl)) ?_; (with_reducible refine (fold_Fold.calls ((⟨#[10]⟩ : ByteArray) ++ a0) t240 _ A13.out).mono ?_); rintro e w41 ⟨rfl, hb⟩; refine ⟨_, rfl, ?_⟩; have n0_ := Aside0.mk (below_step (by repeat (first | (with_reducible first | exact HB.out | apply below_alloc | apply pw_below_drewN | apply below_drew1) | exact HB.out)) hb); clear HB; have HB := n0_; clear n0_; (try clear hb); (try clear hb2); (try clear hk); (try clear hi)) | ((with_reducible refine gate_callee (f := 18) rfl ?_); refine goesL_ (some 34) rfl rfl Tryd.func18 (by kernel_rfl) rfl #[.string ((((⟨#[32, 32, 32, 32, 32, 32, 32, 32, 32]⟩ : ByteArray).extract 0 (a1 : Int).toNat) ++ (⟨#[10, 10]⟩ : ByteArray)) ++ a0)] rfl (by (try simp only [List.map_toArray, List.map_cons, List.map_nil]); first | done | rfl | (simp only [List.length_drop, List.length_take]; rfl)) ?_; (with_reducible refine (fold_Fold.calls ((((⟨#[32, 32, 32, 32, 32, 32, 32, 32, 32]⟩ : ByteArray).extract 0 (a1 : Int).toNat) ++ (⟨#[10, 10]⟩ : ByteArray)) ++ a0) t241 _ A16.out).mono ?_); rintro e w42 ⟨rfl, hb⟩; refine ⟨_, rfl, ?_⟩; have n0_ := Aside0.mk (below_step (by repeat (first | (with_reducible first | exact HB.out | apply below_alloc | apply pw_below_drewN | apply below_drew1) | exact HB.out)) hb); clear HB; have HB := n0_; clear n0_; (try clear hb); (try clear hb2); (try clear hk); (try clear hi)) | (go_at_call 18; (with_reducible refine (fold_Fold.calls ((((⟨#[10]⟩ : ByteArray) ++ a0) ++ (⟨#[10]⟩ : ByteArray)) ++ ((⟨#[32, 32, 32, 32, 32, 32, 32, 32, 32]⟩ : ByteArray).extract 0 (a1 : Int).toNat)) t242 _ A20.out).mono ?_); rintro e w43 ⟨rfl, hb⟩; have n0_ := Aside0.mk (below_step (by repeat (first | (with_reducible first | exact HB.out | apply below_alloc | apply pw_below_drewN | apply below_drew1) | exact HB.out)) hb); clear HB; have HB := n0_; clear n0_; (try clear hb); (try clear hb2); (try clear hk); (try clear hi)) | (go_at_call 18; (with_reducible refine (fold_Fold.calls ((⟨#[9, 13, 10]⟩ : ByteArray) ++ a0) t243 _ A23.out).mono ?_); rintro e w44 ⟨rfl, hb⟩; have n0_ := Aside0.mk (below_step (by repeat (first | (with_reducible first | exact HB.out | apply below_alloc | apply pw_below_drewN | apply below_drew1) | exact HB.out)) hb); clear HB; have HB := n0_; clear n0_; (try clear hb); (try clear hb2); (try clear hk); (try clear hi); have p31 : 0 ≤ (0 : Int) := (by omega); have q31 : 0 < a0.size := (by have : (0 : Int) < (a0.size : Int) := of_decide_eq_true (by first | (with_reducible assumption) | assumption); omega); have hx31 : ∀ h : 0 < a0.size, ((a0[0]'h).toNat : Int) = bt a0 0 := bt_at a0 0; clear p31; have qi31 : (0 < (a0.size : Int)) = True := eq_true (of_decide_eq_true (by first | (with_reducible assumption) | assumption)); replace q31 := eq_true q31; have p40 : 0 ≤ ((ji37) : Int) := of_decide_eq_true (by first | (with_reducible assumption) | assumption); have q40 : (ji37) < (a0.size : Int) := of_decide_eq_true (by first | (with_reducible assumption) | assumption); have hx40 := bt_at a0 (ji37); replace p40 := eq_true p40; replace q40 := eq_true q40))
                                        go_ret
                                        exact ⟨by first | rfl | (simp [errW_none, errW_some] <;> rfl) | (simp only [← hji37]; first | rfl | (simp [errW_none, errW_some] <;> rfl)) | (simp [*, errW_none, errW_some] <;> rfl), by repeat (first | (with_reducible first | exact HB.out | apply below_alloc | apply pw_below_drewN | apply below_drew1) | exact HB.out)⟩
                                      · rw [if_neg c39] at H
                                        exact absurd H (by simp)
                                    · rw [if_neg c38] at H
                                      exact absurd H (by simp)
                                · rw [if_neg c30] at H
                                  exact absurd H (by simp)
                              · rw [if_neg c29] at H
                                have c29b0 : decide (0 < (a0.size : Int)) = false := decide_eq_false c29
                                have c29b1 : decide (0 < a0.size) = false := decide_eq_false (by omega)
                                clear c29
                                obtain rfl := Option.some.inj H
                                go_wp2_with (first | ((with_reducible refine gate_callee (f := 18) rfl ?_); refine goesL_ (some 29) rfl rfl Tryd.func18 (by kernel_rfl) rfl #[.string ((⟨#[10]⟩ : ByteArray) ++ a0)] rfl (by (try simp only [List.map_toArray, List.map_cons, List.map_nil]); first | done | rfl | (simp only [List.length_drop, List.length_take]; rfl)) ?_; (with_reducible refine (fold_Fold.calls ((⟨#[10]⟩ : ByteArray) ++ a0) t240 _ A13.out).mono ?_); rintro e w45 ⟨rfl, hb⟩; refine ⟨_, rfl, ?_⟩; have n0_ := Aside0.mk (below_step (by repeat (first | (with_reducible first | exact HB.out | apply below_alloc | apply pw_below_drewN | apply below_drew1) | exact HB.out)) hb); clear HB; have HB := n0_; clear n0_; (try clear hb); (try clear hb2); (try clear hk); (try clear hi)) | ((with_reducible refine gate_callee (f := 18) rfl ?_); refine goesL_ (some 34) rfl rfl Tryd.func18 (by kernel_rfl) rfl #[.string ((((⟨#[32, 32, 32, 32, 32, 32, 32, 32, 32]⟩ : ByteArray).extract 0 (a1 : Int).toNat) ++ (⟨#[10, 10]⟩ : ByteArray)) ++ a0)] rfl (by (try simp only [List.map_toArray, List.map_cons, List.map_nil]); first | done | rfl | (simp only [List.length_drop, List.length_take]; rfl)) ?_; (with_reducible refine (fold_Fold.calls ((((⟨#[32, 32, 32, 32, 32, 32, 32, 32, 32]⟩ : ByteArray).extract 0 (a1 : Int).toNat) ++ (⟨#[10, 10]⟩ : ByteArray)) ++ a0) t241 _ A16.out).mono ?_); rintro e w46 ⟨rfl, hb⟩; refine ⟨_, rfl, ?_⟩; have n0_ := Aside0.mk (below_step (by repeat (first | (with_reducible first | exact HB.out | apply below_alloc | apply pw_below_drewN | apply below_drew1) | exact HB.out)) hb); clear HB; have HB := n0_; clear n0_; (try clear hb); (try clear hb2); (try clear hk); (try clear hi)) | (go_at_call 18; (with_reducible refine (fold_Fold.calls ((((⟨#[10]⟩ : ByteArray) ++ a0) ++ (⟨#[10]⟩ : ByteArray)) ++ ((⟨#[32, 32, 32, 32, 32, 32, 32, 32, 32]⟩ : ByteArray).extract 0 (a1 : Int).toNat)) t242 _ A20.out).mono ?_); rintro e w47 ⟨rfl, hb⟩; have n0_ := Aside0.mk (below_step (by repeat (first | (with_reducible first | exact HB.out | apply below_alloc | apply pw_below_drewN | apply below_drew1) | exact HB.out)) hb); clear HB; have HB := n0_; clear n0_; (try clear hb); (try clear hb2); (try clear hk); (try clear hi)) | (go_at_call 18; (with_reducible refine (fold_Fold.calls ((⟨#[9, 13, 10]⟩ : ByteArray) ++ a0) t243 _ A23.out).mono ?_); rintro e w48 ⟨rfl, hb⟩; have n0_ := Aside0.mk (below_step (by repeat (first | (with_reducible first | exact HB.out | apply below_alloc | apply pw_below_drewN | apply below_drew1) | exact HB.out)) hb); clear HB; have HB := n0_; clear n0_; (try clear hb); (try clear hb2); (try clear hk); (try clear hi)))
                                go_ret
                                exact ⟨by first | rfl | (simp [errW_none, errW_some] <;> rfl) | (simp [*, errW_none, errW_some] <;> rfl), by repeat (first | (with_reducible first | exact HB.out | apply below_alloc | apply pw_below_drewN | apply below_drew1) | exact HB.out)⟩
                          · rw [if_neg c22] at H
                            exact absurd H (by simp)
                        · rw [if_neg c21] at H
                          have c21b0 : (t242.toList == t240.toList) = false := beq_eq_false_iff_ne.mpr c21
                          have c21b1 : (t242.toList != t240.toList) = true := bne_iff_ne.mpr c21
                          by_cases c49 : (a0.size : Int) > 0
                          · rw [if_pos c49] at H
                            have c49b0 : decide (0 < (a0.size : Int)) = true := decide_eq_true c49
                            have c49b1 : decide (0 < a0.size) = true := decide_eq_true (by omega)
                            clear c49
                            by_cases c50 : 0 < (a0.size : Int)
                            · rw [if_pos c50] at H
                              have c50b0 : decide (0 < (a0.size : Int)) = true := decide_eq_true c50
                              have c50b1 : decide (0 < a0.size) = true := decide_eq_true (by omega)
                              clear c50
                              by_cases c52 : (bt a0 0) = 10
                              · rw [if_pos c52] at H
                                have c52b0 : ((bt a0 0) == 10) = true := beq_iff_eq.mpr c52
                                have c52b1 : ((bt a0 0) != 10) = false := bne_eq_false_iff_eq.mpr c52
                                clear c52
                                obtain rfl := Option.some.inj H
                                go_wp2_with (first | ((with_reducible refine gate_callee (f := 18) rfl ?_); refine goesL_ (some 29) rfl rfl Tryd.func18 (by kernel_rfl) rfl #[.string ((⟨#[10]⟩ : ByteArray) ++ a0)] rfl (by (try simp only [List.map_toArray, List.map_cons, List.map_nil]); first | done | rfl | (simp only [List.length_drop, List.length_take]; rfl)) ?_; (with_reducible refine (fold_Fold.calls ((⟨#[10]⟩ : ByteArray) ++ a0) t240 _ A13.out).mono ?_); rintro e w53 ⟨rfl, hb⟩; refine ⟨_, rfl, ?_⟩; have n0_ := Aside0.mk (below_step (by repeat (first | (with_reducible first | exact HB.out | apply below_alloc | apply pw_below_drewN | apply below_drew1) | exact HB.out)) hb); clear HB; have HB := n0_; clear n0_; (try clear hb); (try clear hb2); (try clear hk); (try clear hi)) | ((with_reducible refine gate_callee (f := 18) rfl ?_); refine goesL_ (some 34) rfl rfl Tryd.func18 (by kernel_rfl) rfl #[.string ((((⟨#[32, 32, 32, 32, 32, 32, 32, 32, 32]⟩ : ByteArray).extract 0 (a1 : Int).toNat) ++ (⟨#[10, 10]⟩ : ByteArray)) ++ a0)] rfl (by (try simp only [List.map_toArray, List.map_cons, List.map_nil]); first | done | rfl | (simp only [List.length_drop, List.length_take]; rfl)) ?_; (with_reducible refine (fold_Fold.calls ((((⟨#[32, 32, 32, 32, 32, 32, 32, 32, 32]⟩ : ByteArray).extract 0 (a1 : Int).toNat) ++ (⟨#[10, 10]⟩ : ByteArray)) ++ a0) t241 _ A16.out).mono ?_); rintro e w54 ⟨rfl, hb⟩; refine ⟨_, rfl, ?_⟩; have n0_ := Aside0.mk (below_step (by repeat (first | (with_reducible first | exact HB.out | apply below_alloc | apply pw_below_drewN | apply below_drew1) | exact HB.out)) hb); clear HB; have HB := n0_; clear n0_; (try clear hb); (try clear hb2); (try clear hk); (try clear hi)) | (go_at_call 18; (with_reducible refine (fold_Fold.calls ((((⟨#[10]⟩ : ByteArray) ++ a0) ++ (⟨#[10]⟩ : ByteArray)) ++ ((⟨#[32, 32, 32, 32, 32, 32, 32, 32, 32]⟩ : ByteArray).extract 0 (a1 : Int).toNat)) t242 _ A20.out).mono ?_); rintro e w55 ⟨rfl, hb⟩; have n0_ := Aside0.mk (below_step (by repeat (first | (with_reducible first | exact HB.out | apply below_alloc | apply pw_below_drewN | apply below_drew1) | exact HB.out)) hb); clear HB; have HB := n0_; clear n0_; (try clear hb); (try clear hb2); (try clear hk); (try clear hi); have p51 : 0 ≤ (0 : Int) := (by omega); have q51 : 0 < a0.size := (by have : (0 : Int) < (a0.size : Int) := of_decide_eq_true (by first | (with_reducible assumption) | assumption); omega); have hx51 : ∀ h : 0 < a0.size, ((a0[0]'h).toNat : Int) = bt a0 0 := bt_at a0 0; clear p51; have qi51 : (0 < (a0.size : Int)) = True := eq_true (of_decide_eq_true (by first | (with_reducible assumption) | assumption)); replace q51 := eq_true q51))
                                go_ret
                                exact ⟨by first | rfl | (simp [errW_none, errW_some] <;> rfl) | (simp [*, errW_none, errW_some] <;> rfl), by repeat (first | (with_reducible first | exact HB.out | apply below_alloc | apply pw_below_drewN | apply below_drew1) | exact HB.out)⟩
                              · rw [if_neg c52] at H
                                have c52b0 : ((bt a0 0) == 10) = false := beq_eq_false_iff_ne.mpr c52
                                have c52b1 : ((bt a0 0) != 10) = true := bne_iff_ne.mpr c52
                                obtain ⟨ji56, hji56⟩ : ∃ j_ : Int, (wrap64 ((a0.size : Int) - 1)) = j_ := ⟨_, rfl⟩
                                replace H : (if 0 ≤ (ji56) then (if (ji56) < (a0.size : Int) then (some ((bt a0 (ji56)) == 13)) else (none)) else (none)) = some r := by first | (rw [hji56] at H; exact H) | (simp only [hji56] at H ⊢; exact H)
                                (try rw [hji56] at A13)
                                (try rw [hji56] at A16)
                                (try rw [hji56] at A20)
                                have hji56w : (IntKind.i64.wrap ((a0.size : Int) - 1)) = ji56 := (i64_w _).trans hji56
                                by_cases c57 : 0 ≤ (ji56)
                                · rw [if_pos c57] at H
                                  have c57b0 : decide (0 ≤ (ji56)) = true := decide_eq_true c57
                                  clear c57
                                  by_cases c58 : (ji56) < (a0.size : Int)
                                  · rw [if_pos c58] at H
                                    have c58b0 : decide ((ji56) < (a0.size : Int)) = true := decide_eq_true c58
                                    clear c58
                                    obtain rfl := Option.some.inj H
                                    go_wp2_with (first | ((with_reducible refine gate_callee (f := 18) rfl ?_); refine goesL_ (some 29) rfl rfl Tryd.func18 (by kernel_rfl) rfl #[.string ((⟨#[10]⟩ : ByteArray) ++ a0)] rfl (by (try simp only [List.map_toArray, List.map_cons, List.map_nil]); first | done | rfl | (simp only [List.length_drop, List.length_take]; rfl)) ?_; (with_reducible refine (fold_Fold.calls ((⟨#[10]⟩ : ByteArray) ++ a0) t240 _ A13.out).mono ?_); rintro e w60 ⟨rfl, hb⟩; refine ⟨_, rfl, ?_⟩; have n0_ := Aside0.mk (below_step (by repeat (first | (with_reducible first | exact HB.out | apply below_alloc | apply pw_below_drewN | apply below_drew1) | exact HB.out)) hb); clear HB; have HB := n0_; clear n0_; (try clear hb); (try clear hb2); (try clear hk); (try clear hi)) | ((with_reducible refine gate_callee (f := 18) rfl ?_); refine goesL_ (some 34) rfl rfl Tryd.func18 (by kernel_rfl) rfl #[.string ((((⟨#[32, 32, 32, 32, 32, 32, 32, 32, 32]⟩ : ByteArray).extract 0 (a1 : Int).toNat) ++ (⟨#[10, 10]⟩ : ByteArray)) ++ a0)] rfl (by (try simp only [List.map_toArray, List.map_cons, List.map_nil]); first | done | rfl | (simp only [List.length_drop, List.length_take]; rfl)) ?_; (with_reducible refine (fold_Fold.calls ((((⟨#[32, 32, 32, 32, 32, 32, 32, 32, 32]⟩ : ByteArray).extract 0 (a1 : Int).toNat) ++ (⟨#[10, 10]⟩ : ByteArray)) ++ a0) t241 _ A16.out).mono ?_); rintro e w61 ⟨rfl, hb⟩; refine ⟨_, rfl, ?_⟩; have n0_ := Aside0.mk (below_step (by repeat (first | (with_reducible first | exact HB.out | apply below_alloc | apply pw_below_drewN | apply below_drew1) | exact HB.out)) hb); clear HB; have HB := n0_; clear n0_; (try clear hb); (try clear hb2); (try clear hk); (try clear hi)) | (go_at_call 18; (with_reducible refine (fold_Fold.calls ((((⟨#[10]⟩ : ByteArray) ++ a0) ++ (⟨#[10]⟩ : ByteArray)) ++ ((⟨#[32, 32, 32, 32, 32, 32, 32, 32, 32]⟩ : ByteArray).extract 0 (a1 : Int).toNat)) t242 _ A20.out).mono ?_); rintro e w62 ⟨rfl, hb⟩; have n0_ := Aside0.mk (below_step (by repeat (first | (with_reducible first | exact HB.out | apply below_alloc | apply pw_below_drewN | apply below_drew1) | exact HB.out)) hb); clear HB; have HB := n0_; clear n0_; (try clear hb); (try clear hb2); (try clear hk); (try clear hi); have p51 : 0 ≤ (0 : Int) := (by omega); have q51 : 0 < a0.size := (by have : (0 : Int) < (a0.size : Int) := of_decide_eq_true (by first | (with_reducible assumption) | assumption); omega); have hx51 : ∀ h : 0 < a0.size, ((a0[0]'h).toNat : Int) = bt a0 0 := bt_at a0 0; clear p51; have qi51 : (0 < (a0.size : Int)) = True := eq_true (of_decide_eq_true (by first | (with_reducible assumption) | assumption)); replace q51 := eq_true q51; have p59 : 0 ≤ ((ji56) : Int) := of_decide_eq_true (by first | (with_reducible assumption) | assumption); have q59 : (ji56) < (a0.size : Int) := of_decide_eq_true (by first | (with_reducible assumption) | assumption); have hx59 := bt_at a0 (ji56); replace p59 := eq_true p59; replace q59 := eq_true q59))
                                    go_ret
                                    exact ⟨by first | rfl | (simp [errW_none, errW_some] <;> rfl) | (simp only [← hji56]; first | rfl | (simp [errW_none, errW_some] <;> rfl)) | (simp [*, errW_none, errW_some] <;> rfl), by repeat (first | (with_reducible first | exact HB.out | apply below_alloc | apply pw_below_drewN | apply below_drew1) | exact HB.out)⟩
                                  · rw [if_neg c58] at H
                                    exact absurd H (by simp)
                                · rw [if_neg c57] at H
                                  exact absurd H (by simp)
                            · rw [if_neg c50] at H
                              exact absurd H (by simp)
                          · rw [if_neg c49] at H
                            have c49b0 : decide (0 < (a0.size : Int)) = false := decide_eq_false c49
                            have c49b1 : decide (0 < a0.size) = false := decide_eq_false (by omega)
                            clear c49
                            obtain rfl := Option.some.inj H
                            go_wp2_with (first | ((with_reducible refine gate_callee (f := 18) rfl ?_); refine goesL_ (some 29) rfl rfl Tryd.func18 (by kernel_rfl) rfl #[.string ((⟨#[10]⟩ : ByteArray) ++ a0)] rfl (by (try simp only [List.map_toArray, List.map_cons, List.map_nil]); first | done | rfl | (simp only [List.length_drop, List.length_take]; rfl)) ?_; (with_reducible refine (fold_Fold.calls ((⟨#[10]⟩ : ByteArray) ++ a0) t240 _ A13.out).mono ?_); rintro e w63 ⟨rfl, hb⟩; refine ⟨_, rfl, ?_⟩; have n0_ := Aside0.mk (below_step (by repeat (first | (with_reducible first | exact HB.out | apply below_alloc | apply pw_below_drewN | apply below_drew1) | exact HB.out)) hb); clear HB; have HB := n0_; clear n0_; (try clear hb); (try clear hb2); (try clear hk); (try clear hi)) | ((with_reducible refine gate_callee (f := 18) rfl ?_); refine goesL_ (some 34) rfl rfl Tryd.func18 (by kernel_rfl) rfl #[.string ((((⟨#[32, 32, 32, 32, 32, 32, 32, 32, 32]⟩ : ByteArray).extract 0 (a1 : Int).toNat) ++ (⟨#[10, 10]⟩ : ByteArray)) ++ a0)] rfl (by (try simp only [List.map_toArray, List.map_cons, List.map_nil]); first | done | rfl | (simp only [List.length_drop, List.length_take]; rfl)) ?_; (with_reducible refine (fold_Fold.calls ((((⟨#[32, 32, 32, 32, 32, 32, 32, 32, 32]⟩ : ByteArray).extract 0 (a1 : Int).toNat) ++ (⟨#[10, 10]⟩ : ByteArray)) ++ a0) t241 _ A16.out).mono ?_); rintro e w64 ⟨rfl, hb⟩; refine ⟨_, rfl, ?_⟩; have n0_ := Aside0.mk (below_step (by repeat (first | (with_reducible first | exact HB.out | apply below_alloc | apply pw_below_drewN | apply below_drew1) | exact HB.out)) hb); clear HB; have HB := n0_; clear n0_; (try clear hb); (try clear hb2); (try clear hk); (try clear hi)) | (go_at_call 18; (with_reducible refine (fold_Fold.calls ((((⟨#[10]⟩ : ByteArray) ++ a0) ++ (⟨#[10]⟩ : ByteArray)) ++ ((⟨#[32, 32, 32, 32, 32, 32, 32, 32, 32]⟩ : ByteArray).extract 0 (a1 : Int).toNat)) t242 _ A20.out).mono ?_); rintro e w65 ⟨rfl, hb⟩; have n0_ := Aside0.mk (below_step (by repeat (first | (with_reducible first | exact HB.out | apply below_alloc | apply pw_below_drewN | apply below_drew1) | exact HB.out)) hb); clear HB; have HB := n0_; clear n0_; (try clear hb); (try clear hb2); (try clear hk); (try clear hi)))
                            go_ret
                            exact ⟨by first | rfl | (simp [errW_none, errW_some] <;> rfl) | (simp [*, errW_none, errW_some] <;> rfl), by repeat (first | (with_reducible first | exact HB.out | apply below_alloc | apply pw_below_drewN | apply below_drew1) | exact HB.out)⟩
                      · rw [if_neg c19] at H
                        exact absurd H (by simp)
                    · rw [if_neg c18] at H
                      exact absurd H (by simp)
                  · rw [if_neg c17] at H
                    have c17b0 : (t241.toList == t240.toList) = false := beq_eq_false_iff_ne.mpr c17
                    have c17b1 : (t241.toList != t240.toList) = true := bne_iff_ne.mpr c17
                    by_cases c66 : (a0.size : Int) > 0
                    · rw [if_pos c66] at H
                      have c66b0 : decide (0 < (a0.size : Int)) = true := decide_eq_true c66
                      have c66b1 : decide (0 < a0.size) = true := decide_eq_true (by omega)
                      clear c66
                      by_cases c67 : 0 < (a0.size : Int)
                      · rw [if_pos c67] at H
                        have c67b0 : decide (0 < (a0.size : Int)) = true := decide_eq_true c67
                        have c67b1 : decide (0 < a0.size) = true := decide_eq_true (by omega)
                        clear c67
                        by_cases c69 : (bt a0 0) = 10
                        · rw [if_pos c69] at H
                          have c69b0 : ((bt a0 0) == 10) = true := beq_iff_eq.mpr c69
                          have c69b1 : ((bt a0 0) != 10) = false := bne_eq_false_iff_eq.mpr c69
                          clear c69
                          obtain rfl := Option.some.inj H
                          go_wp2_with (first | ((with_reducible refine gate_callee (f := 18) rfl ?_); refine goesL_ (some 29) rfl rfl Tryd.func18 (by kernel_rfl) rfl #[.string ((⟨#[10]⟩ : ByteArray) ++ a0)] rfl (by (try simp only [List.map_toArray, List.map_cons, List.map_nil]); first | done | rfl | (simp only [List.length_drop, List.length_take]; rfl)) ?_; (with_reducible refine (fold_Fold.calls ((⟨#[10]⟩ : ByteArray) ++ a0) t240 _ A13.out).mono ?_); rintro e w70 ⟨rfl, hb⟩; refine ⟨_, rfl, ?_⟩; have n0_ := Aside0.mk (below_step (by repeat (first | (with_reducible first | exact HB.out | apply below_alloc | apply pw_below_drewN | apply below_drew1) | exact HB.out)) hb); clear HB; have HB := n0_; clear n0_; (try clear hb); (try clear hb2); (try clear hk); (try clear hi)) | ((with_reducible refine gate_callee (f := 18) rfl ?_); refine goesL_ (some 34) rfl rfl Tryd.func18 (by kernel_rfl) rfl #[.string ((((⟨#[32, 32, 32, 32, 32, 32, 32, 32, 32]⟩ : ByteArray).extract 0 (a1 : Int).toNat) ++ (⟨#[10, 10]⟩ : ByteArray)) ++ a0)] rfl (by (try simp only [List.map_toArray, List.map_cons, List.map_nil]); first | done | rfl | (simp only [List.length_drop, List.length_take]; rfl)) ?_; (with_reducible refine (fold_Fold.calls ((((⟨#[32, 32, 32, 32, 32, 32, 32, 32, 32]⟩ : ByteArray).extract 0 (a1 : Int).toNat) ++ (⟨#[10, 10]⟩ : ByteArray)) ++ a0) t241 _ A16.out).mono ?_); rintro e w71 ⟨rfl, hb⟩; refine ⟨_, rfl, ?_⟩; have n0_ := Aside0.mk (below_step (by repeat (first | (with_reducible first | exact HB.out | apply below_alloc | apply pw_below_drewN | apply below_drew1) | exact HB.out)) hb); clear HB; have HB := n0_; clear n0_; (try clear hb); (try clear hb2); (try clear hk); (try clear hi); have p68 : 0 ≤ (0 : Int) := (by omega); have q68 : 0 < a0.size := (by have : (0 : Int) < (a0.size : Int) := of_decide_eq_true (by first | (with_reducible assumption) | assumption); omega); have hx68 : ∀ h : 0 < a0.size, ((a0[0]'h).toNat : Int) = bt a0 0 := bt_at a0 0; clear p68; have qi68 : (0 < (a0.size : Int)) = True := eq_true (of_decide_eq_true (by first | (with_reducible assumption) | assumption)); replace q68 := eq_true q68))
                          go_ret
                          exact ⟨by first | rfl | (simp [errW_none, errW_some] <;> rfl) | (simp [*, errW_none, errW_some] <;> rfl), by repeat (first | (with_reducible first | exact HB.out | apply below_alloc | apply pw_below_drewN | apply below_drew1) | exact HB.out)⟩
                        · rw [if_neg c69] at H
                          have c69b0 : ((bt a0 0) == 10) = false := beq_eq_false_iff_ne.mpr c69
                          have c69b1 : ((bt a0 0) != 10) = true := bne_iff_ne.mpr c69
                          obtain ⟨ji72, hji72⟩ : ∃ j_ : Int, (wrap64 ((a0.size : Int) - 1)) = j_ := ⟨_, rfl⟩
                          replace H : (if 0 ≤ (ji72) then (if (ji72) < (a0.size : Int) then (some ((bt a0 (ji72)) == 13)) else (none)) else (none)) = some r := by first | (rw [hji72] at H; exact H) | (simp only [hji72] at H ⊢; exact H)
                          (try rw [hji72] at A13)
                          (try rw [hji72] at A16)
                          have hji72w : (IntKind.i64.wrap ((a0.size : Int) - 1)) = ji72 := (i64_w _).trans hji72
                          by_cases c73 : 0 ≤ (ji72)
                          · rw [if_pos c73] at H
                            have c73b0 : decide (0 ≤ (ji72)) = true := decide_eq_true c73
                            clear c73
                            by_cases c74 : (ji72) < (a0.size : Int)
                            · rw [if_pos c74] at H
                              have c74b0 : decide ((ji72) < (a0.size : Int)) = true := decide_eq_true c74
                              clear c74
                              obtain rfl := Option.some.inj H
                              go_wp2_with (first | ((with_reducible refine gate_callee (f := 18) rfl ?_); refine goesL_ (some 29) rfl rfl Tryd.func18 (by kernel_rfl) rfl #[.string ((⟨#[10]⟩ : ByteArray) ++ a0)] rfl (by (try simp only [List.map_toArray, List.map_cons, List.map_nil]); first | done | rfl | (simp only [List.length_drop, List.length_take]; rfl)) ?_; (with_reducible refine (fold_Fold.calls ((⟨#[10]⟩ : ByteArray) ++ a0) t240 _ A13.out).mono ?_); rintro e w76 ⟨rfl, hb⟩; refine ⟨_, rfl, ?_⟩; have n0_ := Aside0.mk (below_step (by repeat (first | (with_reducible first | exact HB.out | apply below_alloc | apply pw_below_drewN | apply below_drew1) | exact HB.out)) hb); clear HB; have HB := n0_; clear n0_; (try clear hb); (try clear hb2); (try clear hk); (try clear hi)) | ((with_reducible refine gate_callee (f := 18) rfl ?_); refine goesL_ (some 34) rfl rfl Tryd.func18 (by kernel_rfl) rfl #[.string ((((⟨#[32, 32, 32, 32, 32, 32, 32, 32, 32]⟩ : ByteArray).extract 0 (a1 : Int).toNat) ++ (⟨#[10, 10]⟩ : ByteArray)) ++ a0)] rfl (by (try simp only [List.map_toArray, List.map_cons, List.map_nil]); first | done | rfl | (simp only [List.length_drop, List.length_take]; rfl)) ?_; (with_reducible refine (fold_Fold.calls ((((⟨#[32, 32, 32, 32, 32, 32, 32, 32, 32]⟩ : ByteArray).extract 0 (a1 : Int).toNat) ++ (⟨#[10, 10]⟩ : ByteArray)) ++ a0) t241 _ A16.out).mono ?_); rintro e w77 ⟨rfl, hb⟩; refine ⟨_, rfl, ?_⟩; have n0_ := Aside0.mk (below_step (by repeat (first | (with_reducible first | exact HB.out | apply below_alloc | apply pw_below_drewN | apply below_drew1) | exact HB.out)) hb); clear HB; have HB := n0_; clear n0_; (try clear hb); (try clear hb2); (try clear hk); (try clear hi); have p68 : 0 ≤ (0 : Int) := (by omega); have q68 : 0 < a0.size := (by have : (0 : Int) < (a0.size : Int) := of_decide_eq_true (by first | (with_reducible assumption) | assumption); omega); have hx68 : ∀ h : 0 < a0.size, ((a0[0]'h).toNat : Int) = bt a0 0 := bt_at a0 0; clear p68; have qi68 : (0 < (a0.size : Int)) = True := eq_true (of_decide_eq_true (by first | (with_reducible assumption) | assumption)); replace q68 := eq_true q68; have p75 : 0 ≤ ((ji72) : Int) := of_decide_eq_true (by first | (with_reducible assumption) | assumption); have q75 : (ji72) < (a0.size : Int) := of_decide_eq_true (by first | (with_reducible assumption) | assumption); have hx75 := bt_at a0 (ji72); replace p75 := eq_true p75; replace q75 := eq_true q75))
                              go_ret
                              exact ⟨by first | rfl | (simp [errW_none, errW_some] <;> rfl) | (simp only [← hji72]; first | rfl | (simp [errW_none, errW_some] <;> rfl)) | (simp [*, errW_none, errW_some] <;> rfl), by repeat (first | (with_reducible first | exact HB.out | apply below_alloc | apply pw_below_drewN | apply below_drew1) | exact HB.out)⟩
                            · rw [if_neg c74] at H
                              exact absurd H (by simp)
                          · rw [if_neg c73] at H
                            exact absurd H (by simp)
                      · rw [if_neg c67] at H
                        exact absurd H (by simp)
                    · rw [if_neg c66] at H
                      have c66b0 : decide (0 < (a0.size : Int)) = false := decide_eq_false c66
                      have c66b1 : decide (0 < a0.size) = false := decide_eq_false (by omega)
                      clear c66
                      obtain rfl := Option.some.inj H
                      go_wp2_with (first | ((with_reducible refine gate_callee (f := 18) rfl ?_); refine goesL_ (some 29) rfl rfl Tryd.func18 (by kernel_rfl) rfl #[.string ((⟨#[10]⟩ : ByteArray) ++ a0)] rfl (by (try simp only [List.map_toArray, List.map_cons, List.map_nil]); first | done | rfl | (simp only [List.length_drop, List.length_take]; rfl)) ?_; (with_reducible refine (fold_Fold.calls ((⟨#[10]⟩ : ByteArray) ++ a0) t240 _ A13.out).mono ?_); rintro e w78 ⟨rfl, hb⟩; refine ⟨_, rfl, ?_⟩; have n0_ := Aside0.mk (below_step (by repeat (first | (with_reducible first | exact HB.out | apply below_alloc | apply pw_below_drewN | apply below_drew1) | exact HB.out)) hb); clear HB; have HB := n0_; clear n0_; (try clear hb); (try clear hb2); (try clear hk); (try clear hi)) | ((with_reducible refine gate_callee (f := 18) rfl ?_); refine goesL_ (some 34) rfl rfl Tryd.func18 (by kernel_rfl) rfl #[.string ((((⟨#[32, 32, 32, 32, 32, 32, 32, 32, 32]⟩ : ByteArray).extract 0 (a1 : Int).toNat) ++ (⟨#[10, 10]⟩ : ByteArray)) ++ a0)] rfl (by (try simp only [List.map_toArray, List.map_cons, List.map_nil]); first | done | rfl | (simp only [List.length_drop, List.length_take]; rfl)) ?_; (with_reducible refine (fold_Fold.calls ((((⟨#[32, 32, 32, 32, 32, 32, 32, 32, 32]⟩ : ByteArray).extract 0 (a1 : Int).toNat) ++ (⟨#[10, 10]⟩ : ByteArray)) ++ a0) t241 _ A16.out).mono ?_); rintro e w79 ⟨rfl, hb⟩; refine ⟨_, rfl, ?_⟩; have n0_ := Aside0.mk (below_step (by repeat (first | (with_reducible first | exact HB.out | apply below_alloc | apply pw_below_drewN | apply below_drew1) | exact HB.out)) hb); clear HB; have HB := n0_; clear n0_; (try clear hb); (try clear hb2); (try clear hk); (try clear hi)))
                      go_ret
                      exact ⟨by first | rfl | (simp [errW_none, errW_some] <;> rfl) | (simp [*, errW_none, errW_some] <;> rfl), by repeat (first | (with_reducible first | exact HB.out | apply below_alloc | apply pw_below_drewN | apply below_drew1) | exact HB.out)⟩
                · rw [if_neg c15] at H
                  exact absurd H (by simp)
              · rw [if_neg c14] at H
                exact absurd H (by simp)
            · rw [if_neg c12] at H
              exact absurd H (by simp)
          · rw [if_neg c11] at H
            exact absurd H (by simp)
        · rw [if_neg c10] at H
          exact absurd H (by simp)

/-- THE ONE PURE STATEMENT of copperplatelaw07_FoldBlank: yours. -/
def copperplatelaw07_FoldBlank.Pure : Prop := ∀ (a0 : ByteArray) (a1 : Int), a0.size ≤ 140737488351232 → (Lit.int .i64 a1).wf = true → ∃ k, copperplatelaw07_FoldBlank.f k a0 a1 = some true
theorem copperplatelaw07_FoldBlank.walk (P : copperplatelaw07_FoldBlank.Pure) (a0 : ByteArray) (a1 : Int) (w : World) (w0 : a0.size ≤ 140737488351232) (w1 : (Lit.int .i64 a1).wf = true) :
    Calls Tryd.prog 8 #[.string a0, .int .i64 a1] w fun e w' => e = .returned (.bool true) ∧ Below w.heap.size w w' := by
  obtain ⟨k, h⟩ := P a0 a1 w0 w1
  refine (copperplatelaw07_FoldBlank.calls k a0 a1 true w h).mono ?_
  rintro e w' ⟨rfl, hd⟩
  exact ⟨rfl, hd⟩

/-! ### copperplatelaw07_FoldFirst: function 9 -/
mutual
def copperplatelaw07_FoldFirst.j0 : Nat → ByteArray → Bool → Bool → Option (Bool)
  | 0, _, _, _ => none
  | k + 1, x0, x3, x15 => if x15 = true then (some x3) else (if 1 + x0.size ≤ 9223372036854775807 then ((fold_Fold.f ((⟨#[10]⟩ : ByteArray) ++ x0)).bind fun t245 => ((fold_Lines.f t245).bind fun t246 => (copperplatelaw07_FoldFirst.l0 k t245 t246 false 0))) else (none))
def copperplatelaw07_FoldFirst.l0 : Nat → ByteArray → List ByteArray → Bool → Int → Option (Bool)
  | 0, _, _, _, _ => none
  | k + 1, x4, x5, x6, x7 => if x7 < (x5.length : Int) then (if x6 = true then (copperplatelaw07_FoldFirst.l0 k x4 x5 true (wrap64 (x7 + 1))) else (if 0 ≤ x7 then ((copperplateref07_Margin.f k (rdOf ByteArray.empty x5 x7)).bind fun t250 => (if t250 = 0 then (copperplatelaw07_FoldFirst.l0 k x4 x5 ((rdOf ByteArray.empty x5 x7).toList != ([] : List UInt8)) (wrap64 (x7 + 1))) else (copperplatelaw07_FoldFirst.l0 k x4 x5 false (wrap64 (x7 + 1))))) else (none))) else (if x4.toList = ([] : List UInt8) then (some true) else (if x6 = true then (if 1 + x4.size ≤ 9223372036854775807 then ((fold_Fold.f ((⟨#[10]⟩ : ByteArray) ++ x4)).bind fun t252 => (some (t252.toList == x4.toList))) else (none)) else (some false)))
end
def copperplatelaw07_FoldFirst.f (k : Nat) (a0 : ByteArray) : Option (Bool) := (copperplatelaw07_awake.f).bind fun t244 => (if t244 = true then (copperplatelaw07_FoldFirst.j0 k a0 t244 (decide ((a0.size : Int) > 300))) else (copperplatelaw07_FoldFirst.j0 k a0 t244 true))
theorem copperplatelaw07_FoldFirst.mono_l : ∀ k, (∀ y0 y1 y2, LeO (copperplatelaw07_FoldFirst.j0 k y0 y1 y2) (copperplatelaw07_FoldFirst.j0 (k + 1) y0 y1 y2)) ∧ (∀ y0 y1 y2 y3, LeO (copperplatelaw07_FoldFirst.l0 k y0 y1 y2 y3) (copperplatelaw07_FoldFirst.l0 (k + 1) y0 y1 y2 y3))
  | 0 => ⟨fun _ _ _ r h => by simp [copperplatelaw07_FoldFirst.j0] at h, fun _ _ _ _ r h => by simp [copperplatelaw07_FoldFirst.l0] at h⟩
  | k + 1 => by
    obtain ⟨ih0, ih1⟩ := copperplatelaw07_FoldFirst.mono_l k
    refine ⟨?_, ?_⟩
    · intro y0 y1 y2
      unfold copperplatelaw07_FoldFirst.j0
      repeat' first
      | (with_reducible exact ih0 _ _ _)
      | (with_reducible exact ih1 _ _ _ _)
      | (with_reducible exact copperplateref07_Margin.mono _ _)
      | (with_reducible exact LeO.refl _)
      | (with_reducible exact LeO.none _)
      | (with_reducible refine LeO.ite ?_ ?_)
      | (with_reducible refine LeO.bind ?_ (fun _ => ?_))
      | exact ih0 _ _ _
      | exact ih1 _ _ _ _
      | exact copperplateref07_Margin.mono _ _
      | exact LeO.none _
      | refine LeO.ite ?_ ?_
      | refine LeO.bind ?_ (fun _ => ?_)
    · intro y0 y1 y2 y3
      unfold copperplatelaw07_FoldFirst.l0
      repeat' first
      | (with_reducible exact ih0 _ _ _)
      | (with_reducible exact ih1 _ _ _ _)
      | (with_reducible exact copperplateref07_Margin.mono _ _)
      | (with_reducible exact LeO.refl _)
      | (with_reducible exact LeO.none _)
      | (with_reducible refine LeO.ite ?_ ?_)
      | (with_reducible refine LeO.bind ?_ (fun _ => ?_))
      | exact ih0 _ _ _
      | exact ih1 _ _ _ _
      | exact copperplateref07_Margin.mono _ _
      | exact LeO.none _
      | refine LeO.ite ?_ ?_
      | refine LeO.bind ?_ (fun _ => ?_)
theorem copperplatelaw07_FoldFirst.mono : ∀ a0 k, LeO (copperplatelaw07_FoldFirst.f k a0) (copperplatelaw07_FoldFirst.f (k + 1) a0) := by
  intro a0 k
  obtain ⟨ih0, ih1⟩ := copperplatelaw07_FoldFirst.mono_l k
  unfold copperplatelaw07_FoldFirst.f
  repeat' first
      | (with_reducible exact ih0 _ _ _)
      | (with_reducible exact ih1 _ _ _ _)
      | (with_reducible exact copperplateref07_Margin.mono _ _)
      | (with_reducible exact LeO.refl _)
      | (with_reducible exact LeO.none _)
      | (with_reducible refine LeO.ite ?_ ?_)
      | (with_reducible refine LeO.bind ?_ (fun _ => ?_))
      | exact ih0 _ _ _
      | exact ih1 _ _ _ _
      | exact copperplateref07_Margin.mono _ _
      | exact LeO.none _
      | refine LeO.ite ?_ ?_
      | refine LeO.bind ?_ (fun _ => ?_)
set_option maxHeartbeats 8000000 in
set_option maxRecDepth 100000 in
theorem copperplatelaw07_FoldFirst.calls (k : Nat) (a0 : ByteArray) (r : Bool) (w : World) (h : copperplatelaw07_FoldFirst.f k a0 = some r) :
    Calls Tryd.prog 9 #[.string a0] w fun e w' => e = .returned (.bool r) ∧ Below w.heap.size w w' := by
  have HB := Aside0.mk (Below.refl w.heap.size w)
  have H : ((copperplatelaw07_awake.f).bind fun t244 => (if t244 = true then (copperplatelaw07_FoldFirst.j0 k a0 t244 (decide ((a0.size : Int) > 300))) else (copperplatelaw07_FoldFirst.j0 k a0 t244 true))) = some r := h
  clear h
  replace H := Option.bind_eq_some_iff.mp H
  obtain ⟨t244, A20, H⟩ := H
  replace H : (if t244 = true then (copperplatelaw07_FoldFirst.j0 k a0 t244 (decide ((a0.size : Int) > 300))) else (copperplatelaw07_FoldFirst.j0 k a0 t244 true)) = some r := H
  have A2 := Aside0.mk A20
  clear A20
  have HC3 := Aside0.mk H
  clear H
  go_enter Tryd.func9, Tryd.ntmps9
  go_upto_region 2 with (first | ((with_reducible refine gate_callee (f := 10) rfl ?_); refine goesL_ (some 8) rfl rfl Tryd.func10 (by kernel_rfl) rfl #[] rfl (by (try simp only [List.map_toArray, List.map_cons, List.map_nil]); first | done | rfl | (simp only [List.length_drop, List.length_take]; rfl)) ?_; (with_reducible refine (copperplatelaw07_awake.calls  t244 _ A2.out).mono ?_); rintro e w4 ⟨rfl, hb⟩; refine ⟨_, rfl, ?_⟩; have n0_ := Aside0.mk (below_step (by repeat (first | (with_reducible first | exact HB.out | apply below_alloc | apply pw_below_drewN | apply below_drew1) | exact HB.out)) hb); clear HB; have HB := n0_; clear n0_; (try clear hb); (try clear hb2); (try clear hk); (try clear hi)))
  (try simp only [Act.put, List.setIfInBounds_toArray, List.set_cons_zero, List.set_cons_succ])
  go_cut [15] (fun v15 wc => ∃ (kq : Nat) (x15_2 : Bool), v15 = .bool x15_2 ∧ Aside0 (copperplatelaw07_FoldFirst.j0 kq a0 t244 x15_2 = some r) ∧ Aside0 (kq ≤ k) ∧ Aside0 (Below w.heap.size w wc))
  case first =>
    have H := HC3.out
    clear HC3
    by_cases c5 : t244 = true
    · subst c5
      have H1 : (copperplatelaw07_FoldFirst.j0 k a0 true (decide ((a0.size : Int) > 300))) = some r := by rw [if_pos rfl] at H; exact H
      clear H
      have H := H1
      clear H1
      have H' := Aside0.mk H
      clear H
      go_wp2
      go_meet
      case rel => exact ⟨_, (decide ((a0.size : Int) > 300)), (by first | rfl | (simp; done) | (simp [*]; done)), H', ⟨by first | omega | exact Nat.le_refl _⟩, ⟨by repeat (first | (with_reducible first | exact HB.out | apply below_alloc | apply pw_below_drewN | apply below_drew1) | exact HB.out)⟩⟩
    · replace c5 := Bool.eq_false_iff.mpr c5
      subst c5
      have H1 : (copperplatelaw07_FoldFirst.j0 k a0 false true) = some r := by rw [if_neg (show ¬ (false = true) by decide)] at H; exact H
      clear H
      have H := H1
      clear H1
      have H' := Aside0.mk H
      clear H
      go_wp2
      go_meet
      case rel => exact ⟨_, (true), (by first | rfl | (simp; done) | (simp [*]; done)), H', ⟨by first | omega | exact Nat.le_refl _⟩, ⟨by repeat (first | (with_reducible first | exact HB.out | apply below_alloc | apply pw_below_drewN | apply below_drew1) | exact HB.out)⟩⟩
  case rest =>
    clear HC3
    try clear c1
    try clear p2
    try clear c5
    obtain ⟨kq, x15_2, rfl, HA, HJ2, HB⟩ := hcut
    cases kq with
    | zero => exact absurd HA.out (by simp [copperplatelaw07_FoldFirst.j0])
    | succ kj2 =>
      have H := HA.out
      clear HA
      simp only [copperplatelaw07_FoldFirst.j0] at H
      by_cases c6 : x15_2 = true
      · subst c6
        have H1 : (some t244) = some r := by rw [if_pos rfl] at H; exact H
        clear H
        have H := H1
        clear H1
        obtain rfl := Option.some.inj H
        go_wp2
        go_ret
        exact ⟨by first | rfl | (simp [errW_none, errW_some] <;> rfl) | (simp [*, errW_none, errW_some] <;> rfl), by repeat (first | (with_reducible first | exact HB.out | apply below_alloc | apply pw_below_drewN | apply below_drew1) | exact HB.out)⟩
      · replace c6 := Bool.eq_false_iff.mpr c6
        subst c6
        have H1 : (if 1 + a0.size ≤ 9223372036854775807 then ((fold_Fold.f ((⟨#[10]⟩ : ByteArray) ++ a0)).bind fun t245 => ((fold_Lines.f t245).bind fun t246 => (copperplatelaw07_FoldFirst.l0 kj2 t245 t246 false 0))) else (none)) = some r := by rw [if_neg (show ¬ (false = true) by decide)] at H; exact H
        clear H
        have H := H1
        clear H1
        by_cases c7 : 1 + a0.size ≤ 9223372036854775807
        · rw [if_pos c7] at H
          have c7b0 := eq_true c7
          have c7b1 : decide (1 + a0.size ≤ 9223372036854775807) = true := decide_eq_true c7
          try have c7b2 : (9223372036854775807 < 1 + a0.size) = False := eq_false (Nat.not_lt.2 c7)
          replace H := Option.bind_eq_some_iff.mp H
          obtain ⟨t245, A80, H⟩ := H
          replace H : ((fold_Lines.f t245).bind fun t246 => (copperplatelaw07_FoldFirst.l0 kj2 t245 t246 false 0)) = some r := H
          have A8 := Aside0.mk A80
          clear A80
          replace H := Option.bind_eq_some_iff.mp H
          obtain ⟨t246, A90, H⟩ := H
          replace H : (copperplatelaw07_FoldFirst.l0 kj2 t245 t246 false 0) = some r := H
          have A9 := Aside0.mk A90
          clear A90
          have H' := Aside0.mk H
          clear H
          go_wp2_with (first | ((with_reducible refine gate_callee (f := 18) rfl ?_); refine goesL_ (some 19) rfl rfl Tryd.func18 (by kernel_rfl) rfl #[.string ((⟨#[10]⟩ : ByteArray) ++ a0)] rfl (by (try simp only [List.map_toArray, List.map_cons, List.map_nil]); first | done | rfl | (simp only [List.length_drop, List.length_take]; rfl)) ?_; (with_reducible refine (fold_Fold.calls ((⟨#[10]⟩ : ByteArray) ++ a0) t245 _ A8.out).mono ?_); rintro e w10 ⟨rfl, hb⟩; refine ⟨_, rfl, ?_⟩; have n0_ := Aside0.mk (below_step (by repeat (first | (with_reducible first | exact HB.out | apply below_alloc | apply pw_below_drewN | apply below_drew1) | exact HB.out)) hb); clear HB; have HB := n0_; clear n0_; (try clear hb); (try clear hb2); (try clear hk); (try clear hi)) | ((with_reducible refine gate_callee (f := 14) rfl ?_); refine goesL_ (some 21) rfl rfl Tryd.func14 (by kernel_rfl) rfl #[.string t245] rfl (by (try simp only [List.map_toArray, List.map_cons, List.map_nil]); first | done | rfl | (simp only [List.length_drop, List.length_take]; rfl)) ?_; (with_reducible refine (fold_Lines.calls t245 t246 _ A9.out).mono ?_); rintro e w11 ⟨v247, rfl, ho0, hb⟩; refine ⟨_, rfl, ?_⟩; have n0_ := Aside0.mk (Kd.R_lower ho0 (below_size (by repeat (first | (with_reducible first | exact HB.out | apply below_alloc | apply pw_below_drewN | apply below_drew1) | exact HB.out)))); have n1_ := Aside0.mk (below_step (by repeat (first | (with_reducible first | exact HB.out | apply below_alloc | apply pw_below_drewN | apply below_drew1) | exact HB.out)) hb); clear HB; have HO248 := n0_; have HB := n1_; clear n0_ n1_; (try clear hb); (try clear hb2); (try clear hk); (try clear hi); (try clear ho0)))
          go_loopg [6, 7] kj2 (fun kq v6 v7 w' => ∃ (x6_2 : Bool) (x7_2 : Int), v6 = .bool x6_2 ∧ v7 = .int .i64 x7_2 ∧ Aside0 (copperplatelaw07_FoldFirst.l0 kq t245 t246 x6_2 x7_2 = some r) ∧ Aside0 (kq ≤ kj2) ∧ Aside0 (Kd.R Kd.string 9 w' w.heap.size (fun _ => True) v247 t246) ∧ Aside0 (Below w.heap.size w w'))
          case atStart => exact ⟨(false), (0), (by first | rfl | (simp; done) | (simp [*]; done)), (by first | rfl | (simp; done) | (simp [*]; done)), H', ⟨Nat.le_refl _⟩, ⟨by (with_reducible repeat (first | apply Kd.R_alloc | apply Kd.R_drewN | apply Kd.R_drew)); exact HO248.out⟩, ⟨by repeat (first | (with_reducible first | exact HB.out | apply below_alloc | apply pw_below_drewN | apply below_drew1) | exact HB.out)⟩⟩
          case round =>
            clear H'
            try clear c1
            try clear p2
            try clear c5
            try clear c6
            try clear c7
            try clear c7b0
            try clear c7b1
            try clear c7b2
            try clear c9
            try clear c10
            try clear p2
            obtain ⟨x6_2, x7_2, rfl, rfl, HA, HK2, HO_5, HB⟩ := hrel
            cases gk with
            | zero => exact absurd HA.out (by simp [copperplatelaw07_FoldFirst.l0])
            | succ k2 =>
              have H := HA.out
              clear HA
              simp only [copperplatelaw07_FoldFirst.l0] at H
              by_cases c12 : x7_2 < (t246.length : Int)
              · rw [if_pos c12] at H
                have c12b0 : decide (x7_2 < (t246.length : Int)) = true := decide_eq_true c12
                clear c12
                by_cases c13 : x6_2 = true
                · subst c13
                  have H1 : (copperplatelaw07_FoldFirst.l0 k2 t245 t246 true (wrap64 (x7_2 + 1))) = some r := by rw [if_pos rfl] at H; exact H
                  clear H
                  have H := H1
                  clear H1
                  have H' := Aside0.mk H
                  clear H
                  obtain ⟨Ao14, co14, eo14⟩ := Kd.R_slice HO_5.out
                  subst eo14
                  go_wp2
                  go_roundg k2
                  case measure => have := HJ2.out; have := HK2.out; omega
                  case rel => exact ⟨(true), (wrap64 (x7_2 + 1)), (by first | rfl | (simp; done) | (simp [*]; done)), (by first | rfl | (simp; done) | (simp [*]; done)), H', ⟨by have := HJ2.out; have := HK2.out; omega⟩, ⟨by (with_reducible repeat (first | apply Kd.R_alloc | apply Kd.R_drewN | apply Kd.R_drew)); exact HO_5.out⟩, ⟨by repeat (first | (with_reducible first | exact HB.out | apply below_alloc | apply pw_below_drewN | apply below_drew1) | exact HB.out)⟩⟩
                · replace c13 := Bool.eq_false_iff.mpr c13
                  subst c13
                  have H1 : (if 0 ≤ x7_2 then ((copperplateref07_Margin.f k2 (rdOf ByteArray.empty t246 x7_2)).bind fun t250 => (if t250 = 0 then (copperplatelaw07_FoldFirst.l0 k2 t245 t246 ((rdOf ByteArray.empty t246 x7_2).toList != ([] : List UInt8)) (wrap64 (x7_2 + 1))) else (copperplatelaw07_FoldFirst.l0 k2 t245 t246 false (wrap64 (x7_2 + 1))))) else (none)) = some r := by rw [if_neg (show ¬ (false = true) by decide)] at H; exact H
                  clear H
                  have H := H1
                  clear H1
                  by_cases c15 : 0 ≤ x7_2
                  · rw [if_pos c15] at H
                    have c15b0 : decide (0 ≤ x7_2) = true := decide_eq_true c15
                    clear c15
                    replace H := Option.bind_eq_some_iff.mp H
                    obtain ⟨t250, A160, H⟩ := H
                    replace H : (if t250 = 0 then (copperplatelaw07_FoldFirst.l0 k2 t245 t246 ((rdOf ByteArray.empty t246 x7_2).toList != ([] : List UInt8)) (wrap64 (x7_2 + 1))) else (copperplatelaw07_FoldFirst.l0 k2 t245 t246 false (wrap64 (x7_2 + 1)))) = some r := H
                    have A16 := Aside0.mk A160
                    clear A160
                    by_cases c17 : t250 = 0
                    · rw [if_pos c17] at H
                      have c17b0 : (t250 == 0) = true := beq_iff_eq.mpr c17
                      have c17b1 : (t250 != 0) = false := bne_eq_false_iff_eq.mpr c17
                      clear c17
                      have H' := Aside0.mk H
                      clear H
                      obtain ⟨Ao18, co18, eo18⟩ := Kd.R_slice HO_5.out
                      subst eo18
                      have p249 : 0 ≤ (x7_2 : Int) := of_decide_eq_true (by first | (with_reducible assumption) | assumption)
                      have q249 : x7_2 < (t246.length : Int) := of_decide_eq_true (by first | (with_reducible assumption) | assumption)
                      obtain ⟨ad249, e249, hx249_0⟩ := Kd.at_string (Kd.R_reads' HO_5.out).2.2 x7_2 p249 q249
                      cases e249
                      replace p249 := eq_true p249
                      replace q249 := eq_true q249
                      go_wp2_with (first | (go_at_call 20; (with_reducible refine (copperplateref07_Margin.calls k2 (rdOf ByteArray.empty t246 x7_2) t250 _ A16.out).mono ?_); rintro e w' ⟨rfl, ⟨nd, rfl⟩⟩; have p251 : 0 ≤ (x7_2 : Int) := of_decide_eq_true (by first | (with_reducible assumption) | assumption); have q251 : x7_2 < (t246.length : Int) := of_decide_eq_true (by first | (with_reducible assumption) | assumption); obtain ⟨ad251, e251, hx251_0⟩ := Kd.at_string (Kd.R_reads' HO_5.out).2.2 x7_2 p251 q251; obtain rfl : ad249 = ad251 := (by injection e251); replace p251 := eq_true p251; replace q251 := eq_true q251))
                      go_roundg k2
                      case measure => have := HJ2.out; have := HK2.out; omega
                      case rel => exact ⟨(((rdOf ByteArray.empty t246 x7_2).toList != ([] : List UInt8))), (wrap64 (x7_2 + 1)), (by first | rfl | (simp; done) | (simp; exact isE_ _) | (simp [*]; exact isE_ _) | (simp [*]; done)), (by first | rfl | (simp; done) | (simp [*]; done)), H', ⟨by have := HJ2.out; have := HK2.out; omega⟩, ⟨by (with_reducible repeat (first | apply Kd.R_alloc | apply Kd.R_drewN | apply Kd.R_drew)); exact HO_5.out⟩, ⟨by repeat (first | (with_reducible first | exact HB.out | apply below_alloc | apply pw_below_drewN | apply below_drew1) | exact HB.out)⟩⟩
                    · rw [if_neg c17] at H
                      have c17b0 : (t250 == 0) = false := beq_eq_false_iff_ne.mpr c17
                      have c17b1 : (t250 != 0) = true := bne_iff_ne.mpr c17
                      have H' := Aside0.mk H
                      clear H
                      obtain ⟨Ao19, co19, eo19⟩ := Kd.R_slice HO_5.out
                      subst eo19
                      have p249 : 0 ≤ (x7_2 : Int) := of_decide_eq_true (by first | (with_reducible assumption) | assumption)
                      have q249 : x7_2 < (t246.length : Int) := of_decide_eq_true (by first | (with_reducible assumption) | assumption)
                      obtain ⟨ad249, e249, hx249_0⟩ := Kd.at_string (Kd.R_reads' HO_5.out).2.2 x7_2 p249 q249
                      cases e249
                      replace p249 := eq_true p249
                      replace q249 := eq_true q249
                      go_wp2_with (first | (go_at_call 20; (with_reducible refine (copperplateref07_Margin.calls k2 (rdOf ByteArray.empty t246 x7_2) t250 _ A16.out).mono ?_); rintro e w' ⟨rfl, ⟨nd, rfl⟩⟩))
                      go_roundg k2
                      case measure => have := HJ2.out; have := HK2.out; omega
                      case rel => exact ⟨(false), (wrap64 (x7_2 + 1)), (by first | rfl | (simp; done) | (simp [*]; done)), (by first | rfl | (simp; done) | (simp [*]; done)), H', ⟨by have := HJ2.out; have := HK2.out; omega⟩, ⟨by (with_reducible repeat (first | apply Kd.R_alloc | apply Kd.R_drewN | apply Kd.R_drew)); exact HO_5.out⟩, ⟨by repeat (first | (with_reducible first | exact HB.out | apply below_alloc | apply pw_below_drewN | apply below_drew1) | exact HB.out)⟩⟩
                  · rw [if_neg c15] at H
                    exact absurd H (by simp)
              · rw [if_neg c12] at H
                have c12b0 : decide (x7_2 < (t246.length : Int)) = false := decide_eq_false c12
                clear c12
                by_cases c20 : t245.toList = ([] : List UInt8)
                · rw [if_pos c20] at H
                  have c20b0 : (t245.toList == ([] : List UInt8)) = true := beq_iff_eq.mpr c20
                  have c20b1 : (t245.toList != ([] : List UInt8)) = false := bne_eq_false_iff_eq.mpr c20
                  clear c20
                  obtain rfl := Option.some.inj H
                  obtain ⟨Ao21, co21, eo21⟩ := Kd.R_slice HO_5.out
                  subst eo21
                  go_wp2
                  go_ret
                  exact ⟨by first | rfl | (simp [errW_none, errW_some] <;> rfl) | (simp [*, errW_none, errW_some] <;> rfl), by repeat (first | (with_reducible first | exact HB.out | apply below_alloc | apply pw_below_drewN | apply below_drew1) | exact HB.out)⟩
                · rw [if_neg c20] at H
                  have c20b0 : (t245.toList == ([] : List UInt8)) = false := beq_eq_false_iff_ne.mpr c20
                  have c20b1 : (t245.toList != ([] : List UInt8)) = true := bne_iff_ne.mpr c20
                  by_cases c22 : x6_2 = true
                  · subst c22
                    have H1 : (if 1 + t245.size ≤ 9223372036854775807 then ((fold_Fold.f ((⟨#[10]⟩ : ByteArray) ++ t245)).bind fun t252 => (some (t252.toList == t245.toList))) else (none)) = some r := by rw [if_pos rfl] at H; exact H
                    clear H
                    have H := H1
                    clear H1
                    by_cases c23 : 1 + t245.size ≤ 9223372036854775807
                    · rw [if_pos c23] at H
                      have c23b0 := eq_true c23
                      have c23b1 : decide (1 + t245.size ≤ 9223372036854775807) = true := decide_eq_true c23
                      try have c23b2 : (9223372036854775807 < 1 + t245.size) = False := eq_false (Nat.not_lt.2 c23)
                      replace H := Option.bind_eq_some_iff.mp H
                      obtain ⟨t252, A240, H⟩ := H
                      replace H : (some (t252.toList == t245.toList)) = some r := H
                      have A24 := Aside0.mk A240
                      clear A240
                      obtain rfl := Option.some.inj H
                      obtain ⟨Ao25, co25, eo25⟩ := Kd.R_slice HO_5.out
                      subst eo25
                      go_wp2_with (first | (go_at_call 18; (with_reducible refine (fold_Fold.calls ((⟨#[10]⟩ : ByteArray) ++ t245) t252 _ A24.out).mono ?_); rintro e w26 ⟨rfl, hb⟩; have n0_ := Aside0.mk (Kd.R_below (by (with_reducible repeat (first | apply Kd.R_alloc | apply Kd.R_drewN | apply Kd.R_drew)); exact HO_5.out) hb); have n1_ := Aside0.mk (below_step (by repeat (first | (with_reducible first | exact HB.out | apply below_alloc | apply pw_below_drewN | apply below_drew1) | exact HB.out)) hb); clear HO_5; clear HB; have HO_5 := n0_; have HB := n1_; clear n0_ n1_; (try clear hb); (try clear hb2); (try clear hk); (try clear hi)))
                      go_ret
                      exact ⟨by first | rfl | (simp [errW_none, errW_some] <;> rfl) | (simp [*, errW_none, errW_some] <;> rfl), by repeat (first | (with_reducible first | exact HB.out | apply below_alloc | apply pw_below_drewN | apply below_drew1) | exact HB.out)⟩
                    · rw [if_neg c23] at H
                      exact absurd H (by simp)
                  · replace c22 := Bool.eq_false_iff.mpr c22
                    subst c22
                    have H1 : (some false) = some r := by rw [if_neg (show ¬ (false = true) by decide)] at H; exact H
                    clear H
                    have H := H1
                    clear H1
                    obtain rfl := Option.some.inj H
                    obtain ⟨Ao27, co27, eo27⟩ := Kd.R_slice HO_5.out
                    subst eo27
                    go_wp2
                    go_ret
                    exact ⟨by first | rfl | (simp [errW_none, errW_some] <;> rfl) | (simp [*, errW_none, errW_some] <;> rfl), by repeat (first | (with_reducible first | exact HB.out | apply below_alloc | apply pw_below_drewN | apply below_drew1) | exact HB.out)⟩
        · rw [if_neg c7] at H
          exact absurd H (by simp)

/-- THE ONE PURE STATEMENT of copperplatelaw07_FoldFirst: yours. -/
def copperplatelaw07_FoldFirst.Pure : Prop := ∀ (a0 : ByteArray), a0.size ≤ 140737488351232 → ∃ k, copperplatelaw07_FoldFirst.f k a0 = some true
theorem copperplatelaw07_FoldFirst.walk (P : copperplatelaw07_FoldFirst.Pure) (a0 : ByteArray) (w : World) (w0 : a0.size ≤ 140737488351232) :
    Calls Tryd.prog 9 #[.string a0] w fun e w' => e = .returned (.bool true) ∧ Below w.heap.size w w' := by
  obtain ⟨k, h⟩ := P a0 w0
  refine (copperplatelaw07_FoldFirst.calls k a0 true w h).mono ?_
  rintro e w' ⟨rfl, hd⟩
  exact ⟨rfl, hd⟩

end Go.Proofs.YthcneciafiaphaaDoor.Q
