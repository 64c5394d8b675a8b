-- Printed for this seat by a program of this session (qprint.py), out of the translation; Lean checks it.
import Derived.Test.YtcebkppagamjiaaDoorQ0
import Derived.Test.YtcebkppagamjiaaDoorQ1
namespace Go.Proofs.YtcebkppagamjiaaDoor.Q
open Go.Proofs.YtcebkppagamjiaaDoor.G
open Go.RowKit Go.Proofs.YtcebkppagamjiaaDoorW.PrintWords Go.Proofs.YtcebkppagamjiaaDoorW.PrintLast Go.Proofs.YtcebkppagamjiaaDoorW.PrintMore
attribute [local go_sem] max2_int min2_int max_two min_two max_three min_three max_four min_four   -- for this text's walks alone
set_option linter.unusedVariables false
set_option linter.unusedSimpArgs false

/-! ### copperplatelaw06_TextPlain: function 9 -/
mutual
def copperplatelaw06_TextPlain.j0 : Nat → ByteArray → ByteArray → Bool → Bool → Option (Bool)
  | 0, _, _, _, _ => none
  | k + 1, x0, x1, x5, x33 => if x33 = true then (some x5) else (copperplatelaw06_TextPlain.l0 k x0 x1 0)
def copperplatelaw06_TextPlain.l0 : Nat → ByteArray → ByteArray → Int → Option (Bool)
  | 0, _, _, _ => none
  | k + 1, x0, x1, x6 => if x6 < (x0.size : Int) then (if 0 ≤ x6 then (if (bt x0 x6) = 34 then (some true) else (if (bt x0 x6) = 92 then (some true) else (if (bt x0 x6) = 10 then (some true) else (if (bt x0 x6) = 13 then (some true) else (copperplatelaw06_TextPlain.l0 k x0 x1 (wrap64 (x6 + 1))))))) else (none)) else (if 1 + x0.size ≤ 9223372036854775807 then (if ((⟨#[34]⟩ : ByteArray) ++ x0).size + 1 ≤ 9223372036854775807 then (if (((⟨#[34]⟩ : ByteArray) ++ x0) ++ (⟨#[34]⟩ : ByteArray)).size + x1.size ≤ 9223372036854775807 then ((text_String.f ((((⟨#[34]⟩ : ByteArray) ++ x0) ++ (⟨#[34]⟩ : ByteArray)) ++ x1) 0).bind fun bt154 => (if (((⟨#[34]⟩ : ByteArray) ++ x0) ++ (⟨#[10]⟩ : ByteArray)).size + x1.size ≤ 9223372036854775807 then ((text_String.f ((((⟨#[34]⟩ : ByteArray) ++ x0) ++ (⟨#[10]⟩ : ByteArray)) ++ x1) 0).bind fun bt157 => ((text_String.f ((⟨#[34]⟩ : ByteArray) ++ x0) 0).bind fun bt160 => (if bt154.2.2 = true then (if bt154.1.toList = x0.toList then (if bt154.2.1 = (wrap64 ((x0.size : Int) + 2)) then (if bt157.2.2 = true then (some false) else (if bt157.2.1 = (wrap64 ((x0.size : Int) + 1)) then (if bt160.2.2 = true then (some false) else (some (bt160.2.1 == (wrap64 ((x0.size : Int) + 1))))) else (some false))) else (some false)) else (some false)) else (some false)))) else (none))) else (none)) else (none)) else (none))
end
def copperplatelaw06_TextPlain.f (k : Nat) (a0 : ByteArray) (a1 : ByteArray) : Option (Bool) := (copperplatelaw06_awake.f).bind fun t152 => (if t152 = true then (if (a0.size : Int) > 300 then (copperplatelaw06_TextPlain.j0 k a0 a1 t152 true) else (if (a1.size : Int) > 300 then (copperplatelaw06_TextPlain.j0 k a0 a1 t152 true) else ((utf_May.f a0).bind fun t153 => (copperplatelaw06_TextPlain.j0 k a0 a1 t152 (!t153))))) else (copperplatelaw06_TextPlain.j0 k a0 a1 t152 true))
theorem copperplatelaw06_TextPlain.mono_l : ∀ k, (∀ y0 y1 y2 y3, LeO (copperplatelaw06_TextPlain.j0 k y0 y1 y2 y3) (copperplatelaw06_TextPlain.j0 (k + 1) y0 y1 y2 y3)) ∧ (∀ y0 y1 y2, LeO (copperplatelaw06_TextPlain.l0 k y0 y1 y2) (copperplatelaw06_TextPlain.l0 (k + 1) y0 y1 y2))
  | 0 => ⟨fun _ _ _ _ r h => by simp [copperplatelaw06_TextPlain.j0] at h, fun _ _ _ r h => by simp [copperplatelaw06_TextPlain.l0] at h⟩
  | k + 1 => by
    obtain ⟨ih0, ih1⟩ := copperplatelaw06_TextPlain.mono_l k
    refine ⟨?_, ?_⟩
    · intro y0 y1 y2 y3
      unfold copperplatelaw06_TextPlain.j0
      repeat' first
      | (with_reducible exact ih0 _ _ _ _)
      | (with_reducible exact ih1 _ _ _)
      | (with_reducible exact LeO.refl _)
      | (with_reducible exact LeO.none _)
      | (with_reducible refine LeO.ite ?_ ?_)
      | (with_reducible refine LeO.bind ?_ (fun _ => ?_))
      | exact ih0 _ _ _ _
      | exact ih1 _ _ _
      | exact LeO.none _
      | refine LeO.ite ?_ ?_
      | refine LeO.bind ?_ (fun _ => ?_)
    · intro y0 y1 y2
      unfold copperplatelaw06_TextPlain.l0
      repeat' first
      | (with_reducible exact ih0 _ _ _ _)
      | (with_reducible exact ih1 _ _ _)
      | (with_reducible exact LeO.refl _)
      | (with_reducible exact LeO.none _)
      | (with_reducible refine LeO.ite ?_ ?_)
      | (with_reducible refine LeO.bind ?_ (fun _ => ?_))
      | exact ih0 _ _ _ _
      | exact ih1 _ _ _
      | exact LeO.none _
      | refine LeO.ite ?_ ?_
      | refine LeO.bind ?_ (fun _ => ?_)
theorem copperplatelaw06_TextPlain.mono : ∀ a0 a1 k, LeO (copperplatelaw06_TextPlain.f k a0 a1) (copperplatelaw06_TextPlain.f (k + 1) a0 a1) := by
  intro a0 a1 k
  obtain ⟨ih0, ih1⟩ := copperplatelaw06_TextPlain.mono_l k
  unfold copperplatelaw06_TextPlain.f
  repeat' first
      | (with_reducible exact ih0 _ _ _ _)
      | (with_reducible exact ih1 _ _ _)
      | (with_reducible exact LeO.refl _)
      | (with_reducible exact LeO.none _)
      | (with_reducible refine LeO.ite ?_ ?_)
      | (with_reducible refine LeO.bind ?_ (fun _ => ?_))
      | exact ih0 _ _ _ _
      | exact ih1 _ _ _
      | exact LeO.none _
      | refine LeO.ite ?_ ?_
      | refine LeO.bind ?_ (fun _ => ?_)
set_option maxHeartbeats 8000000 in
set_option maxRecDepth 100000 in
theorem copperplatelaw06_TextPlain.calls (k : Nat) (a0 : ByteArray) (a1 : ByteArray) (r : Bool) (w : World) (h : copperplatelaw06_TextPlain.f k a0 a1 = some r) (hL : LW w) :
    Calls Tryd.prog 9 #[.string a0, .string a1] w fun e w' => e = .returned (.bool r) ∧ Below w.heap.size w w' := by
  have HB := Aside0.mk (Below.refl w.heap.size w)
  have H : ((copperplatelaw06_awake.f).bind fun t152 => (if t152 = true then (if (a0.size : Int) > 300 then (copperplatelaw06_TextPlain.j0 k a0 a1 t152 true) else (if (a1.size : Int) > 300 then (copperplatelaw06_TextPlain.j0 k a0 a1 t152 true) else ((utf_May.f a0).bind fun t153 => (copperplatelaw06_TextPlain.j0 k a0 a1 t152 (!t153))))) else (copperplatelaw06_TextPlain.j0 k a0 a1 t152 true))) = some r := h
  clear h
  replace H := Option.bind_eq_some_iff.mp H
  obtain ⟨t152, A30, H⟩ := H
  replace H : (if t152 = true then (if (a0.size : Int) > 300 then (copperplatelaw06_TextPlain.j0 k a0 a1 t152 true) else (if (a1.size : Int) > 300 then (copperplatelaw06_TextPlain.j0 k a0 a1 t152 true) else ((utf_May.f a0).bind fun t153 => (copperplatelaw06_TextPlain.j0 k a0 a1 t152 (!t153))))) else (copperplatelaw06_TextPlain.j0 k a0 a1 t152 true)) = some r := H
  have A3 := Aside0.mk A30
  clear A30
  have HC4 := Aside0.mk H
  clear H
  go_enter Tryd.func9, Tryd.ntmps9
  go_upto_region 2 with (first | ((with_reducible refine gate_callee (f := 16) rfl ?_); refine goesL_ (some 16) rfl rfl Tryd.func16 (by kernel_rfl) rfl #[] rfl (by (try simp only [List.map_toArray, List.map_cons, List.map_nil]); first | done | rfl | (simp only [List.length_drop, List.length_take]; rfl)) ?_; (with_reducible refine (copperplatelaw06_awake.calls  t152 _ A3.out (hL.low (by repeat (first | (with_reducible first | exact HB.out | apply below_alloc | apply pw_below_drewN | apply below_drew1) | exact HB.out | exact Below.refl _ _)))).mono ?_); rintro e w5 ⟨rfl, hb⟩; refine ⟨_, rfl, ?_⟩; have n0_ := Aside0.mk (below_step (by repeat (first | (with_reducible first | exact HB.out | apply below_alloc | apply pw_below_drewN | apply below_drew1) | exact HB.out)) hb); clear HB; have HB := n0_; clear n0_; (try clear hb); (try clear hb2); (try clear hk); (try clear hi)))
  (try simp only [Act.put, List.setIfInBounds_toArray, List.set_cons_zero, List.set_cons_succ])
  go_cut [33] (fun v33 wc => ∃ (kq : Nat) (x33_3 : Bool), v33 = .bool x33_3 ∧ Aside0 (copperplatelaw06_TextPlain.j0 kq a0 a1 t152 x33_3 = some r) ∧ Aside0 (kq ≤ k) ∧ Aside0 (Below w.heap.size w wc))
  case first =>
    have H := HC4.out
    clear HC4
    by_cases c6 : t152 = true
    · subst c6
      have H1 : (if (a0.size : Int) > 300 then (copperplatelaw06_TextPlain.j0 k a0 a1 true true) else (if (a1.size : Int) > 300 then (copperplatelaw06_TextPlain.j0 k a0 a1 true true) else ((utf_May.f a0).bind fun t153 => (copperplatelaw06_TextPlain.j0 k a0 a1 true (!t153))))) = some r := by rw [if_pos rfl] at H; exact H
      clear H
      have H := H1
      clear H1
      by_cases c7 : (a0.size : Int) > 300
      · rw [if_pos c7] at H
        have c7b0 : decide (300 < (a0.size : Int)) = true := decide_eq_true c7
        have c7b1 : decide (300 < a0.size) = true := decide_eq_true (by omega)
        clear c7
        (first | rw [c7b0] | (simp only [i64_w, i32_w]; rw [c7b0]) | skip)
        have H' := Aside0.mk H
        clear H
        go_wp2
        go_meet
        case rel => exact ⟨_, (true), (by first | rfl | (simp; done) | (simp [*]; done)), H', ⟨by first | omega | exact Nat.le_refl _⟩, ⟨by repeat (first | (with_reducible first | exact HB.out | apply below_alloc | apply pw_below_drewN | apply below_drew1) | exact HB.out)⟩⟩
      · rw [if_neg c7] at H
        have c7b0 : decide (300 < (a0.size : Int)) = false := decide_eq_false c7
        have c7b1 : decide (300 < a0.size) = false := decide_eq_false (by omega)
        clear c7
        (first | rw [c7b0] | (simp only [i64_w, i32_w]; rw [c7b0]) | skip)
        by_cases c8 : (a1.size : Int) > 300
        · rw [if_pos c8] at H
          have c8b0 : decide (300 < (a1.size : Int)) = true := decide_eq_true c8
          have c8b1 : decide (300 < a1.size) = true := decide_eq_true (by omega)
          clear c8
          have H' := Aside0.mk H
          clear H
          go_wp2
          go_meet
          case rel => exact ⟨_, (true), (by first | rfl | (simp; done) | (simp [*]; done)), H', ⟨by first | omega | exact Nat.le_refl _⟩, ⟨by repeat (first | (with_reducible first | exact HB.out | apply below_alloc | apply pw_below_drewN | apply below_drew1) | exact HB.out)⟩⟩
        · rw [if_neg c8] at H
          have c8b0 : decide (300 < (a1.size : Int)) = false := decide_eq_false c8
          have c8b1 : decide (300 < a1.size) = false := decide_eq_false (by omega)
          clear c8
          replace H := Option.bind_eq_some_iff.mp H
          obtain ⟨t153, A90, H⟩ := H
          replace H : (copperplatelaw06_TextPlain.j0 k a0 a1 true (!t153)) = some r := H
          have A9 := Aside0.mk A90
          clear A90
          have H' := Aside0.mk H
          clear H
          go_wp2_with (first | (go_at_call 24; (with_reducible refine (utf_May.calls a0 t153 _ A9.out).mono ?_); rintro e w10 ⟨rfl, hb⟩; have n0_ := Aside0.mk (below_step (by repeat (first | (with_reducible first | exact HB.out | apply below_alloc | apply pw_below_drewN | apply below_drew1) | exact HB.out)) hb); clear HB; have HB := n0_; clear n0_; (try clear hb); (try clear hb2); (try clear hk); (try clear hi)))
          go_meet
          case rel => exact ⟨_, (!t153), (by first | rfl | (simp; done) | (simp [*]; done)), H', ⟨by first | omega | exact Nat.le_refl _⟩, ⟨by repeat (first | (with_reducible first | exact HB.out | apply below_alloc | apply pw_below_drewN | apply below_drew1) | exact HB.out)⟩⟩
    · replace c6 := Bool.eq_false_iff.mpr c6
      subst c6
      have H1 : (copperplatelaw06_TextPlain.j0 k a0 a1 false true) = some r := by rw [if_neg (show ¬ (false = true) by decide)] at H; exact H
      clear H
      have H := H1
      clear H1
      have H' := Aside0.mk H
      clear H
      go_wp2
      go_meet
      case rel => exact ⟨_, (true), (by first | rfl | (simp; done) | (simp [*]; done)), H', ⟨by first | omega | exact Nat.le_refl _⟩, ⟨by repeat (first | (with_reducible first | exact HB.out | apply below_alloc | apply pw_below_drewN | apply below_drew1) | exact HB.out)⟩⟩
  case rest =>
    clear HC4
    try clear c1
    try clear p2
    try clear c6
    try clear c7
    try clear c7b0
    try clear c7b1
    try clear c8
    try clear c8b0
    try clear c8b1
    try clear c9
    obtain ⟨kq, x33_3, rfl, HA, HJ3, HB⟩ := hcut
    cases kq with
    | zero => exact absurd HA.out (by simp [copperplatelaw06_TextPlain.j0])
    | succ kj3 =>
      have H := HA.out
      clear HA
      simp only [copperplatelaw06_TextPlain.j0] at H
      by_cases c11 : x33_3 = true
      · subst c11
        have H1 : (some t152) = some r := by rw [if_pos rfl] at H; exact H
        clear H
        have H := H1
        clear H1
        obtain rfl := Option.some.inj H
        go_wp2
        go_ret
        exact ⟨by first | rfl | (simp [errW_none, errW_some] <;> rfl) | (simp [*, errW_none, errW_some] <;> rfl), by repeat (first | (with_reducible first | exact HB.out | apply below_alloc | apply pw_below_drewN | apply below_drew1) | exact HB.out)⟩
      · replace c11 := Bool.eq_false_iff.mpr c11
        subst c11
        have H1 : (copperplatelaw06_TextPlain.l0 kj3 a0 a1 0) = some r := by rw [if_neg (show ¬ (false = true) by decide)] at H; exact H
        clear H
        have H := H1
        clear H1
        have H' := Aside0.mk H
        clear H
        go_wp2
        go_loopg [6] kj3 (fun kq v6 w' => ∃ (x6_2 : Int), v6 = .int .i64 x6_2 ∧ Aside0 (copperplatelaw06_TextPlain.l0 kq a0 a1 x6_2 = some r) ∧ Aside0 (kq ≤ kj3) ∧ Aside0 (Below w.heap.size w w'))
        case atStart => exact ⟨(0), (by first | rfl | (simp; done) | (simp [*]; done)), H', ⟨Nat.le_refl _⟩, ⟨by repeat (first | (with_reducible first | exact HB.out | apply below_alloc | apply pw_below_drewN | apply below_drew1) | exact HB.out)⟩⟩
        case round =>
          clear H'
          try clear c1
          try clear p2
          try clear c6
          try clear c7
          try clear c7b0
          try clear c7b1
          try clear c8
          try clear c8b0
          try clear c8b1
          try clear c9
          try clear c11
          try clear p2
          obtain ⟨x6_2, rfl, HA, HK2, HB⟩ := hrel
          cases gk with
          | zero => exact absurd HA.out (by simp [copperplatelaw06_TextPlain.l0])
          | succ k2 =>
            have H := HA.out
            clear HA
            simp only [copperplatelaw06_TextPlain.l0] at H
            by_cases c12 : x6_2 < (a0.size : Int)
            · rw [if_pos c12] at H
              have c12b0 : decide (x6_2 < (a0.size : Int)) = true := decide_eq_true c12
              clear c12
              by_cases c13 : 0 ≤ x6_2
              · rw [if_pos c13] at H
                have c13b0 : decide (0 ≤ x6_2) = true := decide_eq_true c13
                clear c13
                by_cases c15 : (bt a0 x6_2) = 34
                · rw [if_pos c15] at H
                  have c15b0 : ((bt a0 x6_2) == 34) = true := beq_iff_eq.mpr c15
                  have c15b1 : ((bt a0 x6_2) != 34) = false := bne_eq_false_iff_eq.mpr c15
                  clear c15
                  obtain rfl := Option.some.inj H
                  have p14 : 0 ≤ (x6_2 : Int) := of_decide_eq_true (by first | (with_reducible assumption) | assumption)
                  have q14 : x6_2 < (a0.size : Int) := of_decide_eq_true (by first | (with_reducible assumption) | assumption)
                  have hx14 := bt_at a0 x6_2
                  replace p14 := eq_true p14
                  replace q14 := eq_true q14
                  go_wp2
                  go_ret
                  exact ⟨by first | rfl | (simp [errW_none, errW_some] <;> rfl) | (simp [*, errW_none, errW_some] <;> rfl), by repeat (first | (with_reducible first | exact HB.out | apply below_alloc | apply pw_below_drewN | apply below_drew1) | exact HB.out)⟩
                · rw [if_neg c15] at H
                  have c15b0 : ((bt a0 x6_2) == 34) = false := beq_eq_false_iff_ne.mpr c15
                  have c15b1 : ((bt a0 x6_2) != 34) = true := bne_iff_ne.mpr c15
                  by_cases c17 : (bt a0 x6_2) = 92
                  · rw [if_pos c17] at H
                    have c17b0 : ((bt a0 x6_2) == 92) = true := beq_iff_eq.mpr c17
                    have c17b1 : ((bt a0 x6_2) != 92) = false := bne_eq_false_iff_eq.mpr c17
                    clear c17
                    obtain rfl := Option.some.inj H
                    have p14 : 0 ≤ (x6_2 : Int) := of_decide_eq_true (by first | (with_reducible assumption) | assumption)
                    have q14 : x6_2 < (a0.size : Int) := of_decide_eq_true (by first | (with_reducible assumption) | assumption)
                    have hx14 := bt_at a0 x6_2
                    replace p14 := eq_true p14
                    replace q14 := eq_true q14
                    have p16 : 0 ≤ (x6_2 : Int) := of_decide_eq_true (by first | (with_reducible assumption) | assumption)
                    have q16 : x6_2 < (a0.size : Int) := of_decide_eq_true (by first | (with_reducible assumption) | assumption)
                    have hx16 := bt_at a0 x6_2
                    replace p16 := eq_true p16
                    replace q16 := eq_true q16
                    go_wp2
                    go_ret
                    exact ⟨by first | rfl | (simp [errW_none, errW_some] <;> rfl) | (simp [*, errW_none, errW_some] <;> rfl), by repeat (first | (with_reducible first | exact HB.out | apply below_alloc | apply pw_below_drewN | apply below_drew1) | exact HB.out)⟩
                  · rw [if_neg c17] at H
                    have c17b0 : ((bt a0 x6_2) == 92) = false := beq_eq_false_iff_ne.mpr c17
                    have c17b1 : ((bt a0 x6_2) != 92) = true := bne_iff_ne.mpr c17
                    by_cases c19 : (bt a0 x6_2) = 10
                    · rw [if_pos c19] at H
                      have c19b0 : ((bt a0 x6_2) == 10) = true := beq_iff_eq.mpr c19
                      have c19b1 : ((bt a0 x6_2) != 10) = false := bne_eq_false_iff_eq.mpr c19
                      clear c19
                      obtain rfl := Option.some.inj H
                      have p14 : 0 ≤ (x6_2 : Int) := of_decide_eq_true (by first | (with_reducible assumption) | assumption)
                      have q14 : x6_2 < (a0.size : Int) := of_decide_eq_true (by first | (with_reducible assumption) | assumption)
                      have hx14 := bt_at a0 x6_2
                      replace p14 := eq_true p14
                      replace q14 := eq_true q14
                      have p16 : 0 ≤ (x6_2 : Int) := of_decide_eq_true (by first | (with_reducible assumption) | assumption)
                      have q16 : x6_2 < (a0.size : Int) := of_decide_eq_true (by first | (with_reducible assumption) | assumption)
                      have hx16 := bt_at a0 x6_2
                      replace p16 := eq_true p16
                      replace q16 := eq_true q16
                      have p18 : 0 ≤ (x6_2 : Int) := of_decide_eq_true (by first | (with_reducible assumption) | assumption)
                      have q18 : x6_2 < (a0.size : Int) := of_decide_eq_true (by first | (with_reducible assumption) | assumption)
                      have hx18 := bt_at a0 x6_2
                      replace p18 := eq_true p18
                      replace q18 := eq_true q18
                      go_wp2
                      go_ret
                      exact ⟨by first | rfl | (simp [errW_none, errW_some] <;> rfl) | (simp [*, errW_none, errW_some] <;> rfl), by repeat (first | (with_reducible first | exact HB.out | apply below_alloc | apply pw_below_drewN | apply below_drew1) | exact HB.out)⟩
                    · rw [if_neg c19] at H
                      have c19b0 : ((bt a0 x6_2) == 10) = false := beq_eq_false_iff_ne.mpr c19
                      have c19b1 : ((bt a0 x6_2) != 10) = true := bne_iff_ne.mpr c19
                      by_cases c21 : (bt a0 x6_2) = 13
                      · rw [if_pos c21] at H
                        have c21b0 : ((bt a0 x6_2) == 13) = true := beq_iff_eq.mpr c21
                        have c21b1 : ((bt a0 x6_2) != 13) = false := bne_eq_false_iff_eq.mpr c21
                        clear c21
                        obtain rfl := Option.some.inj H
                        have p14 : 0 ≤ (x6_2 : Int) := of_decide_eq_true (by first | (with_reducible assumption) | assumption)
                        have q14 : x6_2 < (a0.size : Int) := of_decide_eq_true (by first | (with_reducible assumption) | assumption)
                        have hx14 := bt_at a0 x6_2
                        replace p14 := eq_true p14
                        replace q14 := eq_true q14
                        have p16 : 0 ≤ (x6_2 : Int) := of_decide_eq_true (by first | (with_reducible assumption) | assumption)
                        have q16 : x6_2 < (a0.size : Int) := of_decide_eq_true (by first | (with_reducible assumption) | assumption)
                        have hx16 := bt_at a0 x6_2
                        replace p16 := eq_true p16
                        replace q16 := eq_true q16
                        have p18 : 0 ≤ (x6_2 : Int) := of_decide_eq_true (by first | (with_reducible assumption) | assumption)
                        have q18 : x6_2 < (a0.size : Int) := of_decide_eq_true (by first | (with_reducible assumption) | assumption)
                        have hx18 := bt_at a0 x6_2
                        replace p18 := eq_true p18
                        replace q18 := eq_true q18
                        have p20 : 0 ≤ (x6_2 : Int) := of_decide_eq_true (by first | (with_reducible assumption) | assumption)
                        have q20 : x6_2 < (a0.size : Int) := of_decide_eq_true (by first | (with_reducible assumption) | assumption)
                        have hx20 := bt_at a0 x6_2
                        replace p20 := eq_true p20
                        replace q20 := eq_true q20
                        go_wp2
                        go_ret
                        exact ⟨by first | rfl | (simp [errW_none, errW_some] <;> rfl) | (simp [*, errW_none, errW_some] <;> rfl), by repeat (first | (with_reducible first | exact HB.out | apply below_alloc | apply pw_below_drewN | apply below_drew1) | exact HB.out)⟩
                      · rw [if_neg c21] at H
                        have c21b0 : ((bt a0 x6_2) == 13) = false := beq_eq_false_iff_ne.mpr c21
                        have c21b1 : ((bt a0 x6_2) != 13) = true := bne_iff_ne.mpr c21
                        have H' := Aside0.mk H
                        clear H
                        have p14 : 0 ≤ (x6_2 : Int) := of_decide_eq_true (by first | (with_reducible assumption) | assumption)
                        have q14 : x6_2 < (a0.size : Int) := of_decide_eq_true (by first | (with_reducible assumption) | assumption)
                        have hx14 := bt_at a0 x6_2
                        replace p14 := eq_true p14
                        replace q14 := eq_true q14
                        have p16 : 0 ≤ (x6_2 : Int) := of_decide_eq_true (by first | (with_reducible assumption) | assumption)
                        have q16 : x6_2 < (a0.size : Int) := of_decide_eq_true (by first | (with_reducible assumption) | assumption)
                        have hx16 := bt_at a0 x6_2
                        replace p16 := eq_true p16
                        replace q16 := eq_true q16
                        have p18 : 0 ≤ (x6_2 : Int) := of_decide_eq_true (by first | (with_reducible assumption) | assumption)
                        have q18 : x6_2 < (a0.size : Int) := of_decide_eq_true (by first | (with_reducible assumption) | assumption)
                        have hx18 := bt_at a0 x6_2
                        replace p18 := eq_true p18
                        replace q18 := eq_true q18
                        have p20 : 0 ≤ (x6_2 : Int) := of_decide_eq_true (by first | (with_reducible assumption) | assumption)
                        have q20 : x6_2 < (a0.size : Int) := of_decide_eq_true (by first | (with_reducible assumption) | assumption)
                        have hx20 := bt_at a0 x6_2
                        replace p20 := eq_true p20
                        replace q20 := eq_true q20
                        go_wp2
                        go_roundg k2
                        case measure => have := HJ3.out; have := HK2.out; omega
                        case rel => exact ⟨(wrap64 (x6_2 + 1)), (by first | rfl | (simp; done) | (simp [*]; done)), H', ⟨by have := HJ3.out; have := HK2.out; omega⟩, ⟨by repeat (first | (with_reducible first | exact HB.out | apply below_alloc | apply pw_below_drewN | apply below_drew1) | exact HB.out)⟩⟩
              · rw [if_neg c13] at H
                exact absurd H (by simp)
            · rw [if_neg c12] at H
              have c12b0 : decide (x6_2 < (a0.size : Int)) = false := decide_eq_false c12
              obtain ⟨q34_, hq34_⟩ : ∃ o_ : ByteArray, (⟨#[34]⟩ : ByteArray) ++ a0 = o_ := ⟨_, rfl⟩
              rw [hq34_] at H
              clear c12
              by_cases c22 : 1 + a0.size ≤ 9223372036854775807
              · rw [if_pos c22] at H
                have c22b0 := eq_true c22
                have w1_ : wrap64 ((a0.size : Int) + 1) = (a0.size : Int) + 1 := by unfold wrap64; omega
                rw [w1_] at H
                have c22b1 : decide (1 + a0.size ≤ 9223372036854775807) = true := decide_eq_true c22
                try have c22b2 : (9223372036854775807 < 1 + a0.size) = False := eq_false (Nat.not_lt.2 c22)
                by_cases c23 : q34_.size + 1 ≤ 9223372036854775807
                · rw [if_pos c23] at H
                  have c23b0 := eq_true c23
                  obtain ⟨q2_, hq2_⟩ : ∃ o_ : ByteArray, q34_ ++ (⟨#[34]⟩ : ByteArray) = o_ := ⟨_, rfl⟩
                  rw [hq2_] at H
                  have c23b1 : decide (q34_.size + 1 ≤ 9223372036854775807) = true := decide_eq_true c23
                  try have c23b2 : (9223372036854775807 < q34_.size + 1) = False := eq_false (Nat.not_lt.2 c23)
                  by_cases c24 : q2_.size + a1.size ≤ 9223372036854775807
                  · rw [if_pos c24] at H
                    have c24b0 := eq_true c24
                    have c24b1 : decide (q2_.size + a1.size ≤ 9223372036854775807) = true := decide_eq_true c24
                    try have c24b2 : (9223372036854775807 < q2_.size + a1.size) = False := eq_false (Nat.not_lt.2 c24)
                    replace H := Option.bind_eq_some_iff.mp H
                    obtain ⟨⟨t154, t155, t156⟩, A250, H⟩ := H
                    replace H : (if (q34_ ++ (⟨#[10]⟩ : ByteArray)).size + a1.size ≤ 9223372036854775807 then ((text_String.f ((q34_ ++ (⟨#[10]⟩ : ByteArray)) ++ a1) 0).bind fun bt157 => ((text_String.f q34_ 0).bind fun bt160 => (if t156 = true then (if t154.toList = a0.toList then (if t155 = (wrap64 ((a0.size : Int) + 2)) then (if bt157.2.2 = true then (some false) else (if bt157.2.1 = ((a0.size : Int) + 1) then (if bt160.2.2 = true then (some false) else (some (bt160.2.1 == ((a0.size : Int) + 1)))) else (some false))) else (some false)) else (some false)) else (some false)))) else (none)) = some r := H
                    have A25 := Aside0.mk A250
                    obtain ⟨q3_, hq3_⟩ : ∃ o_ : ByteArray, q34_ ++ (⟨#[10]⟩ : ByteArray) = o_ := ⟨_, rfl⟩
                    rw [hq3_] at H
                    clear A250
                    by_cases c26 : q3_.size + a1.size ≤ 9223372036854775807
                    · rw [if_pos c26] at H
                      have c26b0 := eq_true c26
                      have c26b1 : decide (q3_.size + a1.size ≤ 9223372036854775807) = true := decide_eq_true c26
                      try have c26b2 : (9223372036854775807 < q3_.size + a1.size) = False := eq_false (Nat.not_lt.2 c26)
                      replace H := Option.bind_eq_some_iff.mp H
                      obtain ⟨⟨t157, t158, t159⟩, A270, H⟩ := H
                      replace H : ((text_String.f q34_ 0).bind fun bt160 => (if t156 = true then (if t154.toList = a0.toList then (if t155 = (wrap64 ((a0.size : Int) + 2)) then (if t159 = true then (some false) else (if t158 = ((a0.size : Int) + 1) then (if bt160.2.2 = true then (some false) else (some (bt160.2.1 == ((a0.size : Int) + 1)))) else (some false))) else (some false)) else (some false)) else (some false))) = some r := H
                      have A27 := Aside0.mk A270
                      clear A270
                      replace H := Option.bind_eq_some_iff.mp H
                      obtain ⟨⟨t160, t161, t162⟩, A280, H⟩ := H
                      replace H : (if t156 = true then (if t154.toList = a0.toList then (if t155 = (wrap64 ((a0.size : Int) + 2)) then (if t159 = true then (some false) else (if t158 = ((a0.size : Int) + 1) then (if t162 = true then (some false) else (some (t161 == ((a0.size : Int) + 1)))) else (some false))) else (some false)) else (some false)) else (some false)) = some r := H
                      have A28 := Aside0.mk A280
                      clear A280
                      by_cases c29 : t156 = true
                      · subst c29
                        have H1 : (if t154.toList = a0.toList then (if t155 = (wrap64 ((a0.size : Int) + 2)) then (if t159 = true then (some false) else (if t158 = ((a0.size : Int) + 1) then (if t162 = true then (some false) else (some (t161 == ((a0.size : Int) + 1)))) else (some false))) else (some false)) else (some false)) = some r := by rw [if_pos rfl] at H; exact H
                        clear H
                        have H := H1
                        clear H1
                        by_cases c30 : t154.toList = a0.toList
                        · rw [if_pos c30] at H
                          have c30b0 : (t154.toList == a0.toList) = true := beq_iff_eq.mpr c30
                          have c30b1 : (t154.toList != a0.toList) = false := bne_eq_false_iff_eq.mpr c30
                          clear c30
                          by_cases c31 : t155 = (wrap64 ((a0.size : Int) + 2))
                          · rw [if_pos c31] at H
                            have c31b0 : (t155 == (wrap64 ((a0.size : Int) + 2))) = true := beq_iff_eq.mpr c31
                            have c31b1 : (t155 != (wrap64 ((a0.size : Int) + 2))) = false := bne_eq_false_iff_eq.mpr c31
                            clear c31
                            by_cases c32 : t159 = true
                            · subst c32
                              have H1 : (some false) = some r := by rw [if_pos rfl] at H; exact H
                              clear H
                              have H := H1
                              clear H1
                              obtain rfl := Option.some.inj H
                              go_wp2_with (first | ((with_reducible refine gate_callee (f := 17) rfl ?_); refine goesL_ (some 69) rfl rfl Tryd.func17 (by kernel_rfl) rfl #[.string (q2_ ++ a1), .int .i64 0] rfl (by (try simp only [List.map_toArray, List.map_cons, List.map_nil]); first | done | rfl | (simp only [List.length_drop, List.length_take]; rfl)) ?_; (with_reducible refine (text_String.calls (q2_ ++ a1) 0 t154 t155 true _ A25.out (hL.low (by repeat (first | (with_reducible first | exact HB.out | apply below_alloc | apply pw_below_drewN | apply below_drew1) | exact HB.out | exact Below.refl _ _)))).mono ?_); rintro e w33 ⟨rfl, hb⟩; refine ⟨_, rfl, ?_⟩; have n0_ := Aside0.mk (below_step (by repeat (first | (with_reducible first | exact HB.out | apply below_alloc | apply pw_below_drewN | apply below_drew1) | exact HB.out)) hb); clear HB; have HB := n0_; clear n0_; (try clear hb); (try clear hb2); (try clear hk); (try clear hi)) | ((with_reducible refine gate_callee (f := 17) rfl ?_); refine goesL_ (some 79) rfl rfl Tryd.func17 (by kernel_rfl) rfl #[.string (q3_ ++ a1), .int .i64 0] rfl (by (try simp only [List.map_toArray, List.map_cons, List.map_nil]); first | done | rfl | (simp only [List.length_drop, List.length_take]; rfl)) ?_; (with_reducible refine (text_String.calls (q3_ ++ a1) 0 t157 t158 true _ A27.out (hL.low (by repeat (first | (with_reducible first | exact HB.out | apply below_alloc | apply pw_below_drewN | apply below_drew1) | exact HB.out | exact Below.refl _ _)))).mono ?_); rintro e w34 ⟨rfl, hb⟩; refine ⟨_, rfl, ?_⟩; have n0_ := Aside0.mk (below_step (by repeat (first | (with_reducible first | exact HB.out | apply below_alloc | apply pw_below_drewN | apply below_drew1) | exact HB.out)) hb); clear HB; have HB := n0_; clear n0_; (try clear hb); (try clear hb2); (try clear hk); (try clear hi)) | ((with_reducible refine gate_callee (f := 17) rfl ?_); refine goesL_ (some 86) rfl rfl Tryd.func17 (by kernel_rfl) rfl #[.string q34_, .int .i64 0] rfl (by (try simp only [List.map_toArray, List.map_cons, List.map_nil]); first | done | rfl | (simp only [List.length_drop, List.length_take]; rfl)) ?_; (with_reducible refine (text_String.calls q34_ 0 t160 t161 t162 _ A28.out (hL.low (by repeat (first | (with_reducible first | exact HB.out | apply below_alloc | apply pw_below_drewN | apply below_drew1) | exact HB.out | exact Below.refl _ _)))).mono ?_); rintro e w35 ⟨rfl, hb⟩; refine ⟨_, rfl, ?_⟩; have n0_ := Aside0.mk (below_step (by repeat (first | (with_reducible first | exact HB.out | apply below_alloc | apply pw_below_drewN | apply below_drew1) | exact HB.out)) hb); clear HB; have HB := n0_; clear n0_; (try clear hb); (try clear hb2); (try clear hk); (try clear hi)))
                              go_ret
                              exact ⟨by first | rfl | (simp [errW_none, errW_some] <;> rfl) | (simp [*, errW_none, errW_some] <;> rfl), by repeat (first | (with_reducible first | exact HB.out | apply below_alloc | apply pw_below_drewN | apply below_drew1) | exact HB.out)⟩
                            · replace c32 := Bool.eq_false_iff.mpr c32
                              subst c32
                              have H1 : (if t158 = ((a0.size : Int) + 1) then (if t162 = true then (some false) else (some (t161 == ((a0.size : Int) + 1)))) else (some false)) = some r := by rw [if_neg (show ¬ (false = true) by decide)] at H; exact H
                              clear H
                              have H := H1
                              clear H1
                              by_cases c36 : t158 = ((a0.size : Int) + 1)
                              · rw [if_pos c36] at H
                                have c36b0 : (t158 == ((a0.size : Int) + 1)) = true := beq_iff_eq.mpr c36
                                have c36b1 : (t158 != ((a0.size : Int) + 1)) = false := bne_eq_false_iff_eq.mpr c36
                                clear c36
                                by_cases c37 : t162 = true
                                · subst c37
                                  have H1 : (some false) = some r := by rw [if_pos rfl] at H; exact H
                                  clear H
                                  have H := H1
                                  clear H1
                                  obtain rfl := Option.some.inj H
                                  go_wp2_with (first | ((with_reducible refine gate_callee (f := 17) rfl ?_); refine goesL_ (some 69) rfl rfl Tryd.func17 (by kernel_rfl) rfl #[.string (q2_ ++ a1), .int .i64 0] rfl (by (try simp only [List.map_toArray, List.map_cons, List.map_nil]); first | done | rfl | (simp only [List.length_drop, List.length_take]; rfl)) ?_; (with_reducible refine (text_String.calls (q2_ ++ a1) 0 t154 t155 true _ A25.out (hL.low (by repeat (first | (with_reducible first | exact HB.out | apply below_alloc | apply pw_below_drewN | apply below_drew1) | exact HB.out | exact Below.refl _ _)))).mono ?_); rintro e w38 ⟨rfl, hb⟩; refine ⟨_, rfl, ?_⟩; have n0_ := Aside0.mk (below_step (by repeat (first | (with_reducible first | exact HB.out | apply below_alloc | apply pw_below_drewN | apply below_drew1) | exact HB.out)) hb); clear HB; have HB := n0_; clear n0_; (try clear hb); (try clear hb2); (try clear hk); (try clear hi)) | ((with_reducible refine gate_callee (f := 17) rfl ?_); refine goesL_ (some 79) rfl rfl Tryd.func17 (by kernel_rfl) rfl #[.string (q3_ ++ a1), .int .i64 0] rfl (by (try simp only [List.map_toArray, List.map_cons, List.map_nil]); first | done | rfl | (simp only [List.length_drop, List.length_take]; rfl)) ?_; (with_reducible refine (text_String.calls (q3_ ++ a1) 0 t157 t158 false _ A27.out (hL.low (by repeat (first | (with_reducible first | exact HB.out | apply below_alloc | apply pw_below_drewN | apply below_drew1) | exact HB.out | exact Below.refl _ _)))).mono ?_); rintro e w39 ⟨rfl, hb⟩; refine ⟨_, rfl, ?_⟩; have n0_ := Aside0.mk (below_step (by repeat (first | (with_reducible first | exact HB.out | apply below_alloc | apply pw_below_drewN | apply below_drew1) | exact HB.out)) hb); clear HB; have HB := n0_; clear n0_; (try clear hb); (try clear hb2); (try clear hk); (try clear hi)) | ((with_reducible refine gate_callee (f := 17) rfl ?_); refine goesL_ (some 86) rfl rfl Tryd.func17 (by kernel_rfl) rfl #[.string q34_, .int .i64 0] rfl (by (try simp only [List.map_toArray, List.map_cons, List.map_nil]); first | done | rfl | (simp only [List.length_drop, List.length_take]; rfl)) ?_; (with_reducible refine (text_String.calls q34_ 0 t160 t161 true _ A28.out (hL.low (by repeat (first | (with_reducible first | exact HB.out | apply below_alloc | apply pw_below_drewN | apply below_drew1) | exact HB.out | exact Below.refl _ _)))).mono ?_); rintro e w40 ⟨rfl, hb⟩; refine ⟨_, rfl, ?_⟩; have n0_ := Aside0.mk (below_step (by repeat (first | (with_reducible first | exact HB.out | apply below_alloc | apply pw_below_drewN | apply below_drew1) | exact HB.out)) hb); clear HB; have HB := n0_; clear n0_; (try clear hb); (try clear hb2); (try clear hk); (try clear hi)))
                                  go_ret
                                  exact ⟨by first | rfl | (simp [errW_none, errW_some] <;> rfl) | (simp [*, errW_none, errW_some] <;> rfl), by repeat (first | (with_reducible first | exact HB.out | apply below_alloc | apply pw_below_drewN | apply below_drew1) | exact HB.out)⟩
                                · replace c37 := Bool.eq_false_iff.mpr c37
                                  subst c37
                                  have H1 : (some (t161 == ((a0.size : Int) + 1))) = some r := by rw [if_neg (show ¬ (false = true) by decide)] at H; exact H
                                  clear H
                                  have H := H1
                                  clear H1
                                  obtain rfl := Option.some.inj H
                                  go_wp2_with (first | ((with_reducible refine gate_callee (f := 17) rfl ?_); refine goesL_ (some 69) rfl rfl Tryd.func17 (by kernel_rfl) rfl #[.string (q2_ ++ a1), .int .i64 0] rfl (by (try simp only [List.map_toArray, List.map_cons, List.map_nil]); first | done | rfl | (simp only [List.length_drop, List.length_take]; rfl)) ?_; (with_reducible refine (text_String.calls (q2_ ++ a1) 0 t154 t155 true _ A25.out (hL.low (by repeat (first | (with_reducible first | exact HB.out | apply below_alloc | apply pw_below_drewN | apply below_drew1) | exact HB.out | exact Below.refl _ _)))).mono ?_); rintro e w41 ⟨rfl, hb⟩; refine ⟨_, rfl, ?_⟩; have n0_ := Aside0.mk (below_step (by repeat (first | (with_reducible first | exact HB.out | apply below_alloc | apply pw_below_drewN | apply below_drew1) | exact HB.out)) hb); clear HB; have HB := n0_; clear n0_; (try clear hb); (try clear hb2); (try clear hk); (try clear hi)) | ((with_reducible refine gate_callee (f := 17) rfl ?_); refine goesL_ (some 79) rfl rfl Tryd.func17 (by kernel_rfl) rfl #[.string (q3_ ++ a1), .int .i64 0] rfl (by (try simp only [List.map_toArray, List.map_cons, List.map_nil]); first | done | rfl | (simp only [List.length_drop, List.length_take]; rfl)) ?_; (with_reducible refine (text_String.calls (q3_ ++ a1) 0 t157 t158 false _ A27.out (hL.low (by repeat (first | (with_reducible first | exact HB.out | apply below_alloc | apply pw_below_drewN | apply below_drew1) | exact HB.out | exact Below.refl _ _)))).mono ?_); rintro e w42 ⟨rfl, hb⟩; refine ⟨_, rfl, ?_⟩; have n0_ := Aside0.mk (below_step (by repeat (first | (with_reducible first | exact HB.out | apply below_alloc | apply pw_below_drewN | apply below_drew1) | exact HB.out)) hb); clear HB; have HB := n0_; clear n0_; (try clear hb); (try clear hb2); (try clear hk); (try clear hi)) | ((with_reducible refine gate_callee (f := 17) rfl ?_); refine goesL_ (some 86) rfl rfl Tryd.func17 (by kernel_rfl) rfl #[.string q34_, .int .i64 0] rfl (by (try simp only [List.map_toArray, List.map_cons, List.map_nil]); first | done | rfl | (simp only [List.length_drop, List.length_take]; rfl)) ?_; (with_reducible refine (text_String.calls q34_ 0 t160 t161 false _ A28.out (hL.low (by repeat (first | (with_reducible first | exact HB.out | apply below_alloc | apply pw_below_drewN | apply below_drew1) | exact HB.out | exact Below.refl _ _)))).mono ?_); rintro e w43 ⟨rfl, hb⟩; refine ⟨_, rfl, ?_⟩; have n0_ := Aside0.mk (below_step (by repeat (first | (with_reducible first | exact HB.out | apply below_alloc | apply pw_below_drewN | apply below_drew1) | exact HB.out)) hb); clear HB; have HB := n0_; clear n0_; (try clear hb); (try clear hb2); (try clear hk); (try clear hi)))
                                  go_ret
                                  exact ⟨by first | rfl | (simp [errW_none, errW_some] <;> rfl) | (simp [*, errW_none, errW_some] <;> rfl), by repeat (first | (with_reducible first | exact HB.out | apply below_alloc | apply pw_below_drewN | apply below_drew1) | exact HB.out)⟩
                              · rw [if_neg c36] at H
                                have c36b0 : (t158 == ((a0.size : Int) + 1)) = false := beq_eq_false_iff_ne.mpr c36
                                have c36b1 : (t158 != ((a0.size : Int) + 1)) = true := bne_iff_ne.mpr c36
                                obtain rfl := Option.some.inj H
                                go_wp2_with (first | ((with_reducible refine gate_callee (f := 17) rfl ?_); refine goesL_ (some 69) rfl rfl Tryd.func17 (by kernel_rfl) rfl #[.string (q2_ ++ a1), .int .i64 0] rfl (by (try simp only [List.map_toArray, List.map_cons, List.map_nil]); first | done | rfl | (simp only [List.length_drop, List.length_take]; rfl)) ?_; (with_reducible refine (text_String.calls (q2_ ++ a1) 0 t154 t155 true _ A25.out (hL.low (by repeat (first | (with_reducible first | exact HB.out | apply below_alloc | apply pw_below_drewN | apply below_drew1) | exact HB.out | exact Below.refl _ _)))).mono ?_); rintro e w44 ⟨rfl, hb⟩; refine ⟨_, rfl, ?_⟩; have n0_ := Aside0.mk (below_step (by repeat (first | (with_reducible first | exact HB.out | apply below_alloc | apply pw_below_drewN | apply below_drew1) | exact HB.out)) hb); clear HB; have HB := n0_; clear n0_; (try clear hb); (try clear hb2); (try clear hk); (try clear hi)) | ((with_reducible refine gate_callee (f := 17) rfl ?_); refine goesL_ (some 79) rfl rfl Tryd.func17 (by kernel_rfl) rfl #[.string (q3_ ++ a1), .int .i64 0] rfl (by (try simp only [List.map_toArray, List.map_cons, List.map_nil]); first | done | rfl | (simp only [List.length_drop, List.length_take]; rfl)) ?_; (with_reducible refine (text_String.calls (q3_ ++ a1) 0 t157 t158 false _ A27.out (hL.low (by repeat (first | (with_reducible first | exact HB.out | apply below_alloc | apply pw_below_drewN | apply below_drew1) | exact HB.out | exact Below.refl _ _)))).mono ?_); rintro e w45 ⟨rfl, hb⟩; refine ⟨_, rfl, ?_⟩; have n0_ := Aside0.mk (below_step (by repeat (first | (with_reducible first | exact HB.out | apply below_alloc | apply pw_below_drewN | apply below_drew1) | exact HB.out)) hb); clear HB; have HB := n0_; clear n0_; (try clear hb); (try clear hb2); (try clear hk); (try clear hi)) | ((with_reducible refine gate_callee (f := 17) rfl ?_); refine goesL_ (some 86) rfl rfl Tryd.func17 (by kernel_rfl) rfl #[.string q34_, .int .i64 0] rfl (by (try simp only [List.map_toArray, List.map_cons, List.map_nil]); first | done | rfl | (simp only [List.length_drop, List.length_take]; rfl)) ?_; (with_reducible refine (text_String.calls q34_ 0 t160 t161 t162 _ A28.out (hL.low (by repeat (first | (with_reducible first | exact HB.out | apply below_alloc | apply pw_below_drewN | apply below_drew1) | exact HB.out | exact Below.refl _ _)))).mono ?_); rintro e w46 ⟨rfl, hb⟩; refine ⟨_, rfl, ?_⟩; have n0_ := Aside0.mk (below_step (by repeat (first | (with_reducible first | exact HB.out | apply below_alloc | apply pw_below_drewN | apply below_drew1) | exact HB.out)) hb); clear HB; have HB := n0_; clear n0_; (try clear hb); (try clear hb2); (try clear hk); (try clear hi)))
                                go_ret
                                exact ⟨by first | rfl | (simp [errW_none, errW_some] <;> rfl) | (simp [*, errW_none, errW_some] <;> rfl), by repeat (first | (with_reducible first | exact HB.out | apply below_alloc | apply pw_below_drewN | apply below_drew1) | exact HB.out)⟩
                          · rw [if_neg c31] at H
                            have c31b0 : (t155 == (wrap64 ((a0.size : Int) + 2))) = false := beq_eq_false_iff_ne.mpr c31
                            have c31b1 : (t155 != (wrap64 ((a0.size : Int) + 2))) = true := bne_iff_ne.mpr c31
                            obtain rfl := Option.some.inj H
                            go_wp2_with (first | ((with_reducible refine gate_callee (f := 17) rfl ?_); refine goesL_ (some 69) rfl rfl Tryd.func17 (by kernel_rfl) rfl #[.string (q2_ ++ a1), .int .i64 0] rfl (by (try simp only [List.map_toArray, List.map_cons, List.map_nil]); first | done | rfl | (simp only [List.length_drop, List.length_take]; rfl)) ?_; (with_reducible refine (text_String.calls (q2_ ++ a1) 0 t154 t155 true _ A25.out (hL.low (by repeat (first | (with_reducible first | exact HB.out | apply below_alloc | apply pw_below_drewN | apply below_drew1) | exact HB.out | exact Below.refl _ _)))).mono ?_); rintro e w47 ⟨rfl, hb⟩; refine ⟨_, rfl, ?_⟩; have n0_ := Aside0.mk (below_step (by repeat (first | (with_reducible first | exact HB.out | apply below_alloc | apply pw_below_drewN | apply below_drew1) | exact HB.out)) hb); clear HB; have HB := n0_; clear n0_; (try clear hb); (try clear hb2); (try clear hk); (try clear hi)) | ((with_reducible refine gate_callee (f := 17) rfl ?_); refine goesL_ (some 79) rfl rfl Tryd.func17 (by kernel_rfl) rfl #[.string (q3_ ++ a1), .int .i64 0] rfl (by (try simp only [List.map_toArray, List.map_cons, List.map_nil]); first | done | rfl | (simp only [List.length_drop, List.length_take]; rfl)) ?_; (with_reducible refine (text_String.calls (q3_ ++ a1) 0 t157 t158 t159 _ A27.out (hL.low (by repeat (first | (with_reducible first | exact HB.out | apply below_alloc | apply pw_below_drewN | apply below_drew1) | exact HB.out | exact Below.refl _ _)))).mono ?_); rintro e w48 ⟨rfl, hb⟩; refine ⟨_, rfl, ?_⟩; have n0_ := Aside0.mk (below_step (by repeat (first | (with_reducible first | exact HB.out | apply below_alloc | apply pw_below_drewN | apply below_drew1) | exact HB.out)) hb); clear HB; have HB := n0_; clear n0_; (try clear hb); (try clear hb2); (try clear hk); (try clear hi)) | ((with_reducible refine gate_callee (f := 17) rfl ?_); refine goesL_ (some 86) rfl rfl Tryd.func17 (by kernel_rfl) rfl #[.string q34_, .int .i64 0] rfl (by (try simp only [List.map_toArray, List.map_cons, List.map_nil]); first | done | rfl | (simp only [List.length_drop, List.length_take]; rfl)) ?_; (with_reducible refine (text_String.calls q34_ 0 t160 t161 t162 _ A28.out (hL.low (by repeat (first | (with_reducible first | exact HB.out | apply below_alloc | apply pw_below_drewN | apply below_drew1) | exact HB.out | exact Below.refl _ _)))).mono ?_); rintro e w49 ⟨rfl, hb⟩; refine ⟨_, rfl, ?_⟩; have n0_ := Aside0.mk (below_step (by repeat (first | (with_reducible first | exact HB.out | apply below_alloc | apply pw_below_drewN | apply below_drew1) | exact HB.out)) hb); clear HB; have HB := n0_; clear n0_; (try clear hb); (try clear hb2); (try clear hk); (try clear hi)))
                            go_ret
                            exact ⟨by first | rfl | (simp [errW_none, errW_some] <;> rfl) | (simp [*, errW_none, errW_some] <;> rfl), by repeat (first | (with_reducible first | exact HB.out | apply below_alloc | apply pw_below_drewN | apply below_drew1) | exact HB.out)⟩
                        · rw [if_neg c30] at H
                          have c30b0 : (t154.toList == a0.toList) = false := beq_eq_false_iff_ne.mpr c30
                          have c30b1 : (t154.toList != a0.toList) = true := bne_iff_ne.mpr c30
                          obtain rfl := Option.some.inj H
                          go_wp2_with (first | ((with_reducible refine gate_callee (f := 17) rfl ?_); refine goesL_ (some 69) rfl rfl Tryd.func17 (by kernel_rfl) rfl #[.string (q2_ ++ a1), .int .i64 0] rfl (by (try simp only [List.map_toArray, List.map_cons, List.map_nil]); first | done | rfl | (simp only [List.length_drop, List.length_take]; rfl)) ?_; (with_reducible refine (text_String.calls (q2_ ++ a1) 0 t154 t155 true _ A25.out (hL.low (by repeat (first | (with_reducible first | exact HB.out | apply below_alloc | apply pw_below_drewN | apply below_drew1) | exact HB.out | exact Below.refl _ _)))).mono ?_); rintro e w50 ⟨rfl, hb⟩; refine ⟨_, rfl, ?_⟩; have n0_ := Aside0.mk (below_step (by repeat (first | (with_reducible first | exact HB.out | apply below_alloc | apply pw_below_drewN | apply below_drew1) | exact HB.out)) hb); clear HB; have HB := n0_; clear n0_; (try clear hb); (try clear hb2); (try clear hk); (try clear hi)) | ((with_reducible refine gate_callee (f := 17) rfl ?_); refine goesL_ (some 79) rfl rfl Tryd.func17 (by kernel_rfl) rfl #[.string (q3_ ++ a1), .int .i64 0] rfl (by (try simp only [List.map_toArray, List.map_cons, List.map_nil]); first | done | rfl | (simp only [List.length_drop, List.length_take]; rfl)) ?_; (with_reducible refine (text_String.calls (q3_ ++ a1) 0 t157 t158 t159 _ A27.out (hL.low (by repeat (first | (with_reducible first | exact HB.out | apply below_alloc | apply pw_below_drewN | apply below_drew1) | exact HB.out | exact Below.refl _ _)))).mono ?_); rintro e w51 ⟨rfl, hb⟩; refine ⟨_, rfl, ?_⟩; have n0_ := Aside0.mk (below_step (by repeat (first | (with_reducible first | exact HB.out | apply below_alloc | apply pw_below_drewN | apply below_drew1) | exact HB.out)) hb); clear HB; have HB := n0_; clear n0_; (try clear hb); (try clear hb2); (try clear hk); (try clear hi)) | ((with_reducible refine gate_callee (f := 17) rfl ?_); refine goesL_ (some 86) rfl rfl Tryd.func17 (by kernel_rfl) rfl #[.string q34_, .int .i64 0] rfl (by (try simp only [List.map_toArray, List.map_cons, List.map_nil]); first | done | rfl | (simp only [List.length_drop, List.length_take]; rfl)) ?_; (with_reducible refine (text_String.calls q34_ 0 t160 t161 t162 _ A28.out (hL.low (by repeat (first | (with_reducible first | exact HB.out | apply below_alloc | apply pw_below_drewN | apply below_drew1) | exact HB.out | exact Below.refl _ _)))).mono ?_); rintro e w52 ⟨rfl, hb⟩; refine ⟨_, rfl, ?_⟩; have n0_ := Aside0.mk (below_step (by repeat (first | (with_reducible first | exact HB.out | apply below_alloc | apply pw_below_drewN | apply below_drew1) | exact HB.out)) hb); clear HB; have HB := n0_; clear n0_; (try clear hb); (try clear hb2); (try clear hk); (try clear hi)))
                          go_ret
                          exact ⟨by first | rfl | (simp [errW_none, errW_some] <;> rfl) | (simp [*, errW_none, errW_some] <;> rfl), by repeat (first | (with_reducible first | exact HB.out | apply below_alloc | apply pw_below_drewN | apply below_drew1) | exact HB.out)⟩
                      · replace c29 := Bool.eq_false_iff.mpr c29
                        subst c29
                        have H1 : (some false) = some r := by rw [if_neg (show ¬ (false = true) by decide)] at H; exact H
                        clear H
                        have H := H1
                        clear H1
                        obtain rfl := Option.some.inj H
                        go_wp2_with (first | ((with_reducible refine gate_callee (f := 17) rfl ?_); refine goesL_ (some 69) rfl rfl Tryd.func17 (by kernel_rfl) rfl #[.string (q2_ ++ a1), .int .i64 0] rfl (by (try simp only [List.map_toArray, List.map_cons, List.map_nil]); first | done | rfl | (simp only [List.length_drop, List.length_take]; rfl)) ?_; (with_reducible refine (text_String.calls (q2_ ++ a1) 0 t154 t155 false _ A25.out (hL.low (by repeat (first | (with_reducible first | exact HB.out | apply below_alloc | apply pw_below_drewN | apply below_drew1) | exact HB.out | exact Below.refl _ _)))).mono ?_); rintro e w53 ⟨rfl, hb⟩; refine ⟨_, rfl, ?_⟩; have n0_ := Aside0.mk (below_step (by repeat (first | (with_reducible first | exact HB.out | apply below_alloc | apply pw_below_drewN | apply below_drew1) | exact HB.out)) hb); clear HB; have HB := n0_; clear n0_; (try clear hb); (try clear hb2); (try clear hk); (try clear hi)) | ((with_reducible refine gate_callee (f := 17) rfl ?_); refine goesL_ (some 79) rfl rfl Tryd.func17 (by kernel_rfl) rfl #[.string (q3_ ++ a1), .int .i64 0] rfl (by (try simp only [List.map_toArray, List.map_cons, List.map_nil]); first | done | rfl | (simp only [List.length_drop, List.length_take]; rfl)) ?_; (with_reducible refine (text_String.calls (q3_ ++ a1) 0 t157 t158 t159 _ A27.out (hL.low (by repeat (first | (with_reducible first | exact HB.out | apply below_alloc | apply pw_below_drewN | apply below_drew1) | exact HB.out | exact Below.refl _ _)))).mono ?_); rintro e w54 ⟨rfl, hb⟩; refine ⟨_, rfl, ?_⟩; have n0_ := Aside0.mk (below_step (by repeat (first | (with_reducible first | exact HB.out | apply below_alloc | apply pw_below_drewN | apply below_drew1) | exact HB.out)) hb); clear HB; have HB := n0_; clear n0_; (try clear hb); (try clear hb2); (try clear hk); (try clear hi)) | ((with_reducible refine gate_callee (f := 17) rfl ?_); refine goesL_ (some 86) rfl rfl Tryd.func17 (by kernel_rfl) rfl #[.string q34_, .int .i64 0] rfl (by (try simp only [List.map_toArray, List.map_cons, List.map_nil]); first | done | rfl | (simp only [List.length_drop, List.length_take]; rfl)) ?_; (with_reducible refine (text_String.calls q34_ 0 t160 t161 t162 _ A28.out (hL.low (by repeat (first | (with_reducible first | exact HB.out | apply below_alloc | apply pw_below_drewN | apply below_drew1) | exact HB.out | exact Below.refl _ _)))).mono ?_); rintro e w55 ⟨rfl, hb⟩; refine ⟨_, rfl, ?_⟩; have n0_ := Aside0.mk (below_step (by repeat (first | (with_reducible first | exact HB.out | apply below_alloc | apply pw_below_drewN | apply below_drew1) | exact HB.out)) hb); clear HB; have HB := n0_; clear n0_; (try clear hb); (try clear hb2); (try clear hk); (try clear hi)))
                        go_ret
                        exact ⟨by first | rfl | (simp [errW_none, errW_some] <;> rfl) | (simp [*, errW_none, errW_some] <;> rfl), by repeat (first | (with_reducible first | exact HB.out | apply below_alloc | apply pw_below_drewN | apply below_drew1) | exact HB.out)⟩
                    · rw [if_neg c26] at H
                      exact absurd H (by simp)
                  · rw [if_neg c24] at H
                    exact absurd H (by simp)
                · rw [if_neg c23] at H
                  exact absurd H (by simp)
              · rw [if_neg c22] at H
                exact absurd H (by simp)

/-- THE ONE PURE STATEMENT of copperplatelaw06_TextPlain: yours. -/
def copperplatelaw06_TextPlain.Pure : Prop := ∀ (a0 : ByteArray) (a1 : ByteArray), a0.size ≤ 140737488351232 → a1.size ≤ 140737488351232 → ∃ k, copperplatelaw06_TextPlain.f k a0 a1 = some true
theorem copperplatelaw06_TextPlain.walk (P : copperplatelaw06_TextPlain.Pure) (a0 : ByteArray) (a1 : ByteArray) (w : World) (w0 : a0.size ≤ 140737488351232) (w1 : a1.size ≤ 140737488351232) (hL : LW w) :
    Calls Tryd.prog 9 #[.string a0, .string a1] w fun e w' => e = .returned (.bool true) ∧ Below w.heap.size w w' := by
  obtain ⟨k, h⟩ := P a0 a1 w0 w1
  refine (copperplatelaw06_TextPlain.calls k a0 a1 true w h (hL.low (by repeat (first | (with_reducible first | exact HB.out | apply below_alloc | apply pw_below_drewN | apply below_drew1) | exact HB.out | exact Below.refl _ _)))).mono ?_
  rintro e w' ⟨rfl, hd⟩
  exact ⟨rfl, hd⟩

/-! ### copperplateref06_digit: function 43 -/
mutual
def copperplateref06_digit.j0 : Nat → Int → Bool → Option (Int)
  | 0, _, _ => none
  | k + 1, x0, x8 => if x8 = true then (some (wrap64 ((wrap64 (x0)) - 48))) else (if x0 ≥ 97 then (copperplateref06_digit.j1 k x0 (decide (x0 ≤ 102))) else (copperplateref06_digit.j1 k x0 false))
def copperplateref06_digit.j1 : Nat → Int → Bool → Option (Int)
  | 0, _, _ => none
  | k + 1, x0, x17 => if x17 = true then (some (wrap64 ((wrap64 ((wrap64 (x0)) - 97)) + 10))) else (if x0 ≥ 65 then (if x0 ≤ 70 then (some (wrap64 ((wrap64 ((wrap64 (x0)) - 65)) + 10))) else (some (-1))) else (some (-1)))
end
def copperplateref06_digit.f (k : Nat) (a0 : Int) : Option (Int) := if a0 ≥ 48 then (copperplateref06_digit.j0 k a0 (decide (a0 ≤ 57))) else (copperplateref06_digit.j0 k a0 false)
theorem copperplateref06_digit.mono_l : ∀ k, (∀ y0 y1, LeO (copperplateref06_digit.j0 k y0 y1) (copperplateref06_digit.j0 (k + 1) y0 y1)) ∧ (∀ y0 y1, LeO (copperplateref06_digit.j1 k y0 y1) (copperplateref06_digit.j1 (k + 1) y0 y1))
  | 0 => ⟨fun _ _ r h => by simp [copperplateref06_digit.j0] at h, fun _ _ r h => by simp [copperplateref06_digit.j1] at h⟩
  | k + 1 => by
    obtain ⟨ih0, ih1⟩ := copperplateref06_digit.mono_l k
    refine ⟨?_, ?_⟩
    · intro y0 y1
      unfold copperplateref06_digit.j0
      repeat' first
      | (with_reducible exact ih0 _ _)
      | (with_reducible exact ih1 _ _)
      | (with_reducible exact LeO.refl _)
      | (with_reducible exact LeO.none _)
      | (with_reducible refine LeO.ite ?_ ?_)
      | (with_reducible refine LeO.bind ?_ (fun _ => ?_))
      | exact ih0 _ _
      | exact ih1 _ _
      | exact LeO.none _
      | refine LeO.ite ?_ ?_
      | refine LeO.bind ?_ (fun _ => ?_)
    · intro y0 y1
      unfold copperplateref06_digit.j1
      repeat' first
      | (with_reducible exact ih0 _ _)
      | (with_reducible exact ih1 _ _)
      | (with_reducible exact LeO.refl _)
      | (with_reducible exact LeO.none _)
      | (with_reducible refine LeO.ite ?_ ?_)
      | (with_reducible refine LeO.bind ?_ (fun _ => ?_))
      | exact ih0 _ _
      | exact ih1 _ _
      | exact LeO.none _
      | refine LeO.ite ?_ ?_
      | refine LeO.bind ?_ (fun _ => ?_)
theorem copperplateref06_digit.mono : ∀ a0 k, LeO (copperplateref06_digit.f k a0) (copperplateref06_digit.f (k + 1) a0) := by
  intro a0 k
  obtain ⟨ih0, ih1⟩ := copperplateref06_digit.mono_l k
  unfold copperplateref06_digit.f
  repeat' first
      | (with_reducible exact ih0 _ _)
      | (with_reducible exact ih1 _ _)
      | (with_reducible exact LeO.refl _)
      | (with_reducible exact LeO.none _)
      | (with_reducible refine LeO.ite ?_ ?_)
      | (with_reducible refine LeO.bind ?_ (fun _ => ?_))
      | exact ih0 _ _
      | exact ih1 _ _
      | exact LeO.none _
      | refine LeO.ite ?_ ?_
      | refine LeO.bind ?_ (fun _ => ?_)
set_option maxHeartbeats 8000000 in
set_option maxRecDepth 100000 in
theorem copperplateref06_digit.calls (k : Nat) (a0 : Int) (r : Int) (w : World) (h : copperplateref06_digit.f k a0 = some r) :
    Calls Tryd.prog 43 #[.int .u8 a0] w fun e w' => e = .returned (.int .i64 r) ∧ Drawn0 w w' := by
  have H : (if a0 ≥ 48 then (copperplateref06_digit.j0 k a0 (decide (a0 ≤ 57))) else (copperplateref06_digit.j0 k a0 false)) = some r := h
  clear h
  have HC2 := Aside0.mk H
  clear H
  go_enter Tryd.func43, Tryd.ntmps43
  go_upto_region 1 with (fail)
  go_cut [8] (fun v8 wc => ∃ (kq : Nat) (x8_1 : Bool), v8 = .bool x8_1 ∧ Aside0 (copperplateref06_digit.j0 kq a0 x8_1 = some r) ∧ Aside0 (kq ≤ k) ∧ Drawn0 w wc)
  case first =>
    have H := HC2.out
    clear HC2
    by_cases c3 : a0 ≥ 48
    · rw [if_pos c3] at H
      have c3b0 : decide (48 ≤ a0) = true := decide_eq_true c3
      clear c3
      (first | rw [c3b0] | (simp only [i64_w, i32_w]; rw [c3b0]) | skip)
      have H' := Aside0.mk H
      clear H
      go_wp2
      go_meet
      case rel => exact ⟨_, (decide (a0 ≤ 57)), (by first | rfl | (simp; done) | (simp [*]; done)), H', ⟨by first | omega | exact Nat.le_refl _⟩, by repeat (first | exact Drawn0.refl _ | apply Drawn0.step)⟩
    · rw [if_neg c3] at H
      have c3b0 : decide (48 ≤ a0) = false := decide_eq_false c3
      clear c3
      (first | rw [c3b0] | (simp only [i64_w, i32_w]; rw [c3b0]) | skip)
      have H' := Aside0.mk H
      clear H
      go_wp2
      go_meet
      case rel => exact ⟨_, (false), (by first | rfl | (simp; done) | (simp [*]; done)), H', ⟨by first | omega | exact Nat.le_refl _⟩, by repeat (first | exact Drawn0.refl _ | apply Drawn0.step)⟩
  case rest =>
    clear HC2
    try clear p2
    try clear c3
    try clear c3b0
    obtain ⟨kq, x8_1, rfl, HA, HJ1, ⟨mc1, rfl⟩⟩ := hcut
    cases kq with
    | zero => exact absurd HA.out (by simp [copperplateref06_digit.j0])
    | succ kj1 =>
      have H := HA.out
      clear HA
      simp only [copperplateref06_digit.j0] at H
      by_cases c4 : x8_1 = true
      · subst c4
        have H1 : (some (wrap64 ((wrap64 (a0)) - 48))) = some r := by rw [if_pos rfl] at H; exact H
        clear H
        have H := H1
        clear H1
        obtain rfl := Option.some.inj H
        go_wp2
        go_ret
        exact ⟨by first | rfl | (simp; done) | (simp [*]; done), by repeat (first | exact Drawn0.refl _ | apply Drawn0.step)⟩
      · replace c4 := Bool.eq_false_iff.mpr c4
        subst c4
        have H1 : (if a0 ≥ 97 then (copperplateref06_digit.j1 kj1 a0 (decide (a0 ≤ 102))) else (copperplateref06_digit.j1 kj1 a0 false)) = some r := by rw [if_neg (show ¬ (false = true) by decide)] at H; exact H
        clear H
        have H := H1
        clear H1
        have HC5 := Aside0.mk H
        clear H
        go_upto_region 3 with (fail)
        go_cut [17] (fun v17 wc => ∃ (kq : Nat) (x17_4 : Bool), v17 = .bool x17_4 ∧ Aside0 (copperplateref06_digit.j1 kq a0 x17_4 = some r) ∧ Aside0 (kq ≤ kj1) ∧ Drawn0 w wc)
        case first =>
          have H := HC5.out
          clear HC5
          by_cases c6 : a0 ≥ 97
          · rw [if_pos c6] at H
            have c6b0 : decide (97 ≤ a0) = true := decide_eq_true c6
            clear c6
            (first | rw [c6b0] | (simp only [i64_w, i32_w]; rw [c6b0]) | skip)
            have H' := Aside0.mk H
            clear H
            go_wp2
            go_meet
            case rel => exact ⟨_, (decide (a0 ≤ 102)), (by first | rfl | (simp; done) | (simp [*]; done)), H', ⟨by have := HJ1.out; first | omega | exact Nat.le_refl _⟩, by repeat (first | exact Drawn0.refl _ | apply Drawn0.step)⟩
          · rw [if_neg c6] at H
            have c6b0 : decide (97 ≤ a0) = false := decide_eq_false c6
            clear c6
            (first | rw [c6b0] | (simp only [i64_w, i32_w]; rw [c6b0]) | skip)
            have H' := Aside0.mk H
            clear H
            go_wp2
            go_meet
            case rel => exact ⟨_, (false), (by first | rfl | (simp; done) | (simp [*]; done)), H', ⟨by have := HJ1.out; first | omega | exact Nat.le_refl _⟩, by repeat (first | exact Drawn0.refl _ | apply Drawn0.step)⟩
        case rest =>
          clear HC5
          try clear c1
          try clear p2
          try clear c3
          try clear c3b0
          try clear c4
          try clear c6
          try clear c6b0
          try clear p6
          try clear p2
          obtain ⟨kq, x17_4, rfl, HA, HJ4, ⟨mc4, rfl⟩⟩ := hcut
          cases kq with
          | zero => exact absurd HA.out (by simp [copperplateref06_digit.j1])
          | succ kj4 =>
            have H := HA.out
            clear HA
            simp only [copperplateref06_digit.j1] at H
            by_cases c7 : x17_4 = true
            · subst c7
              have H1 : (some (wrap64 ((wrap64 ((wrap64 (a0)) - 97)) + 10))) = some r := by rw [if_pos rfl] at H; exact H
              clear H
              have H := H1
              clear H1
              obtain rfl := Option.some.inj H
              go_wp2
              go_ret
              exact ⟨by first | rfl | (simp; done) | (simp [*]; done), by repeat (first | exact Drawn0.refl _ | apply Drawn0.step)⟩
            · replace c7 := Bool.eq_false_iff.mpr c7
              subst c7
              have H1 : (if a0 ≥ 65 then (if a0 ≤ 70 then (some (wrap64 ((wrap64 ((wrap64 (a0)) - 65)) + 10))) else (some (-1))) else (some (-1))) = some r := by rw [if_neg (show ¬ (false = true) by decide)] at H; exact H
              clear H
              have H := H1
              clear H1
              by_cases c8 : a0 ≥ 65
              · rw [if_pos c8] at H
                have c8b0 : decide (65 ≤ a0) = true := decide_eq_true c8
                clear c8
                by_cases c9 : a0 ≤ 70
                · rw [if_pos c9] at H
                  have c9b0 : decide (a0 ≤ 70) = true := decide_eq_true c9
                  clear c9
                  obtain rfl := Option.some.inj H
                  go_wp2
                  go_ret
                  exact ⟨by first | rfl | (simp; done) | (simp [*]; done), by repeat (first | exact Drawn0.refl _ | apply Drawn0.step)⟩
                · rw [if_neg c9] at H
                  have c9b0 : decide (a0 ≤ 70) = false := decide_eq_false c9
                  clear c9
                  obtain rfl := Option.some.inj H
                  go_wp2
                  go_ret
                  exact ⟨by first | rfl | (simp; done) | (simp [*]; done), by repeat (first | exact Drawn0.refl _ | apply Drawn0.step)⟩
              · rw [if_neg c8] at H
                have c8b0 : decide (65 ≤ a0) = false := decide_eq_false c8
                clear c8
                obtain rfl := Option.some.inj H
                go_wp2
                go_ret
                exact ⟨by first | rfl | (simp; done) | (simp [*]; done), by repeat (first | exact Drawn0.refl _ | apply Drawn0.step)⟩

end Go.Proofs.YtcebkppagamjiaaDoor.Q
