-- Printed for this seat by a program of this session (qprint.py), out of the translation; Lean checks it.
import Derived.Test.YtcebkppagamjiaaDoorQ0
import Derived.Test.YtcebkppagamjiaaDoorQ1
namespace Go.Proofs.YtcebkppagamjiaaDoor.Q
open Go.Proofs.YtcebkppagamjiaaDoor.G
open Go.RowKit Go.Proofs.YtcebkppagamjiaaDoorW.PrintWords Go.Proofs.YtcebkppagamjiaaDoorW.PrintLast Go.Proofs.YtcebkppagamjiaaDoorW.PrintMore
attribute [local go_sem] max2_int min2_int max_two min_two max_three min_three max_four min_four   -- for this text's walks alone
set_option linter.unusedVariables false
set_option linter.unusedSimpArgs false

/-! ### copperplatelaw06_TextEscape: function 7 -/
mutual
def copperplatelaw06_TextEscape.j0 : Nat → Int → ByteArray → Bool → Bool → Option (Bool)
  | 0, _, _, _, _ => none
  | k + 1, x0, x1, x5, x21 => if x21 = true then (some x5) else ((some (([92, x0] : List Int) : List Int)).bind fun y136 => (if (strOfNums y136).size + x1.size ≤ 9223372036854775807 then ((text_Escape.f ((strOfNums y136) ++ x1) 0).bind fun bt139 => (if x0 = 34 then (copperplatelaw06_TextEscape.j1 k x0 bt139.1 bt139.2.1 bt139.2.2 (-1) x0 (x0 == 34)) else (if x0 = 92 then (copperplatelaw06_TextEscape.j1 k x0 bt139.1 bt139.2.1 bt139.2.2 (-1) x0 (x0 == 92)) else (copperplatelaw06_TextEscape.j1 k x0 bt139.1 bt139.2.1 bt139.2.2 (-1) x0 (x0 == 47))))) else (none)))
def copperplatelaw06_TextEscape.j1 : Nat → Int → ByteArray → Int → Bool → Int → Int → Bool → Option (Bool)
  | 0, _, _, _, _, _, _, _ => none
  | k + 1, x0, x6, x7, x8, x9, x33, x34 => if x34 = true then (if (wrap64 (x0)) < 0 then (if x8 = true then (some false) else (if x6.toList = ([] : List UInt8) then (some (x7 == 0)) else (some false))) else (if x8 = true then (if x7 = 2 then (if (x6.size : Int) = 1 then (if 0 < (x6.size : Int) then (some ((wrap64 (bt x6 0)) == (wrap64 (x0)))) else (none)) else (some false)) else (some false)) else (some false))) else (if x33 = 98 then (if 8 < 0 then (if x8 = true then (some false) else (if x6.toList = ([] : List UInt8) then (some (x7 == 0)) else (some false))) else (if x8 = true then (if x7 = 2 then (if (x6.size : Int) = 1 then (if 0 < (x6.size : Int) then (some ((wrap64 (bt x6 0)) == 8)) else (none)) else (some false)) else (some false)) else (some false))) else (if x33 = 102 then (if 12 < 0 then (if x8 = true then (some false) else (if x6.toList = ([] : List UInt8) then (some (x7 == 0)) else (some false))) else (if x8 = true then (if x7 = 2 then (if (x6.size : Int) = 1 then (if 0 < (x6.size : Int) then (some ((wrap64 (bt x6 0)) == 12)) else (none)) else (some false)) else (some false)) else (some false))) else (if x33 = 110 then (if 10 < 0 then (if x8 = true then (some false) else (if x6.toList = ([] : List UInt8) then (some (x7 == 0)) else (some false))) else (if x8 = true then (if x7 = 2 then (if (x6.size : Int) = 1 then (if 0 < (x6.size : Int) then (some ((wrap64 (bt x6 0)) == 10)) else (none)) else (some false)) else (some false)) else (some false))) else (if x33 = 114 then (if 13 < 0 then (if x8 = true then (some false) else (if x6.toList = ([] : List UInt8) then (some (x7 == 0)) else (some false))) else (if x8 = true then (if x7 = 2 then (if (x6.size : Int) = 1 then (if 0 < (x6.size : Int) then (some ((wrap64 (bt x6 0)) == 13)) else (none)) else (some false)) else (some false)) else (some false))) else (if x33 = 116 then (if 9 < 0 then (if x8 = true then (some false) else (if x6.toList = ([] : List UInt8) then (some (x7 == 0)) else (some false))) else (if x8 = true then (if x7 = 2 then (if (x6.size : Int) = 1 then (if 0 < (x6.size : Int) then (some ((wrap64 (bt x6 0)) == 9)) else (none)) else (some false)) else (some false)) else (some false))) else (if x9 < 0 then (if x8 = true then (some false) else (if x6.toList = ([] : List UInt8) then (some (x7 == 0)) else (some false))) else (if x8 = true then (if x7 = 2 then (if (x6.size : Int) = 1 then (if 0 < (x6.size : Int) then (some ((wrap64 (bt x6 0)) == x9)) else (none)) else (some false)) else (some false)) else (some false))))))))
end
def copperplatelaw06_TextEscape.f (k : Nat) (a0 : Int) (a1 : ByteArray) : Option (Bool) := (copperplatelaw06_awake.f).bind fun t135 => (if t135 = true then (if (a1.size : Int) > 300 then (copperplatelaw06_TextEscape.j0 k a0 a1 t135 true) else (copperplatelaw06_TextEscape.j0 k a0 a1 t135 (a0 == 117))) else (copperplatelaw06_TextEscape.j0 k a0 a1 t135 true))
theorem copperplatelaw06_TextEscape.mono_l : ∀ k, (∀ y0 y1 y2 y3, LeO (copperplatelaw06_TextEscape.j0 k y0 y1 y2 y3) (copperplatelaw06_TextEscape.j0 (k + 1) y0 y1 y2 y3)) ∧ (∀ y0 y1 y2 y3 y4 y5 y6, LeO (copperplatelaw06_TextEscape.j1 k y0 y1 y2 y3 y4 y5 y6) (copperplatelaw06_TextEscape.j1 (k + 1) y0 y1 y2 y3 y4 y5 y6))
  | 0 => ⟨fun _ _ _ _ r h => by simp [copperplatelaw06_TextEscape.j0] at h, fun _ _ _ _ _ _ _ r h => by simp [copperplatelaw06_TextEscape.j1] at h⟩
  | k + 1 => by
    obtain ⟨ih0, ih1⟩ := copperplatelaw06_TextEscape.mono_l k
    refine ⟨?_, ?_⟩
    · intro y0 y1 y2 y3
      unfold copperplatelaw06_TextEscape.j0
      repeat' first
      | (with_reducible exact ih0 _ _ _ _)
      | (with_reducible exact ih1 _ _ _ _ _ _ _)
      | (with_reducible exact LeO.refl _)
      | (with_reducible exact LeO.none _)
      | (with_reducible refine LeO.ite ?_ ?_)
      | (with_reducible refine LeO.bind ?_ (fun _ => ?_))
      | exact ih0 _ _ _ _
      | exact ih1 _ _ _ _ _ _ _
      | exact LeO.none _
      | refine LeO.ite ?_ ?_
      | refine LeO.bind ?_ (fun _ => ?_)
    · intro y0 y1 y2 y3 y4 y5 y6
      unfold copperplatelaw06_TextEscape.j1
      repeat' first
      | (with_reducible exact ih0 _ _ _ _)
      | (with_reducible exact ih1 _ _ _ _ _ _ _)
      | (with_reducible exact LeO.refl _)
      | (with_reducible exact LeO.none _)
      | (with_reducible refine LeO.ite ?_ ?_)
      | (with_reducible refine LeO.bind ?_ (fun _ => ?_))
      | exact ih0 _ _ _ _
      | exact ih1 _ _ _ _ _ _ _
      | exact LeO.none _
      | refine LeO.ite ?_ ?_
      | refine LeO.bind ?_ (fun _ => ?_)
theorem copperplatelaw06_TextEscape.mono : ∀ a0 a1 k, LeO (copperplatelaw06_TextEscape.f k a0 a1) (copperplatelaw06_TextEscape.f (k + 1) a0 a1) := by
  intro a0 a1 k
  obtain ⟨ih0, ih1⟩ := copperplatelaw06_TextEscape.mono_l k
  unfold copperplatelaw06_TextEscape.f
  repeat' first
      | (with_reducible exact ih0 _ _ _ _)
      | (with_reducible exact ih1 _ _ _ _ _ _ _)
      | (with_reducible exact LeO.refl _)
      | (with_reducible exact LeO.none _)
      | (with_reducible refine LeO.ite ?_ ?_)
      | (with_reducible refine LeO.bind ?_ (fun _ => ?_))
      | exact ih0 _ _ _ _
      | exact ih1 _ _ _ _ _ _ _
      | exact LeO.none _
      | refine LeO.ite ?_ ?_
      | refine LeO.bind ?_ (fun _ => ?_)
set_option maxHeartbeats 8000000 in
set_option maxRecDepth 100000 in
theorem copperplatelaw06_TextEscape.calls (k : Nat) (a0 : Int) (a1 : ByteArray) (r : Bool) (w : World) (h : copperplatelaw06_TextEscape.f k a0 a1 = some r) (hL : LW w) :
    Calls Tryd.prog 7 #[.int .u8 a0, .string a1] w fun e w' => e = .returned (.bool r) ∧ Below w.heap.size w w' := by
  have HB := Aside0.mk (Below.refl w.heap.size w)
  have H : ((copperplatelaw06_awake.f).bind fun t135 => (if t135 = true then (if (a1.size : Int) > 300 then (copperplatelaw06_TextEscape.j0 k a0 a1 t135 true) else (copperplatelaw06_TextEscape.j0 k a0 a1 t135 (a0 == 117))) else (copperplatelaw06_TextEscape.j0 k a0 a1 t135 true))) = some r := h
  clear h
  replace H := Option.bind_eq_some_iff.mp H
  obtain ⟨t135, A30, H⟩ := H
  replace H : (if t135 = true then (if (a1.size : Int) > 300 then (copperplatelaw06_TextEscape.j0 k a0 a1 t135 true) else (copperplatelaw06_TextEscape.j0 k a0 a1 t135 (a0 == 117))) else (copperplatelaw06_TextEscape.j0 k a0 a1 t135 true)) = some r := H
  have A3 := Aside0.mk A30
  clear A30
  have HC4 := Aside0.mk H
  clear H
  go_enter Tryd.func7, Tryd.ntmps7
  go_upto_region 2 with (first | ((with_reducible refine gate_callee (f := 16) rfl ?_); refine goesL_ (some 10) rfl rfl Tryd.func16 (by kernel_rfl) rfl #[] rfl (by (try simp only [List.map_toArray, List.map_cons, List.map_nil]); first | done | rfl | (simp only [List.length_drop, List.length_take]; rfl)) ?_; (with_reducible refine (copperplatelaw06_awake.calls  t135 _ A3.out (hL.low (by repeat (first | (with_reducible first | exact HB.out | apply below_alloc | apply pw_below_drewN | apply below_drew1) | exact HB.out | exact Below.refl _ _)))).mono ?_); rintro e w5 ⟨rfl, hb⟩; refine ⟨_, rfl, ?_⟩; have n0_ := Aside0.mk (below_step (by repeat (first | (with_reducible first | exact HB.out | apply below_alloc | apply pw_below_drewN | apply below_drew1) | exact HB.out)) hb); clear HB; have HB := n0_; clear n0_; (try clear hb); (try clear hb2); (try clear hk); (try clear hi)))
  (try simp only [Act.put, List.setIfInBounds_toArray, List.set_cons_zero, List.set_cons_succ])
  go_cut [21] (fun v21 wc => ∃ (kq : Nat) (x21_3 : Bool), v21 = .bool x21_3 ∧ Aside0 (copperplatelaw06_TextEscape.j0 kq a0 a1 t135 x21_3 = some r) ∧ Aside0 (kq ≤ k) ∧ Aside0 (Below w.heap.size w wc))
  case first =>
    have H := HC4.out
    clear HC4
    by_cases c6 : t135 = true
    · subst c6
      have H1 : (if (a1.size : Int) > 300 then (copperplatelaw06_TextEscape.j0 k a0 a1 true true) else (copperplatelaw06_TextEscape.j0 k a0 a1 true (a0 == 117))) = some r := by rw [if_pos rfl] at H; exact H
      clear H
      have H := H1
      clear H1
      by_cases c7 : (a1.size : Int) > 300
      · rw [if_pos c7] at H
        have c7b0 : decide (300 < (a1.size : Int)) = true := decide_eq_true c7
        have c7b1 : decide (300 < a1.size) = true := decide_eq_true (by omega)
        clear c7
        (first | rw [c7b0] | (simp only [i64_w, i32_w]; rw [c7b0]) | skip)
        have H' := Aside0.mk H
        clear H
        go_wp2
        go_meet
        case rel => exact ⟨_, (true), (by first | rfl | (simp; done) | (simp [*]; done)), H', ⟨by first | omega | exact Nat.le_refl _⟩, ⟨by repeat (first | (with_reducible first | exact HB.out | apply below_alloc | apply pw_below_drewN | apply below_drew1) | exact HB.out)⟩⟩
      · rw [if_neg c7] at H
        have c7b0 : decide (300 < (a1.size : Int)) = false := decide_eq_false c7
        have c7b1 : decide (300 < a1.size) = false := decide_eq_false (by omega)
        clear c7
        (first | rw [c7b0] | (simp only [i64_w, i32_w]; rw [c7b0]) | skip)
        have H' := Aside0.mk H
        clear H
        go_wp2
        go_meet
        case rel => exact ⟨_, ((a0 == 117)), (by first | rfl | (simp; done) | (simp [*]; done)), H', ⟨by first | omega | exact Nat.le_refl _⟩, ⟨by repeat (first | (with_reducible first | exact HB.out | apply below_alloc | apply pw_below_drewN | apply below_drew1) | exact HB.out)⟩⟩
    · replace c6 := Bool.eq_false_iff.mpr c6
      subst c6
      have H1 : (copperplatelaw06_TextEscape.j0 k a0 a1 false true) = some r := by rw [if_neg (show ¬ (false = true) by decide)] at H; exact H
      clear H
      have H := H1
      clear H1
      have H' := Aside0.mk H
      clear H
      go_wp2
      go_meet
      case rel => exact ⟨_, (true), (by first | rfl | (simp; done) | (simp [*]; done)), H', ⟨by first | omega | exact Nat.le_refl _⟩, ⟨by repeat (first | (with_reducible first | exact HB.out | apply below_alloc | apply pw_below_drewN | apply below_drew1) | exact HB.out)⟩⟩
  case rest =>
    clear HC4
    try clear c1
    try clear p2
    try clear c6
    try clear c7
    try clear c7b0
    try clear c7b1
    obtain ⟨kq, x21_3, rfl, HA, HJ3, HB⟩ := hcut
    cases kq with
    | zero => exact absurd HA.out (by simp [copperplatelaw06_TextEscape.j0])
    | succ kj3 =>
      have H := HA.out
      clear HA
      simp only [copperplatelaw06_TextEscape.j0] at H
      by_cases c8 : x21_3 = true
      · subst c8
        have H1 : (some t135) = some r := by rw [if_pos rfl] at H; exact H
        clear H
        have H := H1
        clear H1
        obtain rfl := Option.some.inj H
        go_wp2
        go_ret
        exact ⟨by first | rfl | (simp [errW_none, errW_some] <;> rfl) | (simp [*, errW_none, errW_some] <;> rfl), by repeat (first | (with_reducible first | exact HB.out | apply below_alloc | apply pw_below_drewN | apply below_drew1) | exact HB.out)⟩
      · replace c8 := Bool.eq_false_iff.mpr c8
        subst c8
        have H1 : ((some (([92, a0] : List Int) : List Int)).bind fun y136 => (if (strOfNums y136).size + a1.size ≤ 9223372036854775807 then ((text_Escape.f ((strOfNums y136) ++ a1) 0).bind fun bt139 => (if a0 = 34 then (copperplatelaw06_TextEscape.j1 kj3 a0 bt139.1 bt139.2.1 bt139.2.2 (-1) a0 (a0 == 34)) else (if a0 = 92 then (copperplatelaw06_TextEscape.j1 kj3 a0 bt139.1 bt139.2.1 bt139.2.2 (-1) a0 (a0 == 92)) else (copperplatelaw06_TextEscape.j1 kj3 a0 bt139.1 bt139.2.1 bt139.2.2 (-1) a0 (a0 == 47))))) else (none))) = some r := by rw [if_neg (show ¬ (false = true) by decide)] at H; exact H
        clear H
        have H := H1
        clear H1
        obtain ⟨y136, hy136⟩ : ∃ y_ : List Int, y_ = (([92, a0] : List Int)) := ⟨_, rfl⟩
        replace H : (if (strOfNums y136).size + a1.size ≤ 9223372036854775807 then ((text_Escape.f ((strOfNums y136) ++ a1) 0).bind fun bt139 => (if a0 = 34 then (copperplatelaw06_TextEscape.j1 kj3 a0 bt139.1 bt139.2.1 bt139.2.2 (-1) a0 (a0 == 34)) else (if a0 = 92 then (copperplatelaw06_TextEscape.j1 kj3 a0 bt139.1 bt139.2.1 bt139.2.2 (-1) a0 (a0 == 92)) else (copperplatelaw06_TextEscape.j1 kj3 a0 bt139.1 bt139.2.1 bt139.2.2 (-1) a0 (a0 == 47))))) else (none)) = some r := by first | (rw [hy136]; with_reducible exact H) | (have H2_ := (Option.bind_some _ _).symm.trans H; rw [hy136]; with_reducible exact H2_) | (have H2_ := (Option.bind_some _ _).symm.trans H; with_reducible exact H2_) | with_reducible exact H | (rw [hy136]; exact H) | exact H
        have Ny136 := Aside0.mk hy136
        clear hy136
        by_cases c9 : (strOfNums y136).size + a1.size ≤ 9223372036854775807
        · rw [if_pos c9] at H
          have c9b0 := eq_true c9
          have c9b1 : decide ((strOfNums y136).size + a1.size ≤ 9223372036854775807) = true := decide_eq_true c9
          try have c9b2 : (9223372036854775807 < (strOfNums y136).size + a1.size) = False := eq_false (Nat.not_lt.2 c9)
          replace H := Option.bind_eq_some_iff.mp H
          obtain ⟨⟨t139, t140, t141⟩, A100, H⟩ := H
          replace H : (if a0 = 34 then (copperplatelaw06_TextEscape.j1 kj3 a0 t139 t140 t141 (-1) a0 (a0 == 34)) else (if a0 = 92 then (copperplatelaw06_TextEscape.j1 kj3 a0 t139 t140 t141 (-1) a0 (a0 == 92)) else (copperplatelaw06_TextEscape.j1 kj3 a0 t139 t140 t141 (-1) a0 (a0 == 47)))) = some r := H
          have A10 := Aside0.mk A100
          clear A100
          have HC11 := Aside0.mk H
          clear H
          go_upto_if 34 with (first | ((with_reducible refine gate_dst (N := 25) rfl ?_); (try (refine gate_guard (by rfl) ?_; dsimp only)); refine Kd.R_lit (Kd.int .u8) _ 5 ?hg (N := 25) ?hd (xs := ([92, a0] : List Int)) (inner := [.int .u8 92, .int .u8 a0]) (ok := fun _ => True) (okp := fun _ => True) ?hr ?hp (fun _ hk => hk) trivial (Below.refl _ _) (Nat.le_refl _) (by simp) ?_; (case hd => rfl); (case hg => rfl); (case hr => first | (go_simp; done) | (go_simp; rfl)); (case hp => exact (Reps.one (show Kd.M (Kd.int .u8) _ _ _ 92 [.int .u8 92] from rfl) (Reps.one (show Kd.M (Kd.int .u8) _ _ _ a0 [.int .u8 a0] from rfl) (Reps.none _ _)))); intro v137 w12 ho13 hb hg_ hnew_; clear hg_ hnew_; (first | rw [← Ny136.out] at ho13 | (simp only [Int.reduceToNat] at ho13; rw [← Ny136.out] at ho13)); have n0_ := Aside0.mk (Kd.R_lower ho13 (below_size (by repeat (first | (with_reducible first | exact HB.out | apply below_alloc | apply pw_below_drewN | apply below_drew1) | exact HB.out)))); have n1_ := Aside0.mk (below_step (by repeat (first | (with_reducible first | exact HB.out | apply below_alloc | apply pw_below_drewN | apply below_drew1) | exact HB.out)) hb); clear HB; have HO138 := n0_; have HB := n1_; clear n0_ n1_; clear hb ho13; have hcv14 := own_string (P := Tryd.prog) Tryd.underlying33 Tryd.underlying5 Tryd.underlying9 (Kd.own_of_R HO138.out)) | ((with_reducible refine gate_callee (f := 19) rfl ?_); refine goesL_ (some 29) rfl rfl Tryd.func19 (by kernel_rfl) rfl #[.string ((strOfNums y136) ++ a1), .int .i64 0] rfl (by (try simp only [List.map_toArray, List.map_cons, List.map_nil]); first | done | rfl | (simp only [List.length_drop, List.length_take]; rfl)) ?_; (with_reducible refine (text_Escape.calls ((strOfNums y136) ++ a1) 0 t139 t140 t141 _ A10.out (hL.low (by repeat (first | (with_reducible first | exact HB.out | apply below_alloc | apply pw_below_drewN | apply below_drew1) | exact HB.out | exact Below.refl _ _)))).mono ?_); rintro e w15 ⟨rfl, hb⟩; refine ⟨_, rfl, ?_⟩; have n0_ := Aside0.mk (Kd.R_below (by (with_reducible repeat (first | apply Kd.R_alloc | apply Kd.R_drewN | apply Kd.R_drew)); exact HO138.out) hb); have n1_ := Aside0.mk (below_step (by repeat (first | (with_reducible first | exact HB.out | apply below_alloc | apply pw_below_drewN | apply below_drew1) | exact HB.out)) hb); clear HO138; clear HB; have HO138 := n0_; have HB := n1_; clear n0_ n1_; (try clear hb); (try clear hb2); (try clear hk); (try clear hi)))
          (try simp only [Act.put, List.setIfInBounds_toArray, List.set_cons_zero, List.set_cons_succ])
          go_cut [34] (fun v34 wc => ∃ (kq : Nat) (x34_10 : Bool), v34 = .bool x34_10 ∧ Aside0 (copperplatelaw06_TextEscape.j1 kq a0 t139 t140 t141 (-1) a0 x34_10 = some r) ∧ Aside0 (kq ≤ kj3) ∧ Aside0 (Below w.heap.size w wc))
          case first =>
            have H := HC11.out
            clear HC11
            by_cases c16 : a0 = 34
            · rw [if_pos c16] at H
              have c16b0 : (a0 == 34) = true := beq_iff_eq.mpr c16
              have c16b1 : (a0 != 34) = false := bne_eq_false_iff_eq.mpr c16
              clear c16
              (first | rw [c16b0] | (simp only [i64_w, i32_w]; rw [c16b0]) | skip)
              have H' := Aside0.mk H
              clear H
              go_wp2
              go_meet
              case rel => exact ⟨_, ((a0 == 34)), (by first | rfl | (simp; done) | (simp [*]; done)), H', ⟨by have := HJ3.out; first | omega | exact Nat.le_refl _⟩, ⟨by repeat (first | (with_reducible first | exact HB.out | apply below_alloc | apply pw_below_drewN | apply below_drew1) | exact HB.out)⟩⟩
            · rw [if_neg c16] at H
              have c16b0 : (a0 == 34) = false := beq_eq_false_iff_ne.mpr c16
              have c16b1 : (a0 != 34) = true := bne_iff_ne.mpr c16
              (first | rw [c16b0] | (simp only [i64_w, i32_w]; rw [c16b0]) | skip)
              by_cases c17 : a0 = 92
              · rw [if_pos c17] at H
                have c17b0 : (a0 == 92) = true := beq_iff_eq.mpr c17
                have c17b1 : (a0 != 92) = false := bne_eq_false_iff_eq.mpr c17
                clear c17
                have H' := Aside0.mk H
                clear H
                go_wp2
                go_meet
                case rel => exact ⟨_, ((a0 == 92)), (by first | rfl | (simp; done) | (simp [*]; done)), H', ⟨by have := HJ3.out; first | omega | exact Nat.le_refl _⟩, ⟨by repeat (first | (with_reducible first | exact HB.out | apply below_alloc | apply pw_below_drewN | apply below_drew1) | exact HB.out)⟩⟩
              · rw [if_neg c17] at H
                have c17b0 : (a0 == 92) = false := beq_eq_false_iff_ne.mpr c17
                have c17b1 : (a0 != 92) = true := bne_iff_ne.mpr c17
                have H' := Aside0.mk H
                clear H
                go_wp2
                go_meet
                case rel => exact ⟨_, ((a0 == 47)), (by first | rfl | (simp; done) | (simp [*]; done)), H', ⟨by have := HJ3.out; first | omega | exact Nat.le_refl _⟩, ⟨by repeat (first | (with_reducible first | exact HB.out | apply below_alloc | apply pw_below_drewN | apply below_drew1) | exact HB.out)⟩⟩
          case rest =>
            clear HC11
            try clear c1
            try clear hcv1
            try clear p2
            try clear c6
            try clear c7
            try clear c7b0
            try clear c7b1
            try clear c8
            try clear c9
            try clear c9b0
            try clear c9b1
            try clear c9b2
            try clear hcv14
            try clear c16
            try clear c16b0
            try clear c16b1
            try clear c17
            try clear c17b0
            try clear c17b1
            try clear p2
            obtain ⟨kq, x34_10, rfl, HA, HJ10, HB⟩ := hcut
            cases kq with
            | zero => exact absurd HA.out (by simp [copperplatelaw06_TextEscape.j1])
            | succ kj10 =>
              have H := HA.out
              clear HA
              simp only [copperplatelaw06_TextEscape.j1] at H
              by_cases c18 : x34_10 = true
              · subst c18
                have H1 : (if (wrap64 (a0)) < 0 then (if t141 = true then (some false) else (if t139.toList = ([] : List UInt8) then (some (t140 == 0)) else (some false))) else (if t141 = true then (if t140 = 2 then (if (t139.size : Int) = 1 then (if 0 < (t139.size : Int) then (some ((wrap64 (bt t139 0)) == (wrap64 (a0)))) else (none)) else (some false)) else (some false)) else (some false))) = some r := by rw [if_pos rfl] at H; exact H
                clear H
                have H := H1
                clear H1
                by_cases c19 : (wrap64 (a0)) < 0
                · rw [if_pos c19] at H
                  have c19b0 : decide ((wrap64 (a0)) < 0) = true := decide_eq_true c19
                  clear c19
                  by_cases c20 : t141 = true
                  · subst c20
                    have H1 : (some false) = some r := by rw [if_pos rfl] at H; exact H
                    clear H
                    have H := H1
                    clear H1
                    obtain rfl := Option.some.inj H
                    go_wp2
                    go_ret
                    exact ⟨by first | rfl | (simp [errW_none, errW_some] <;> rfl) | (simp [*, errW_none, errW_some] <;> rfl), by repeat (first | (with_reducible first | exact HB.out | apply below_alloc | apply pw_below_drewN | apply below_drew1) | exact HB.out)⟩
                  · replace c20 := Bool.eq_false_iff.mpr c20
                    subst c20
                    have H1 : (if t139.toList = ([] : List UInt8) then (some (t140 == 0)) else (some false)) = some r := by rw [if_neg (show ¬ (false = true) by decide)] at H; exact H
                    clear H
                    have H := H1
                    clear H1
                    by_cases c21 : t139.toList = ([] : List UInt8)
                    · rw [if_pos c21] at H
                      have c21b0 : (t139.toList == ([] : List UInt8)) = true := beq_iff_eq.mpr c21
                      have c21b1 : (t139.toList != ([] : List UInt8)) = false := bne_eq_false_iff_eq.mpr c21
                      clear c21
                      obtain rfl := Option.some.inj H
                      go_wp2
                      go_ret
                      exact ⟨by first | rfl | (simp [errW_none, errW_some] <;> rfl) | (simp [*, errW_none, errW_some] <;> rfl), by repeat (first | (with_reducible first | exact HB.out | apply below_alloc | apply pw_below_drewN | apply below_drew1) | exact HB.out)⟩
                    · rw [if_neg c21] at H
                      have c21b0 : (t139.toList == ([] : List UInt8)) = false := beq_eq_false_iff_ne.mpr c21
                      have c21b1 : (t139.toList != ([] : List UInt8)) = true := bne_iff_ne.mpr c21
                      obtain rfl := Option.some.inj H
                      go_wp2
                      go_ret
                      exact ⟨by first | rfl | (simp [errW_none, errW_some] <;> rfl) | (simp [*, errW_none, errW_some] <;> rfl), by repeat (first | (with_reducible first | exact HB.out | apply below_alloc | apply pw_below_drewN | apply below_drew1) | exact HB.out)⟩
                · rw [if_neg c19] at H
                  have c19b0 : decide ((wrap64 (a0)) < 0) = false := decide_eq_false c19
                  clear c19
                  by_cases c22 : t141 = true
                  · subst c22
                    have H1 : (if t140 = 2 then (if (t139.size : Int) = 1 then (if 0 < (t139.size : Int) then (some ((wrap64 (bt t139 0)) == (wrap64 (a0)))) else (none)) else (some false)) else (some false)) = some r := by rw [if_pos rfl] at H; exact H
                    clear H
                    have H := H1
                    clear H1
                    by_cases c23 : t140 = 2
                    · rw [if_pos c23] at H
                      have c23b0 : (t140 == 2) = true := beq_iff_eq.mpr c23
                      have c23b1 : (t140 != 2) = false := bne_eq_false_iff_eq.mpr c23
                      clear c23
                      by_cases c24 : (t139.size : Int) = 1
                      · rw [if_pos c24] at H
                        have c24b0 : ((t139.size : Int) == 1) = true := beq_iff_eq.mpr c24
                        have c24b1 : ((t139.size : Int) != 1) = false := bne_eq_false_iff_eq.mpr c24
                        clear c24
                        by_cases c25 : 0 < (t139.size : Int)
                        · rw [if_pos c25] at H
                          have c25b0 : decide (0 < (t139.size : Int)) = true := decide_eq_true c25
                          have c25b1 : decide (0 < t139.size) = true := decide_eq_true (by omega)
                          clear c25
                          obtain rfl := Option.some.inj H
                          have p26 : 0 ≤ (0 : Int) := (by omega)
                          have q26 : 0 < t139.size := (by have : (0 : Int) < (t139.size : Int) := of_decide_eq_true (by first | (with_reducible assumption) | assumption); omega)
                          have hx26 : ∀ h : 0 < t139.size, ((t139[0]'h).toNat : Int) = bt t139 0 := bt_at t139 0
                          clear p26
                          have qi26 : (0 < (t139.size : Int)) = True := eq_true (of_decide_eq_true (by first | (with_reducible assumption) | assumption))
                          replace q26 := eq_true q26
                          go_wp2
                          go_ret
                          exact ⟨by first | rfl | (simp [errW_none, errW_some] <;> rfl) | (simp [*, errW_none, errW_some] <;> rfl), by repeat (first | (with_reducible first | exact HB.out | apply below_alloc | apply pw_below_drewN | apply below_drew1) | exact HB.out)⟩
                        · rw [if_neg c25] at H
                          exact absurd H (by simp)
                      · rw [if_neg c24] at H
                        have c24b0 : ((t139.size : Int) == 1) = false := beq_eq_false_iff_ne.mpr c24
                        have c24b1 : ((t139.size : Int) != 1) = true := bne_iff_ne.mpr c24
                        obtain rfl := Option.some.inj H
                        go_wp2
                        go_ret
                        exact ⟨by first | rfl | (simp [errW_none, errW_some] <;> rfl) | (simp [*, errW_none, errW_some] <;> rfl), by repeat (first | (with_reducible first | exact HB.out | apply below_alloc | apply pw_below_drewN | apply below_drew1) | exact HB.out)⟩
                    · rw [if_neg c23] at H
                      have c23b0 : (t140 == 2) = false := beq_eq_false_iff_ne.mpr c23
                      have c23b1 : (t140 != 2) = true := bne_iff_ne.mpr c23
                      obtain rfl := Option.some.inj H
                      go_wp2
                      go_ret
                      exact ⟨by first | rfl | (simp [errW_none, errW_some] <;> rfl) | (simp [*, errW_none, errW_some] <;> rfl), by repeat (first | (with_reducible first | exact HB.out | apply below_alloc | apply pw_below_drewN | apply below_drew1) | exact HB.out)⟩
                  · replace c22 := Bool.eq_false_iff.mpr c22
                    subst c22
                    have H1 : (some false) = some r := by rw [if_neg (show ¬ (false = true) by decide)] at H; exact H
                    clear H
                    have H := H1
                    clear H1
                    obtain rfl := Option.some.inj H
                    go_wp2
                    go_ret
                    exact ⟨by first | rfl | (simp [errW_none, errW_some] <;> rfl) | (simp [*, errW_none, errW_some] <;> rfl), by repeat (first | (with_reducible first | exact HB.out | apply below_alloc | apply pw_below_drewN | apply below_drew1) | exact HB.out)⟩
              · replace c18 := Bool.eq_false_iff.mpr c18
                subst c18
                have H1 : (if a0 = 98 then (if 8 < 0 then (if t141 = true then (some false) else (if t139.toList = ([] : List UInt8) then (some (t140 == 0)) else (some false))) else (if t141 = true then (if t140 = 2 then (if (t139.size : Int) = 1 then (if 0 < (t139.size : Int) then (some ((wrap64 (bt t139 0)) == 8)) else (none)) else (some false)) else (some false)) else (some false))) else (if a0 = 102 then (if 12 < 0 then (if t141 = true then (some false) else (if t139.toList = ([] : List UInt8) then (some (t140 == 0)) else (some false))) else (if t141 = true then (if t140 = 2 then (if (t139.size : Int) = 1 then (if 0 < (t139.size : Int) then (some ((wrap64 (bt t139 0)) == 12)) else (none)) else (some false)) else (some false)) else (some false))) else (if a0 = 110 then (if 10 < 0 then (if t141 = true then (some false) else (if t139.toList = ([] : List UInt8) then (some (t140 == 0)) else (some false))) else (if t141 = true then (if t140 = 2 then (if (t139.size : Int) = 1 then (if 0 < (t139.size : Int) then (some ((wrap64 (bt t139 0)) == 10)) else (none)) else (some false)) else (some false)) else (some false))) else (if a0 = 114 then (if 13 < 0 then (if t141 = true then (some false) else (if t139.toList = ([] : List UInt8) then (some (t140 == 0)) else (some false))) else (if t141 = true then (if t140 = 2 then (if (t139.size : Int) = 1 then (if 0 < (t139.size : Int) then (some ((wrap64 (bt t139 0)) == 13)) else (none)) else (some false)) else (some false)) else (some false))) else (if a0 = 116 then (if 9 < 0 then (if t141 = true then (some false) else (if t139.toList = ([] : List UInt8) then (some (t140 == 0)) else (some false))) else (if t141 = true then (if t140 = 2 then (if (t139.size : Int) = 1 then (if 0 < (t139.size : Int) then (some ((wrap64 (bt t139 0)) == 9)) else (none)) else (some false)) else (some false)) else (some false))) else (if (-1) < 0 then (if t141 = true then (some false) else (if t139.toList = ([] : List UInt8) then (some (t140 == 0)) else (some false))) else (if t141 = true then (if t140 = 2 then (if (t139.size : Int) = 1 then (if 0 < (t139.size : Int) then (some ((wrap64 (bt t139 0)) == (-1))) else (none)) else (some false)) else (some false)) else (some false)))))))) = some r := by rw [if_neg (show ¬ (false = true) by decide)] at H; exact H
                clear H
                have H := H1
                clear H1
                by_cases c27 : a0 = 98
                · rw [if_pos c27] at H
                  have c27b0 : (a0 == 98) = true := beq_iff_eq.mpr c27
                  have c27b1 : (a0 != 98) = false := bne_eq_false_iff_eq.mpr c27
                  clear c27
                  by_cases c28 : 8 < 0
                  · exact absurd c28 (by decide)
                  · rw [if_neg c28] at H
                    have c28b0 : decide (8 < 0) = false := decide_eq_false c28
                    clear c28
                    by_cases c31 : t141 = true
                    · subst c31
                      have H1 : (if t140 = 2 then (if (t139.size : Int) = 1 then (if 0 < (t139.size : Int) then (some ((wrap64 (bt t139 0)) == 8)) else (none)) else (some false)) else (some false)) = some r := by rw [if_pos rfl] at H; exact H
                      clear H
                      have H := H1
                      clear H1
                      by_cases c32 : t140 = 2
                      · rw [if_pos c32] at H
                        have c32b0 : (t140 == 2) = true := beq_iff_eq.mpr c32
                        have c32b1 : (t140 != 2) = false := bne_eq_false_iff_eq.mpr c32
                        clear c32
                        by_cases c33 : (t139.size : Int) = 1
                        · rw [if_pos c33] at H
                          have c33b0 : ((t139.size : Int) == 1) = true := beq_iff_eq.mpr c33
                          have c33b1 : ((t139.size : Int) != 1) = false := bne_eq_false_iff_eq.mpr c33
                          clear c33
                          by_cases c34 : 0 < (t139.size : Int)
                          · rw [if_pos c34] at H
                            have c34b0 : decide (0 < (t139.size : Int)) = true := decide_eq_true c34
                            have c34b1 : decide (0 < t139.size) = true := decide_eq_true (by omega)
                            clear c34
                            obtain rfl := Option.some.inj H
                            have p35 : 0 ≤ (0 : Int) := (by omega)
                            have q35 : 0 < t139.size := (by have : (0 : Int) < (t139.size : Int) := of_decide_eq_true (by first | (with_reducible assumption) | assumption); omega)
                            have hx35 : ∀ h : 0 < t139.size, ((t139[0]'h).toNat : Int) = bt t139 0 := bt_at t139 0
                            clear p35
                            have qi35 : (0 < (t139.size : Int)) = True := eq_true (of_decide_eq_true (by first | (with_reducible assumption) | assumption))
                            replace q35 := eq_true q35
                            go_wp2
                            go_ret
                            exact ⟨by first | rfl | (simp [errW_none, errW_some] <;> rfl) | (simp [*, errW_none, errW_some] <;> rfl), by repeat (first | (with_reducible first | exact HB.out | apply below_alloc | apply pw_below_drewN | apply below_drew1) | exact HB.out)⟩
                          · rw [if_neg c34] at H
                            exact absurd H (by simp)
                        · rw [if_neg c33] at H
                          have c33b0 : ((t139.size : Int) == 1) = false := beq_eq_false_iff_ne.mpr c33
                          have c33b1 : ((t139.size : Int) != 1) = true := bne_iff_ne.mpr c33
                          obtain rfl := Option.some.inj H
                          go_wp2
                          go_ret
                          exact ⟨by first | rfl | (simp [errW_none, errW_some] <;> rfl) | (simp [*, errW_none, errW_some] <;> rfl), by repeat (first | (with_reducible first | exact HB.out | apply below_alloc | apply pw_below_drewN | apply below_drew1) | exact HB.out)⟩
                      · rw [if_neg c32] at H
                        have c32b0 : (t140 == 2) = false := beq_eq_false_iff_ne.mpr c32
                        have c32b1 : (t140 != 2) = true := bne_iff_ne.mpr c32
                        obtain rfl := Option.some.inj H
                        go_wp2
                        go_ret
                        exact ⟨by first | rfl | (simp [errW_none, errW_some] <;> rfl) | (simp [*, errW_none, errW_some] <;> rfl), by repeat (first | (with_reducible first | exact HB.out | apply below_alloc | apply pw_below_drewN | apply below_drew1) | exact HB.out)⟩
                    · replace c31 := Bool.eq_false_iff.mpr c31
                      subst c31
                      have H1 : (some false) = some r := by rw [if_neg (show ¬ (false = true) by decide)] at H; exact H
                      clear H
                      have H := H1
                      clear H1
                      obtain rfl := Option.some.inj H
                      go_wp2
                      go_ret
                      exact ⟨by first | rfl | (simp [errW_none, errW_some] <;> rfl) | (simp [*, errW_none, errW_some] <;> rfl), by repeat (first | (with_reducible first | exact HB.out | apply below_alloc | apply pw_below_drewN | apply below_drew1) | exact HB.out)⟩
                · rw [if_neg c27] at H
                  have c27b0 : (a0 == 98) = false := beq_eq_false_iff_ne.mpr c27
                  have c27b1 : (a0 != 98) = true := bne_iff_ne.mpr c27
                  by_cases c36 : a0 = 102
                  · rw [if_pos c36] at H
                    have c36b0 : (a0 == 102) = true := beq_iff_eq.mpr c36
                    have c36b1 : (a0 != 102) = false := bne_eq_false_iff_eq.mpr c36
                    clear c36
                    by_cases c37 : 12 < 0
                    · exact absurd c37 (by decide)
                    · rw [if_neg c37] at H
                      have c37b0 : decide (12 < 0) = false := decide_eq_false c37
                      clear c37
                      by_cases c40 : t141 = true
                      · subst c40
                        have H1 : (if t140 = 2 then (if (t139.size : Int) = 1 then (if 0 < (t139.size : Int) then (some ((wrap64 (bt t139 0)) == 12)) else (none)) else (some false)) else (some false)) = some r := by rw [if_pos rfl] at H; exact H
                        clear H
                        have H := H1
                        clear H1
                        by_cases c41 : t140 = 2
                        · rw [if_pos c41] at H
                          have c41b0 : (t140 == 2) = true := beq_iff_eq.mpr c41
                          have c41b1 : (t140 != 2) = false := bne_eq_false_iff_eq.mpr c41
                          clear c41
                          by_cases c42 : (t139.size : Int) = 1
                          · rw [if_pos c42] at H
                            have c42b0 : ((t139.size : Int) == 1) = true := beq_iff_eq.mpr c42
                            have c42b1 : ((t139.size : Int) != 1) = false := bne_eq_false_iff_eq.mpr c42
                            clear c42
                            by_cases c43 : 0 < (t139.size : Int)
                            · rw [if_pos c43] at H
                              have c43b0 : decide (0 < (t139.size : Int)) = true := decide_eq_true c43
                              have c43b1 : decide (0 < t139.size) = true := decide_eq_true (by omega)
                              clear c43
                              obtain rfl := Option.some.inj H
                              have p44 : 0 ≤ (0 : Int) := (by omega)
                              have q44 : 0 < t139.size := (by have : (0 : Int) < (t139.size : Int) := of_decide_eq_true (by first | (with_reducible assumption) | assumption); omega)
                              have hx44 : ∀ h : 0 < t139.size, ((t139[0]'h).toNat : Int) = bt t139 0 := bt_at t139 0
                              clear p44
                              have qi44 : (0 < (t139.size : Int)) = True := eq_true (of_decide_eq_true (by first | (with_reducible assumption) | assumption))
                              replace q44 := eq_true q44
                              go_wp2
                              go_ret
                              exact ⟨by first | rfl | (simp [errW_none, errW_some] <;> rfl) | (simp [*, errW_none, errW_some] <;> rfl), by repeat (first | (with_reducible first | exact HB.out | apply below_alloc | apply pw_below_drewN | apply below_drew1) | exact HB.out)⟩
                            · rw [if_neg c43] at H
                              exact absurd H (by simp)
                          · rw [if_neg c42] at H
                            have c42b0 : ((t139.size : Int) == 1) = false := beq_eq_false_iff_ne.mpr c42
                            have c42b1 : ((t139.size : Int) != 1) = true := bne_iff_ne.mpr c42
                            obtain rfl := Option.some.inj H
                            go_wp2
                            go_ret
                            exact ⟨by first | rfl | (simp [errW_none, errW_some] <;> rfl) | (simp [*, errW_none, errW_some] <;> rfl), by repeat (first | (with_reducible first | exact HB.out | apply below_alloc | apply pw_below_drewN | apply below_drew1) | exact HB.out)⟩
                        · rw [if_neg c41] at H
                          have c41b0 : (t140 == 2) = false := beq_eq_false_iff_ne.mpr c41
                          have c41b1 : (t140 != 2) = true := bne_iff_ne.mpr c41
                          obtain rfl := Option.some.inj H
                          go_wp2
                          go_ret
                          exact ⟨by first | rfl | (simp [errW_none, errW_some] <;> rfl) | (simp [*, errW_none, errW_some] <;> rfl), by repeat (first | (with_reducible first | exact HB.out | apply below_alloc | apply pw_below_drewN | apply below_drew1) | exact HB.out)⟩
                      · replace c40 := Bool.eq_false_iff.mpr c40
                        subst c40
                        have H1 : (some false) = some r := by rw [if_neg (show ¬ (false = true) by decide)] at H; exact H
                        clear H
                        have H := H1
                        clear H1
                        obtain rfl := Option.some.inj H
                        go_wp2
                        go_ret
                        exact ⟨by first | rfl | (simp [errW_none, errW_some] <;> rfl) | (simp [*, errW_none, errW_some] <;> rfl), by repeat (first | (with_reducible first | exact HB.out | apply below_alloc | apply pw_below_drewN | apply below_drew1) | exact HB.out)⟩
                  · rw [if_neg c36] at H
                    have c36b0 : (a0 == 102) = false := beq_eq_false_iff_ne.mpr c36
                    have c36b1 : (a0 != 102) = true := bne_iff_ne.mpr c36
                    by_cases c45 : a0 = 110
                    · rw [if_pos c45] at H
                      have c45b0 : (a0 == 110) = true := beq_iff_eq.mpr c45
                      have c45b1 : (a0 != 110) = false := bne_eq_false_iff_eq.mpr c45
                      clear c45
                      by_cases c46 : 10 < 0
                      · exact absurd c46 (by decide)
                      · rw [if_neg c46] at H
                        have c46b0 : decide (10 < 0) = false := decide_eq_false c46
                        clear c46
                        by_cases c49 : t141 = true
                        · subst c49
                          have H1 : (if t140 = 2 then (if (t139.size : Int) = 1 then (if 0 < (t139.size : Int) then (some ((wrap64 (bt t139 0)) == 10)) else (none)) else (some false)) else (some false)) = some r := by rw [if_pos rfl] at H; exact H
                          clear H
                          have H := H1
                          clear H1
                          by_cases c50 : t140 = 2
                          · rw [if_pos c50] at H
                            have c50b0 : (t140 == 2) = true := beq_iff_eq.mpr c50
                            have c50b1 : (t140 != 2) = false := bne_eq_false_iff_eq.mpr c50
                            clear c50
                            by_cases c51 : (t139.size : Int) = 1
                            · rw [if_pos c51] at H
                              have c51b0 : ((t139.size : Int) == 1) = true := beq_iff_eq.mpr c51
                              have c51b1 : ((t139.size : Int) != 1) = false := bne_eq_false_iff_eq.mpr c51
                              clear c51
                              by_cases c52 : 0 < (t139.size : Int)
                              · rw [if_pos c52] at H
                                have c52b0 : decide (0 < (t139.size : Int)) = true := decide_eq_true c52
                                have c52b1 : decide (0 < t139.size) = true := decide_eq_true (by omega)
                                clear c52
                                obtain rfl := Option.some.inj H
                                have p53 : 0 ≤ (0 : Int) := (by omega)
                                have q53 : 0 < t139.size := (by have : (0 : Int) < (t139.size : Int) := of_decide_eq_true (by first | (with_reducible assumption) | assumption); omega)
                                have hx53 : ∀ h : 0 < t139.size, ((t139[0]'h).toNat : Int) = bt t139 0 := bt_at t139 0
                                clear p53
                                have qi53 : (0 < (t139.size : Int)) = True := eq_true (of_decide_eq_true (by first | (with_reducible assumption) | assumption))
                                replace q53 := eq_true q53
                                go_wp2
                                go_ret
                                exact ⟨by first | rfl | (simp [errW_none, errW_some] <;> rfl) | (simp [*, errW_none, errW_some] <;> rfl), by repeat (first | (with_reducible first | exact HB.out | apply below_alloc | apply pw_below_drewN | apply below_drew1) | exact HB.out)⟩
                              · rw [if_neg c52] at H
                                exact absurd H (by simp)
                            · rw [if_neg c51] at H
                              have c51b0 : ((t139.size : Int) == 1) = false := beq_eq_false_iff_ne.mpr c51
                              have c51b1 : ((t139.size : Int) != 1) = true := bne_iff_ne.mpr c51
                              obtain rfl := Option.some.inj H
                              go_wp2
                              go_ret
                              exact ⟨by first | rfl | (simp [errW_none, errW_some] <;> rfl) | (simp [*, errW_none, errW_some] <;> rfl), by repeat (first | (with_reducible first | exact HB.out | apply below_alloc | apply pw_below_drewN | apply below_drew1) | exact HB.out)⟩
                          · rw [if_neg c50] at H
                            have c50b0 : (t140 == 2) = false := beq_eq_false_iff_ne.mpr c50
                            have c50b1 : (t140 != 2) = true := bne_iff_ne.mpr c50
                            obtain rfl := Option.some.inj H
                            go_wp2
                            go_ret
                            exact ⟨by first | rfl | (simp [errW_none, errW_some] <;> rfl) | (simp [*, errW_none, errW_some] <;> rfl), by repeat (first | (with_reducible first | exact HB.out | apply below_alloc | apply pw_below_drewN | apply below_drew1) | exact HB.out)⟩
                        · replace c49 := Bool.eq_false_iff.mpr c49
                          subst c49
                          have H1 : (some false) = some r := by rw [if_neg (show ¬ (false = true) by decide)] at H; exact H
                          clear H
                          have H := H1
                          clear H1
                          obtain rfl := Option.some.inj H
                          go_wp2
                          go_ret
                          exact ⟨by first | rfl | (simp [errW_none, errW_some] <;> rfl) | (simp [*, errW_none, errW_some] <;> rfl), by repeat (first | (with_reducible first | exact HB.out | apply below_alloc | apply pw_below_drewN | apply below_drew1) | exact HB.out)⟩
                    · rw [if_neg c45] at H
                      have c45b0 : (a0 == 110) = false := beq_eq_false_iff_ne.mpr c45
                      have c45b1 : (a0 != 110) = true := bne_iff_ne.mpr c45
                      by_cases c54 : a0 = 114
                      · rw [if_pos c54] at H
                        have c54b0 : (a0 == 114) = true := beq_iff_eq.mpr c54
                        have c54b1 : (a0 != 114) = false := bne_eq_false_iff_eq.mpr c54
                        clear c54
                        by_cases c55 : 13 < 0
                        · exact absurd c55 (by decide)
                        · rw [if_neg c55] at H
                          have c55b0 : decide (13 < 0) = false := decide_eq_false c55
                          clear c55
                          by_cases c58 : t141 = true
                          · subst c58
                            have H1 : (if t140 = 2 then (if (t139.size : Int) = 1 then (if 0 < (t139.size : Int) then (some ((wrap64 (bt t139 0)) == 13)) else (none)) else (some false)) else (some false)) = some r := by rw [if_pos rfl] at H; exact H
                            clear H
                            have H := H1
                            clear H1
                            by_cases c59 : t140 = 2
                            · rw [if_pos c59] at H
                              have c59b0 : (t140 == 2) = true := beq_iff_eq.mpr c59
                              have c59b1 : (t140 != 2) = false := bne_eq_false_iff_eq.mpr c59
                              clear c59
                              by_cases c60 : (t139.size : Int) = 1
                              · rw [if_pos c60] at H
                                have c60b0 : ((t139.size : Int) == 1) = true := beq_iff_eq.mpr c60
                                have c60b1 : ((t139.size : Int) != 1) = false := bne_eq_false_iff_eq.mpr c60
                                clear c60
                                by_cases c61 : 0 < (t139.size : Int)
                                · rw [if_pos c61] at H
                                  have c61b0 : decide (0 < (t139.size : Int)) = true := decide_eq_true c61
                                  have c61b1 : decide (0 < t139.size) = true := decide_eq_true (by omega)
                                  clear c61
                                  obtain rfl := Option.some.inj H
                                  have p62 : 0 ≤ (0 : Int) := (by omega)
                                  have q62 : 0 < t139.size := (by have : (0 : Int) < (t139.size : Int) := of_decide_eq_true (by first | (with_reducible assumption) | assumption); omega)
                                  have hx62 : ∀ h : 0 < t139.size, ((t139[0]'h).toNat : Int) = bt t139 0 := bt_at t139 0
                                  clear p62
                                  have qi62 : (0 < (t139.size : Int)) = True := eq_true (of_decide_eq_true (by first | (with_reducible assumption) | assumption))
                                  replace q62 := eq_true q62
                                  go_wp2
                                  go_ret
                                  exact ⟨by first | rfl | (simp [errW_none, errW_some] <;> rfl) | (simp [*, errW_none, errW_some] <;> rfl), by repeat (first | (with_reducible first | exact HB.out | apply below_alloc | apply pw_below_drewN | apply below_drew1) | exact HB.out)⟩
                                · rw [if_neg c61] at H
                                  exact absurd H (by simp)
                              · rw [if_neg c60] at H
                                have c60b0 : ((t139.size : Int) == 1) = false := beq_eq_false_iff_ne.mpr c60
                                have c60b1 : ((t139.size : Int) != 1) = true := bne_iff_ne.mpr c60
                                obtain rfl := Option.some.inj H
                                go_wp2
                                go_ret
                                exact ⟨by first | rfl | (simp [errW_none, errW_some] <;> rfl) | (simp [*, errW_none, errW_some] <;> rfl), by repeat (first | (with_reducible first | exact HB.out | apply below_alloc | apply pw_below_drewN | apply below_drew1) | exact HB.out)⟩
                            · rw [if_neg c59] at H
                              have c59b0 : (t140 == 2) = false := beq_eq_false_iff_ne.mpr c59
                              have c59b1 : (t140 != 2) = true := bne_iff_ne.mpr c59
                              obtain rfl := Option.some.inj H
                              go_wp2
                              go_ret
                              exact ⟨by first | rfl | (simp [errW_none, errW_some] <;> rfl) | (simp [*, errW_none, errW_some] <;> rfl), by repeat (first | (with_reducible first | exact HB.out | apply below_alloc | apply pw_below_drewN | apply below_drew1) | exact HB.out)⟩
                          · replace c58 := Bool.eq_false_iff.mpr c58
                            subst c58
                            have H1 : (some false) = some r := by rw [if_neg (show ¬ (false = true) by decide)] at H; exact H
                            clear H
                            have H := H1
                            clear H1
                            obtain rfl := Option.some.inj H
                            go_wp2
                            go_ret
                            exact ⟨by first | rfl | (simp [errW_none, errW_some] <;> rfl) | (simp [*, errW_none, errW_some] <;> rfl), by repeat (first | (with_reducible first | exact HB.out | apply below_alloc | apply pw_below_drewN | apply below_drew1) | exact HB.out)⟩
                      · rw [if_neg c54] at H
                        have c54b0 : (a0 == 114) = false := beq_eq_false_iff_ne.mpr c54
                        have c54b1 : (a0 != 114) = true := bne_iff_ne.mpr c54
                        by_cases c63 : a0 = 116
                        · rw [if_pos c63] at H
                          have c63b0 : (a0 == 116) = true := beq_iff_eq.mpr c63
                          have c63b1 : (a0 != 116) = false := bne_eq_false_iff_eq.mpr c63
                          clear c63
                          by_cases c64 : 9 < 0
                          · exact absurd c64 (by decide)
                          · rw [if_neg c64] at H
                            have c64b0 : decide (9 < 0) = false := decide_eq_false c64
                            clear c64
                            by_cases c67 : t141 = true
                            · subst c67
                              have H1 : (if t140 = 2 then (if (t139.size : Int) = 1 then (if 0 < (t139.size : Int) then (some ((wrap64 (bt t139 0)) == 9)) else (none)) else (some false)) else (some false)) = some r := by rw [if_pos rfl] at H; exact H
                              clear H
                              have H := H1
                              clear H1
                              by_cases c68 : t140 = 2
                              · rw [if_pos c68] at H
                                have c68b0 : (t140 == 2) = true := beq_iff_eq.mpr c68
                                have c68b1 : (t140 != 2) = false := bne_eq_false_iff_eq.mpr c68
                                clear c68
                                by_cases c69 : (t139.size : Int) = 1
                                · rw [if_pos c69] at H
                                  have c69b0 : ((t139.size : Int) == 1) = true := beq_iff_eq.mpr c69
                                  have c69b1 : ((t139.size : Int) != 1) = false := bne_eq_false_iff_eq.mpr c69
                                  clear c69
                                  by_cases c70 : 0 < (t139.size : Int)
                                  · rw [if_pos c70] at H
                                    have c70b0 : decide (0 < (t139.size : Int)) = true := decide_eq_true c70
                                    have c70b1 : decide (0 < t139.size) = true := decide_eq_true (by omega)
                                    clear c70
                                    obtain rfl := Option.some.inj H
                                    have p71 : 0 ≤ (0 : Int) := (by omega)
                                    have q71 : 0 < t139.size := (by have : (0 : Int) < (t139.size : Int) := of_decide_eq_true (by first | (with_reducible assumption) | assumption); omega)
                                    have hx71 : ∀ h : 0 < t139.size, ((t139[0]'h).toNat : Int) = bt t139 0 := bt_at t139 0
                                    clear p71
                                    have qi71 : (0 < (t139.size : Int)) = True := eq_true (of_decide_eq_true (by first | (with_reducible assumption) | assumption))
                                    replace q71 := eq_true q71
                                    go_wp2
                                    go_ret
                                    exact ⟨by first | rfl | (simp [errW_none, errW_some] <;> rfl) | (simp [*, errW_none, errW_some] <;> rfl), by repeat (first | (with_reducible first | exact HB.out | apply below_alloc | apply pw_below_drewN | apply below_drew1) | exact HB.out)⟩
                                  · rw [if_neg c70] at H
                                    exact absurd H (by simp)
                                · rw [if_neg c69] at H
                                  have c69b0 : ((t139.size : Int) == 1) = false := beq_eq_false_iff_ne.mpr c69
                                  have c69b1 : ((t139.size : Int) != 1) = true := bne_iff_ne.mpr c69
                                  obtain rfl := Option.some.inj H
                                  go_wp2
                                  go_ret
                                  exact ⟨by first | rfl | (simp [errW_none, errW_some] <;> rfl) | (simp [*, errW_none, errW_some] <;> rfl), by repeat (first | (with_reducible first | exact HB.out | apply below_alloc | apply pw_below_drewN | apply below_drew1) | exact HB.out)⟩
                              · rw [if_neg c68] at H
                                have c68b0 : (t140 == 2) = false := beq_eq_false_iff_ne.mpr c68
                                have c68b1 : (t140 != 2) = true := bne_iff_ne.mpr c68
                                obtain rfl := Option.some.inj H
                                go_wp2
                                go_ret
                                exact ⟨by first | rfl | (simp [errW_none, errW_some] <;> rfl) | (simp [*, errW_none, errW_some] <;> rfl), by repeat (first | (with_reducible first | exact HB.out | apply below_alloc | apply pw_below_drewN | apply below_drew1) | exact HB.out)⟩
                            · replace c67 := Bool.eq_false_iff.mpr c67
                              subst c67
                              have H1 : (some false) = some r := by rw [if_neg (show ¬ (false = true) by decide)] at H; exact H
                              clear H
                              have H := H1
                              clear H1
                              obtain rfl := Option.some.inj H
                              go_wp2
                              go_ret
                              exact ⟨by first | rfl | (simp [errW_none, errW_some] <;> rfl) | (simp [*, errW_none, errW_some] <;> rfl), by repeat (first | (with_reducible first | exact HB.out | apply below_alloc | apply pw_below_drewN | apply below_drew1) | exact HB.out)⟩
                        · rw [if_neg c63] at H
                          have c63b0 : (a0 == 116) = false := beq_eq_false_iff_ne.mpr c63
                          have c63b1 : (a0 != 116) = true := bne_iff_ne.mpr c63
                          by_cases c72 : (-1) < 0
                          · rw [if_pos c72] at H
                            have c72b0 : decide ((-1) < 0) = true := decide_eq_true c72
                            clear c72
                            by_cases c73 : t141 = true
                            · subst c73
                              have H1 : (some false) = some r := by rw [if_pos rfl] at H; exact H
                              clear H
                              have H := H1
                              clear H1
                              obtain rfl := Option.some.inj H
                              go_wp2
                              go_ret
                              exact ⟨by first | rfl | (simp [errW_none, errW_some] <;> rfl) | (simp [*, errW_none, errW_some] <;> rfl), by repeat (first | (with_reducible first | exact HB.out | apply below_alloc | apply pw_below_drewN | apply below_drew1) | exact HB.out)⟩
                            · replace c73 := Bool.eq_false_iff.mpr c73
                              subst c73
                              have H1 : (if t139.toList = ([] : List UInt8) then (some (t140 == 0)) else (some false)) = some r := by rw [if_neg (show ¬ (false = true) by decide)] at H; exact H
                              clear H
                              have H := H1
                              clear H1
                              by_cases c74 : t139.toList = ([] : List UInt8)
                              · rw [if_pos c74] at H
                                have c74b0 : (t139.toList == ([] : List UInt8)) = true := beq_iff_eq.mpr c74
                                have c74b1 : (t139.toList != ([] : List UInt8)) = false := bne_eq_false_iff_eq.mpr c74
                                clear c74
                                obtain rfl := Option.some.inj H
                                go_wp2
                                go_ret
                                exact ⟨by first | rfl | (simp [errW_none, errW_some] <;> rfl) | (simp [*, errW_none, errW_some] <;> rfl), by repeat (first | (with_reducible first | exact HB.out | apply below_alloc | apply pw_below_drewN | apply below_drew1) | exact HB.out)⟩
                              · rw [if_neg c74] at H
                                have c74b0 : (t139.toList == ([] : List UInt8)) = false := beq_eq_false_iff_ne.mpr c74
                                have c74b1 : (t139.toList != ([] : List UInt8)) = true := bne_iff_ne.mpr c74
                                obtain rfl := Option.some.inj H
                                go_wp2
                                go_ret
                                exact ⟨by first | rfl | (simp [errW_none, errW_some] <;> rfl) | (simp [*, errW_none, errW_some] <;> rfl), by repeat (first | (with_reducible first | exact HB.out | apply below_alloc | apply pw_below_drewN | apply below_drew1) | exact HB.out)⟩
                          · exact absurd (by decide) c72
        · rw [if_neg c9] at H
          exact absurd H (by simp)

/-- THE ONE PURE STATEMENT of copperplatelaw06_TextEscape: yours. -/
def copperplatelaw06_TextEscape.Pure : Prop := ∀ (a0 : Int) (a1 : ByteArray), (Lit.int .u8 a0).wf = true → a1.size ≤ 140737488351232 → ∃ k, copperplatelaw06_TextEscape.f k a0 a1 = some true
theorem copperplatelaw06_TextEscape.walk (P : copperplatelaw06_TextEscape.Pure) (a0 : Int) (a1 : ByteArray) (w : World) (w0 : (Lit.int .u8 a0).wf = true) (w1 : a1.size ≤ 140737488351232) (hL : LW w) :
    Calls Tryd.prog 7 #[.int .u8 a0, .string a1] w fun e w' => e = .returned (.bool true) ∧ Below w.heap.size w w' := by
  obtain ⟨k, h⟩ := P a0 a1 w0 w1
  refine (copperplatelaw06_TextEscape.calls k a0 a1 true w h (hL.low (by repeat (first | (with_reducible first | exact HB.out | apply below_alloc | apply pw_below_drewN | apply below_drew1) | exact HB.out | exact Below.refl _ _)))).mono ?_
  rintro e w' ⟨rfl, hd⟩
  exact ⟨rfl, hd⟩

end Go.Proofs.YtcebkppagamjiaaDoor.Q
