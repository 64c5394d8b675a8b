-- Printed for this seat by a program of this session (qprint.py), out of the translation; Lean checks it.
import Derived.Test.YthcneciafiaphaaDoorQ0
import Derived.Test.YthcneciafiaphaaDoorQ1
import Derived.Test.YthcneciafiaphaaDoorQ3
namespace Go.Proofs.YthcneciafiaphaaDoor.Q
open Go.Proofs.YthcneciafiaphaaDoor.G
open Go.RowKit Go.Proofs.YthcneciafiaphaaDoorW.PrintWords Go.Proofs.YthcneciafiaphaaDoorW.PrintLast Go.Proofs.YthcneciafiaphaaDoorW.PrintMore
attribute [local go_sem] max2_int min2_int max_two min_two max_three min_three max_four min_four   -- for this text's walks alone
set_option linter.unusedVariables false
set_option linter.unusedSimpArgs false

/-! ### copperplatelaw07_FoldOnce: function 6 -/
mutual
def copperplatelaw07_FoldOnce.j0 : Nat → ByteArray → Bool → Bool → Option (Bool)
  | 0, _, _, _ => none
  | k + 1, x0, x3, x17 => if x17 = true then (some x3) else ((fold_Fold.f x0).bind fun t209 => ((fold_Lines.f t209).bind fun t210 => (if (t209.size : Int) > (x0.size : Int) then (copperplatelaw07_FoldOnce.j1 k x0 t209 t210 true) else (copperplatelaw07_FoldOnce.j1 k x0 t209 t210 ((t210.length : Int) == 0)))))
def copperplatelaw07_FoldOnce.j1 : Nat → ByteArray → ByteArray → List ByteArray → Bool → Option (Bool)
  | 0, _, _, _, _ => none
  | k + 1, x0, x4, x5, x32 => if x32 = true then (some false) else (copperplatelaw07_FoldOnce.l0 k x0 x4 x5 0)
def copperplatelaw07_FoldOnce.l0 : Nat → ByteArray → ByteArray → List ByteArray → Int → Option (Bool)
  | 0, _, _, _, _ => none
  | k + 1, x0, x4, x5, x6 => if x6 < (x4.size : Int) then (if 0 ≤ x6 then (if (bt x4 x6) = 13 then (some false) else (copperplatelaw07_FoldOnce.l0 k x0 x4 x5 (wrap64 (x6 + 1)))) else (none)) else (if 0 < (x5.length : Int) then ((copperplateref07_Margin.f k (rdOf ByteArray.empty x5 0)).bind fun t214 => (if 0 ≤ (wrap64 ((x5.length : Int) - 1)) then (if (wrap64 ((x5.length : Int) - 1)) < (x5.length : Int) then ((copperplateref07_Margin.f k (rdOf ByteArray.empty x5 (wrap64 ((x5.length : Int) - 1)))).bind fun t216 => (if x4.toList = ([] : List UInt8) then (copperplatelaw07_FoldOnce.j3 k x0 x4 false) else (if t214 = ((rdOf ByteArray.empty x5 0).size : Int) then (copperplatelaw07_FoldOnce.j3 k x0 x4 true) else (copperplatelaw07_FoldOnce.j3 k x0 x4 (t216 == ((rdOf ByteArray.empty x5 (wrap64 ((x5.length : Int) - 1))).size : Int)))))) else (none)) else (none))) else (none))
def copperplatelaw07_FoldOnce.j3 : Nat → ByteArray → ByteArray → Bool → Option (Bool)
  | 0, _, _, _ => none
  | k + 1, x0, x4, x74 => if x74 = true then (some false) else ((fold_Lines.f x0).bind fun t219 => (if (t219.length : Int) = 1 then (if x4.toList = x0.toList then (some true) else (if x4.toList = ([] : List UInt8) then ((copperplateref07_Margin.f k x0).bind fun t222 => (some (t222 == (x0.size : Int)))) else (some false))) else (some true)))
end
def copperplatelaw07_FoldOnce.f (k : Nat) (a0 : ByteArray) : Option (Bool) := (copperplatelaw07_awake.f).bind fun t208 => (if t208 = true then (copperplatelaw07_FoldOnce.j0 k a0 t208 (decide ((a0.size : Int) > 600))) else (copperplatelaw07_FoldOnce.j0 k a0 t208 true))
theorem copperplatelaw07_FoldOnce.mono_l : ∀ k, (∀ y0 y1 y2, LeO (copperplatelaw07_FoldOnce.j0 k y0 y1 y2) (copperplatelaw07_FoldOnce.j0 (k + 1) y0 y1 y2)) ∧ (∀ y0 y1 y2 y3, LeO (copperplatelaw07_FoldOnce.j1 k y0 y1 y2 y3) (copperplatelaw07_FoldOnce.j1 (k + 1) y0 y1 y2 y3)) ∧ (∀ y0 y1 y2 y3, LeO (copperplatelaw07_FoldOnce.l0 k y0 y1 y2 y3) (copperplatelaw07_FoldOnce.l0 (k + 1) y0 y1 y2 y3)) ∧ (∀ y0 y1 y2, LeO (copperplatelaw07_FoldOnce.j3 k y0 y1 y2) (copperplatelaw07_FoldOnce.j3 (k + 1) y0 y1 y2))
  | 0 => ⟨fun _ _ _ r h => by simp [copperplatelaw07_FoldOnce.j0] at h, fun _ _ _ _ r h => by simp [copperplatelaw07_FoldOnce.j1] at h, fun _ _ _ _ r h => by simp [copperplatelaw07_FoldOnce.l0] at h, fun _ _ _ r h => by simp [copperplatelaw07_FoldOnce.j3] at h⟩
  | k + 1 => by
    obtain ⟨ih0, ih1, ih2, ih3⟩ := copperplatelaw07_FoldOnce.mono_l k
    refine ⟨?_, ?_, ?_, ?_⟩
    · intro y0 y1 y2
      unfold copperplatelaw07_FoldOnce.j0
      repeat' first
      | (with_reducible exact ih0 _ _ _)
      | (with_reducible exact ih1 _ _ _ _)
      | (with_reducible exact ih2 _ _ _ _)
      | (with_reducible exact ih3 _ _ _)
      | (with_reducible exact copperplateref07_Margin.mono _ _)
      | (with_reducible exact LeO.refl _)
      | (with_reducible exact LeO.none _)
      | (with_reducible refine LeO.ite ?_ ?_)
      | (with_reducible refine LeO.bind ?_ (fun _ => ?_))
      | exact ih0 _ _ _
      | exact ih1 _ _ _ _
      | exact ih2 _ _ _ _
      | exact ih3 _ _ _
      | exact copperplateref07_Margin.mono _ _
      | exact LeO.none _
      | refine LeO.ite ?_ ?_
      | refine LeO.bind ?_ (fun _ => ?_)
    · intro y0 y1 y2 y3
      unfold copperplatelaw07_FoldOnce.j1
      repeat' first
      | (with_reducible exact ih0 _ _ _)
      | (with_reducible exact ih1 _ _ _ _)
      | (with_reducible exact ih2 _ _ _ _)
      | (with_reducible exact ih3 _ _ _)
      | (with_reducible exact copperplateref07_Margin.mono _ _)
      | (with_reducible exact LeO.refl _)
      | (with_reducible exact LeO.none _)
      | (with_reducible refine LeO.ite ?_ ?_)
      | (with_reducible refine LeO.bind ?_ (fun _ => ?_))
      | exact ih0 _ _ _
      | exact ih1 _ _ _ _
      | exact ih2 _ _ _ _
      | exact ih3 _ _ _
      | exact copperplateref07_Margin.mono _ _
      | exact LeO.none _
      | refine LeO.ite ?_ ?_
      | refine LeO.bind ?_ (fun _ => ?_)
    · intro y0 y1 y2 y3
      unfold copperplatelaw07_FoldOnce.l0
      repeat' first
      | (with_reducible exact ih0 _ _ _)
      | (with_reducible exact ih1 _ _ _ _)
      | (with_reducible exact ih2 _ _ _ _)
      | (with_reducible exact ih3 _ _ _)
      | (with_reducible exact copperplateref07_Margin.mono _ _)
      | (with_reducible exact LeO.refl _)
      | (with_reducible exact LeO.none _)
      | (with_reducible refine LeO.ite ?_ ?_)
      | (with_reducible refine LeO.bind ?_ (fun _ => ?_))
      | exact ih0 _ _ _
      | exact ih1 _ _ _ _
      | exact ih2 _ _ _ _
      | exact ih3 _ _ _
      | exact copperplateref07_Margin.mono _ _
      | exact LeO.none _
      | refine LeO.ite ?_ ?_
      | refine LeO.bind ?_ (fun _ => ?_)
    · intro y0 y1 y2
      unfold copperplatelaw07_FoldOnce.j3
      repeat' first
      | (with_reducible exact ih0 _ _ _)
      | (with_reducible exact ih1 _ _ _ _)
      | (with_reducible exact ih2 _ _ _ _)
      | (with_reducible exact ih3 _ _ _)
      | (with_reducible exact copperplateref07_Margin.mono _ _)
      | (with_reducible exact LeO.refl _)
      | (with_reducible exact LeO.none _)
      | (with_reducible refine LeO.ite ?_ ?_)
      | (with_reducible refine LeO.bind ?_ (fun _ => ?_))
      | exact ih0 _ _ _
      | exact ih1 _ _ _ _
      | exact ih2 _ _ _ _
      | exact ih3 _ _ _
      | exact copperplateref07_Margin.mono _ _
      | exact LeO.none _
      | refine LeO.ite ?_ ?_
      | refine LeO.bind ?_ (fun _ => ?_)
theorem copperplatelaw07_FoldOnce.mono : ∀ a0 k, LeO (copperplatelaw07_FoldOnce.f k a0) (copperplatelaw07_FoldOnce.f (k + 1) a0) := by
  intro a0 k
  obtain ⟨ih0, ih1, ih2, ih3⟩ := copperplatelaw07_FoldOnce.mono_l k
  unfold copperplatelaw07_FoldOnce.f
  repeat' first
      | (with_reducible exact ih0 _ _ _)
      | (with_reducible exact ih1 _ _ _ _)
      | (with_reducible exact ih2 _ _ _ _)
      | (with_reducible exact ih3 _ _ _)
      | (with_reducible exact copperplateref07_Margin.mono _ _)
      | (with_reducible exact LeO.refl _)
      | (with_reducible exact LeO.none _)
      | (with_reducible refine LeO.ite ?_ ?_)
      | (with_reducible refine LeO.bind ?_ (fun _ => ?_))
      | exact ih0 _ _ _
      | exact ih1 _ _ _ _
      | exact ih2 _ _ _ _
      | exact ih3 _ _ _
      | exact copperplateref07_Margin.mono _ _
      | exact LeO.none _
      | refine LeO.ite ?_ ?_
      | refine LeO.bind ?_ (fun _ => ?_)
set_option maxHeartbeats 8000000 in
set_option maxRecDepth 100000 in
theorem copperplatelaw07_FoldOnce.calls (k : Nat) (a0 : ByteArray) (r : Bool) (w : World) (h : copperplatelaw07_FoldOnce.f k a0 = some r) :
    Calls Tryd.prog 6 #[.string a0] w fun e w' => e = .returned (.bool r) ∧ Below w.heap.size w w' := by
  have HB := Aside0.mk (Below.refl w.heap.size w)
  have H : ((copperplatelaw07_awake.f).bind fun t208 => (if t208 = true then (copperplatelaw07_FoldOnce.j0 k a0 t208 (decide ((a0.size : Int) > 600))) else (copperplatelaw07_FoldOnce.j0 k a0 t208 true))) = some r := h
  clear h
  replace H := Option.bind_eq_some_iff.mp H
  obtain ⟨t208, A20, H⟩ := H
  replace H : (if t208 = true then (copperplatelaw07_FoldOnce.j0 k a0 t208 (decide ((a0.size : Int) > 600))) else (copperplatelaw07_FoldOnce.j0 k a0 t208 true)) = some r := H
  have A2 := Aside0.mk A20
  clear A20
  have HC3 := Aside0.mk H
  clear H
  go_enter Tryd.func6, Tryd.ntmps6
  go_upto_region 2 with (first | ((with_reducible refine gate_callee (f := 10) rfl ?_); refine goesL_ (some 10) rfl rfl Tryd.func10 (by kernel_rfl) rfl #[] rfl (by (try simp only [List.map_toArray, List.map_cons, List.map_nil]); first | done | rfl | (simp only [List.length_drop, List.length_take]; rfl)) ?_; (with_reducible refine (copperplatelaw07_awake.calls  t208 _ A2.out).mono ?_); rintro e w4 ⟨rfl, hb⟩; refine ⟨_, rfl, ?_⟩; have n0_ := Aside0.mk (below_step (by repeat (first | (with_reducible first | exact HB.out | apply below_alloc | apply pw_below_drewN | apply below_drew1) | exact HB.out)) hb); clear HB; have HB := n0_; clear n0_; (try clear hb); (try clear hb2); (try clear hk); (try clear hi)))
  (try simp only [Act.put, List.setIfInBounds_toArray, List.set_cons_zero, List.set_cons_succ])
  go_cut [17] (fun v17 wc => ∃ (kq : Nat) (x17_2 : Bool), v17 = .bool x17_2 ∧ Aside0 (copperplatelaw07_FoldOnce.j0 kq a0 t208 x17_2 = some r) ∧ Aside0 (kq ≤ k) ∧ Aside0 (Below w.heap.size w wc))
  case first =>
    have H := HC3.out
    clear HC3
    by_cases c5 : t208 = true
    · subst c5
      have H1 : (copperplatelaw07_FoldOnce.j0 k a0 true (decide ((a0.size : Int) > 600))) = some r := by rw [if_pos rfl] at H; exact H
      clear H
      have H := H1
      clear H1
      have H' := Aside0.mk H
      clear H
      go_wp2
      go_meet
      case rel => exact ⟨_, (decide ((a0.size : Int) > 600)), (by first | rfl | (simp; done) | (simp [*]; done)), H', ⟨by first | omega | exact Nat.le_refl _⟩, ⟨by repeat (first | (with_reducible first | exact HB.out | apply below_alloc | apply pw_below_drewN | apply below_drew1) | exact HB.out)⟩⟩
    · replace c5 := Bool.eq_false_iff.mpr c5
      subst c5
      have H1 : (copperplatelaw07_FoldOnce.j0 k a0 false true) = some r := by rw [if_neg (show ¬ (false = true) by decide)] at H; exact H
      clear H
      have H := H1
      clear H1
      have H' := Aside0.mk H
      clear H
      go_wp2
      go_meet
      case rel => exact ⟨_, (true), (by first | rfl | (simp; done) | (simp [*]; done)), H', ⟨by first | omega | exact Nat.le_refl _⟩, ⟨by repeat (first | (with_reducible first | exact HB.out | apply below_alloc | apply pw_below_drewN | apply below_drew1) | exact HB.out)⟩⟩
  case rest =>
    clear HC3
    try clear c1
    try clear p2
    try clear c5
    obtain ⟨kq, x17_2, rfl, HA, HJ2, HB⟩ := hcut
    cases kq with
    | zero => exact absurd HA.out (by simp [copperplatelaw07_FoldOnce.j0])
    | succ kj2 =>
      have H := HA.out
      clear HA
      simp only [copperplatelaw07_FoldOnce.j0] at H
      by_cases c6 : x17_2 = true
      · subst c6
        have H1 : (some t208) = some r := by rw [if_pos rfl] at H; exact H
        clear H
        have H := H1
        clear H1
        obtain rfl := Option.some.inj H
        go_wp2
        go_ret
        exact ⟨by first | rfl | (simp [errW_none, errW_some] <;> rfl) | (simp [*, errW_none, errW_some] <;> rfl), by repeat (first | (with_reducible first | exact HB.out | apply below_alloc | apply pw_below_drewN | apply below_drew1) | exact HB.out)⟩
      · replace c6 := Bool.eq_false_iff.mpr c6
        subst c6
        have H1 : ((fold_Fold.f a0).bind fun t209 => ((fold_Lines.f t209).bind fun t210 => (if (t209.size : Int) > (a0.size : Int) then (copperplatelaw07_FoldOnce.j1 kj2 a0 t209 t210 true) else (copperplatelaw07_FoldOnce.j1 kj2 a0 t209 t210 ((t210.length : Int) == 0))))) = some r := by rw [if_neg (show ¬ (false = true) by decide)] at H; exact H
        clear H
        have H := H1
        clear H1
        replace H := Option.bind_eq_some_iff.mp H
        obtain ⟨t209, A70, H⟩ := H
        replace H : ((fold_Lines.f t209).bind fun t210 => (if (t209.size : Int) > (a0.size : Int) then (copperplatelaw07_FoldOnce.j1 kj2 a0 t209 t210 true) else (copperplatelaw07_FoldOnce.j1 kj2 a0 t209 t210 ((t210.length : Int) == 0)))) = some r := H
        have A7 := Aside0.mk A70
        clear A70
        replace H := Option.bind_eq_some_iff.mp H
        obtain ⟨t210, A80, H⟩ := H
        replace H : (if (t209.size : Int) > (a0.size : Int) then (copperplatelaw07_FoldOnce.j1 kj2 a0 t209 t210 true) else (copperplatelaw07_FoldOnce.j1 kj2 a0 t209 t210 ((t210.length : Int) == 0))) = some r := H
        have A8 := Aside0.mk A80
        clear A80
        have HC9 := Aside0.mk H
        clear H
        go_upto_region 6 with (first | ((with_reducible refine gate_callee (f := 18) rfl ?_); refine goesL_ (some 20) rfl rfl Tryd.func18 (by kernel_rfl) rfl #[.string a0] rfl (by (try simp only [List.map_toArray, List.map_cons, List.map_nil]); first | done | rfl | (simp only [List.length_drop, List.length_take]; rfl)) ?_; (with_reducible refine (fold_Fold.calls a0 t209 _ A7.out).mono ?_); rintro e w10 ⟨rfl, hb⟩; refine ⟨_, rfl, ?_⟩; have n0_ := Aside0.mk (below_step (by repeat (first | (with_reducible first | exact HB.out | apply below_alloc | apply pw_below_drewN | apply below_drew1) | exact HB.out)) hb); clear HB; have HB := n0_; clear n0_; (try clear hb); (try clear hb2); (try clear hk); (try clear hi)) | ((with_reducible refine gate_callee (f := 14) rfl ?_); refine goesL_ (some 22) rfl rfl Tryd.func14 (by kernel_rfl) rfl #[.string t209] rfl (by (try simp only [List.map_toArray, List.map_cons, List.map_nil]); first | done | rfl | (simp only [List.length_drop, List.length_take]; rfl)) ?_; (with_reducible refine (fold_Lines.calls t209 t210 _ A8.out).mono ?_); rintro e w11 ⟨v211, rfl, ho0, hb⟩; refine ⟨_, rfl, ?_⟩; have n0_ := Aside0.mk (Kd.R_lower ho0 (below_size (by repeat (first | (with_reducible first | exact HB.out | apply below_alloc | apply pw_below_drewN | apply below_drew1) | exact HB.out)))); have n1_ := Aside0.mk (below_step (by repeat (first | (with_reducible first | exact HB.out | apply below_alloc | apply pw_below_drewN | apply below_drew1) | exact HB.out)) hb); clear HB; have HO212 := n0_; have HB := n1_; clear n0_ n1_; (try clear hb); (try clear hb2); (try clear hk); (try clear hi); (try clear ho0)))
        (try simp only [Act.put, List.setIfInBounds_toArray, List.set_cons_zero, List.set_cons_succ])
        go_cut [32] (fun v32 wc => ∃ (kq : Nat) (x32_8 : Bool), v32 = .bool x32_8 ∧ Aside0 (copperplatelaw07_FoldOnce.j1 kq a0 t209 t210 x32_8 = some r) ∧ Aside0 (kq ≤ kj2) ∧ Aside0 (Kd.R Kd.string 9 wc w.heap.size (fun _ => True) v211 t210) ∧ Aside0 (Below w.heap.size w wc))
        case first =>
          have H := HC9.out
          clear HC9
          by_cases c12 : (t209.size : Int) > (a0.size : Int)
          · rw [if_pos c12] at H
            have c12b0 : decide ((a0.size : Int) < (t209.size : Int)) = true := decide_eq_true c12
            have c12b1 : decide (a0.size < t209.size) = true := decide_eq_true (Int.ofNat_lt.mp c12)
            clear c12
            (first | rw [c12b0] | (simp only [i64_w, i32_w]; rw [c12b0]) | skip)
            have H' := Aside0.mk H
            clear H
            go_wp2
            go_meet
            case rel => exact ⟨_, (true), (by first | rfl | (simp; done) | (simp [*]; done)), H', ⟨by have := HJ2.out; first | omega | exact Nat.le_refl _⟩, ⟨by (with_reducible repeat (first | apply Kd.R_alloc | apply Kd.R_drewN | apply Kd.R_drew)); exact HO212.out⟩, ⟨by repeat (first | (with_reducible first | exact HB.out | apply below_alloc | apply pw_below_drewN | apply below_drew1) | exact HB.out)⟩⟩
          · rw [if_neg c12] at H
            have c12b0 : decide ((a0.size : Int) < (t209.size : Int)) = false := decide_eq_false c12
            have c12b1 : decide (a0.size < t209.size) = false := decide_eq_false (fun h => c12 (Int.ofNat_lt.mpr h))
            clear c12
            (first | rw [c12b0] | (simp only [i64_w, i32_w]; rw [c12b0]) | skip)
            have H' := Aside0.mk H
            clear H
            obtain ⟨Ao13, co13, eo13⟩ := Kd.R_slice HO212.out
            subst eo13
            go_wp2
            go_meet
            case rel => exact ⟨_, (((t210.length : Int) == 0)), (by first | rfl | (simp; done) | (simp [*]; done)), H', ⟨by have := HJ2.out; first | omega | exact Nat.le_refl _⟩, ⟨by (with_reducible repeat (first | apply Kd.R_alloc | apply Kd.R_drewN | apply Kd.R_drew)); exact HO212.out⟩, ⟨by repeat (first | (with_reducible first | exact HB.out | apply below_alloc | apply pw_below_drewN | apply below_drew1) | exact HB.out)⟩⟩
        case rest =>
          clear HC9
          try clear c1
          try clear p2
          try clear c5
          try clear c6
          try clear c10
          try clear c12
          try clear c12b0
          try clear c12b1
          try clear p2
          obtain ⟨kq, x32_8, rfl, HA, HJ8, HO_5, HB⟩ := hcut
          cases kq with
          | zero => exact absurd HA.out (by simp [copperplatelaw07_FoldOnce.j1])
          | succ kj8 =>
            have H := HA.out
            clear HA
            simp only [copperplatelaw07_FoldOnce.j1] at H
            by_cases c14 : x32_8 = true
            · subst c14
              have H1 : (some false) = some r := by rw [if_pos rfl] at H; exact H
              clear H
              have H := H1
              clear H1
              obtain rfl := Option.some.inj H
              go_wp2
              go_ret
              exact ⟨by first | rfl | (simp [errW_none, errW_some] <;> rfl) | (simp [*, errW_none, errW_some] <;> rfl), by repeat (first | (with_reducible first | exact HB.out | apply below_alloc | apply pw_below_drewN | apply below_drew1) | exact HB.out)⟩
            · replace c14 := Bool.eq_false_iff.mpr c14
              subst c14
              have H1 : (copperplatelaw07_FoldOnce.l0 kj8 a0 t209 t210 0) = some r := by rw [if_neg (show ¬ (false = true) by decide)] at H; exact H
              clear H
              have H := H1
              clear H1
              have H' := Aside0.mk H
              clear H
              go_wp2
              go_loopg [6] kj8 (fun kq v6 w' => ∃ (x6_3 : Int), v6 = .int .i64 x6_3 ∧ Aside0 (copperplatelaw07_FoldOnce.l0 kq a0 t209 t210 x6_3 = some r) ∧ Aside0 (kq ≤ kj8) ∧ Aside0 (Kd.R Kd.string 9 w' w.heap.size (fun _ => True) v211 t210) ∧ Aside0 (Below w.heap.size w w'))
              case atStart => exact ⟨(0), (by first | rfl | (simp; done) | (simp [*]; done)), H', ⟨Nat.le_refl _⟩, ⟨by (with_reducible repeat (first | apply Kd.R_alloc | apply Kd.R_drewN | apply Kd.R_drew)); exact HO_5.out⟩, ⟨by repeat (first | (with_reducible first | exact HB.out | apply below_alloc | apply pw_below_drewN | apply below_drew1) | exact HB.out)⟩⟩
              case round =>
                clear H'
                try clear c1
                try clear p2
                try clear c5
                try clear c6
                try clear c10
                try clear c12
                try clear c12b0
                try clear c12b1
                try clear c14
                try clear p2
                obtain ⟨x6_3, rfl, HA, HK3, HO_5, HB⟩ := hrel
                cases gk with
                | zero => exact absurd HA.out (by simp [copperplatelaw07_FoldOnce.l0])
                | succ k3 =>
                  have H := HA.out
                  clear HA
                  simp only [copperplatelaw07_FoldOnce.l0] at H
                  by_cases c15 : x6_3 < (t209.size : Int)
                  · rw [if_pos c15] at H
                    have c15b0 : decide (x6_3 < (t209.size : Int)) = true := decide_eq_true c15
                    clear c15
                    by_cases c16 : 0 ≤ x6_3
                    · rw [if_pos c16] at H
                      have c16b0 : decide (0 ≤ x6_3) = true := decide_eq_true c16
                      clear c16
                      by_cases c18 : (bt t209 x6_3) = 13
                      · rw [if_pos c18] at H
                        have c18b0 : ((bt t209 x6_3) == 13) = true := beq_iff_eq.mpr c18
                        have c18b1 : ((bt t209 x6_3) != 13) = false := bne_eq_false_iff_eq.mpr c18
                        clear c18
                        obtain rfl := Option.some.inj H
                        have p17 : 0 ≤ (x6_3 : Int) := of_decide_eq_true (by first | (with_reducible assumption) | assumption)
                        have q17 : x6_3 < (t209.size : Int) := of_decide_eq_true (by first | (with_reducible assumption) | assumption)
                        have hx17 := bt_at t209 x6_3
                        replace p17 := eq_true p17
                        replace q17 := eq_true q17
                        go_wp2
                        go_ret
                        exact ⟨by first | rfl | (simp [errW_none, errW_some] <;> rfl) | (simp [*, errW_none, errW_some] <;> rfl), by repeat (first | (with_reducible first | exact HB.out | apply below_alloc | apply pw_below_drewN | apply below_drew1) | exact HB.out)⟩
                      · rw [if_neg c18] at H
                        have c18b0 : ((bt t209 x6_3) == 13) = false := beq_eq_false_iff_ne.mpr c18
                        have c18b1 : ((bt t209 x6_3) != 13) = true := bne_iff_ne.mpr c18
                        have H' := Aside0.mk H
                        clear H
                        have p17 : 0 ≤ (x6_3 : Int) := of_decide_eq_true (by first | (with_reducible assumption) | assumption)
                        have q17 : x6_3 < (t209.size : Int) := of_decide_eq_true (by first | (with_reducible assumption) | assumption)
                        have hx17 := bt_at t209 x6_3
                        replace p17 := eq_true p17
                        replace q17 := eq_true q17
                        go_wp2
                        go_roundg k3
                        case measure => have := HJ2.out; have := HJ8.out; have := HK3.out; omega
                        case rel => exact ⟨(wrap64 (x6_3 + 1)), (by first | rfl | (simp; done) | (simp [*]; done)), H', ⟨by have := HJ2.out; have := HJ8.out; have := HK3.out; omega⟩, ⟨by (with_reducible repeat (first | apply Kd.R_alloc | apply Kd.R_drewN | apply Kd.R_drew)); exact HO_5.out⟩, ⟨by repeat (first | (with_reducible first | exact HB.out | apply below_alloc | apply pw_below_drewN | apply below_drew1) | exact HB.out)⟩⟩
                    · rw [if_neg c16] at H
                      exact absurd H (by simp)
                  · rw [if_neg c15] at H
                    have c15b0 : decide (x6_3 < (t209.size : Int)) = false := decide_eq_false c15
                    clear c15
                    by_cases c19 : 0 < (t210.length : Int)
                    · rw [if_pos c19] at H
                      have c19b0 : decide (0 < (t210.length : Int)) = true := decide_eq_true c19
                      have c19b1 : decide (0 < t210.length) = true := decide_eq_true (by omega)
                      clear c19
                      replace H := Option.bind_eq_some_iff.mp H
                      obtain ⟨t214, A200, H⟩ := H
                      replace H : (if 0 ≤ (wrap64 ((t210.length : Int) - 1)) then (if (wrap64 ((t210.length : Int) - 1)) < (t210.length : Int) then ((copperplateref07_Margin.f k3 (rdOf ByteArray.empty t210 (wrap64 ((t210.length : Int) - 1)))).bind fun t216 => (if t209.toList = ([] : List UInt8) then (copperplatelaw07_FoldOnce.j3 k3 a0 t209 false) else (if t214 = ((rdOf ByteArray.empty t210 0).size : Int) then (copperplatelaw07_FoldOnce.j3 k3 a0 t209 true) else (copperplatelaw07_FoldOnce.j3 k3 a0 t209 (t216 == ((rdOf ByteArray.empty t210 (wrap64 ((t210.length : Int) - 1))).size : Int)))))) else (none)) else (none)) = some r := H
                      have A20 := Aside0.mk A200
                      clear A200
                      obtain ⟨ji21, hji21⟩ : ∃ j_ : Int, (wrap64 ((t210.length : Int) - 1)) = j_ := ⟨_, rfl⟩
                      replace H : (if 0 ≤ (ji21) then (if (ji21) < (t210.length : Int) then ((copperplateref07_Margin.f k3 (rdOf ByteArray.empty t210 (ji21))).bind fun t216 => (if t209.toList = ([] : List UInt8) then (copperplatelaw07_FoldOnce.j3 k3 a0 t209 false) else (if t214 = ((rdOf ByteArray.empty t210 0).size : Int) then (copperplatelaw07_FoldOnce.j3 k3 a0 t209 true) else (copperplatelaw07_FoldOnce.j3 k3 a0 t209 (t216 == ((rdOf ByteArray.empty t210 (ji21)).size : Int)))))) else (none)) else (none)) = some r := by first | (rw [hji21] at H; exact H) | (simp only [hji21] at H ⊢; exact H)
                      (try rw [hji21] at A20)
                      have hji21w : (IntKind.i64.wrap ((t210.length : Int) - 1)) = ji21 := (i64_w _).trans hji21
                      by_cases c22 : 0 ≤ (ji21)
                      · rw [if_pos c22] at H
                        have c22b0 : decide (0 ≤ (ji21)) = true := decide_eq_true c22
                        clear c22
                        by_cases c23 : (ji21) < (t210.length : Int)
                        · rw [if_pos c23] at H
                          have c23b0 : decide ((ji21) < (t210.length : Int)) = true := decide_eq_true c23
                          clear c23
                          replace H := Option.bind_eq_some_iff.mp H
                          obtain ⟨t216, A240, H⟩ := H
                          replace H : (if t209.toList = ([] : List UInt8) then (copperplatelaw07_FoldOnce.j3 k3 a0 t209 false) else (if t214 = ((rdOf ByteArray.empty t210 0).size : Int) then (copperplatelaw07_FoldOnce.j3 k3 a0 t209 true) else (copperplatelaw07_FoldOnce.j3 k3 a0 t209 (t216 == ((rdOf ByteArray.empty t210 (ji21)).size : Int))))) = some r := H
                          have A24 := Aside0.mk A240
                          clear A240
                          have HC25 := Aside0.mk H
                          clear H
                          obtain ⟨Ao26, co26, eo26⟩ := Kd.R_slice HO_5.out
                          subst eo26
                          have p213 : 0 ≤ (0 : Int) := (by omega)
                          have q213 : 0 < (t210.length : Int) := of_decide_eq_true (by first | (with_reducible assumption) | assumption)
                          obtain ⟨ad213, e213, hx213_0⟩ := Kd.at_string (Kd.R_reads' HO_5.out).2.2 0 p213 q213
                          cases e213
                          have qi213 : (0 < t210.length) = True := eq_true (by omega)
                          (try rw [show ((0 : Int)).toNat = 0 from rfl] at hx213_0)
                          (try rw [Addr.add_zero'] at hx213_0)
                          replace p213 := eq_true p213
                          replace q213 := eq_true q213
                          go_upto_region 15 with (first | ((with_reducible refine gate_callee (f := 20) rfl ?_); refine goesL_ (some 46) rfl rfl Tryd.func20 (by kernel_rfl) rfl #[.string (rdOf ByteArray.empty t210 0)] rfl (by (try simp only [List.map_toArray, List.map_cons, List.map_nil]); first | done | rfl | (simp only [List.length_drop, List.length_take]; rfl)) ?_; (with_reducible refine (copperplateref07_Margin.calls k3 (rdOf ByteArray.empty t210 0) t214 _ A20.out).mono ?_); rintro e w' ⟨rfl, ⟨nd, rfl⟩⟩; refine ⟨_, rfl, ?_⟩; have p215 : 0 ≤ ((ji21) : Int) := of_decide_eq_true (by first | (with_reducible assumption) | assumption); have q215 : (ji21) < (t210.length : Int) := of_decide_eq_true (by first | (with_reducible assumption) | assumption); obtain ⟨ad215, e215, hx215_0⟩ := Kd.at_string (Kd.R_reads' HO_5.out).2.2 (ji21) p215 q215; obtain rfl : ad213 = ad215 := (by injection e215); replace p215 := eq_true p215; replace q215 := eq_true q215) | ((with_reducible refine gate_callee (f := 20) rfl ?_); refine goesL_ (some 53) rfl rfl Tryd.func20 (by kernel_rfl) rfl #[.string (rdOf ByteArray.empty t210 (ji21))] rfl (by (try simp only [List.map_toArray, List.map_cons, List.map_nil]); first | done | (simp only [hji21]; rfl) | rfl | (simp only [List.length_drop, List.length_take]; rfl)) ?_; (with_reducible refine (copperplateref07_Margin.calls k3 (rdOf ByteArray.empty t210 (ji21)) t216 _ A24.out).mono ?_); rintro e w' ⟨rfl, ⟨nd, rfl⟩⟩; refine ⟨_, rfl, ?_⟩))
                          (try simp only [Act.put, List.setIfInBounds_toArray, List.set_cons_zero, List.set_cons_succ])
                          go_cut [74] (fun v74 wc => ∃ (kq : Nat) (x74_24 : Bool), v74 = .bool x74_24 ∧ Aside0 (copperplatelaw07_FoldOnce.j3 kq a0 t209 x74_24 = some r) ∧ Aside0 (kq ≤ k3) ∧ Aside0 (Below w.heap.size w wc))
                          case first =>
                            have H := HC25.out
                            clear HC25
                            by_cases c27 : t209.toList = ([] : List UInt8)
                            · rw [if_pos c27] at H
                              have c27b0 : (t209.toList == ([] : List UInt8)) = true := beq_iff_eq.mpr c27
                              have c27b1 : (t209.toList != ([] : List UInt8)) = false := bne_eq_false_iff_eq.mpr c27
                              clear c27
                              (first | rw [c27b0] | (simp only [i64_w, i32_w]; rw [c27b0]) | skip)
                              have H' := Aside0.mk H
                              clear H
                              go_wp2
                              go_meet
                              case rel => exact ⟨_, (false), (by first | rfl | (simp; done) | (simp [*]; done)), H', ⟨by have := HJ2.out; have := HJ8.out; have := HK3.out; first | omega | exact Nat.le_refl _⟩, ⟨by repeat (first | (with_reducible first | exact HB.out | apply below_alloc | apply pw_below_drewN | apply below_drew1) | exact HB.out)⟩⟩
                            · rw [if_neg c27] at H
                              have c27b0 : (t209.toList == ([] : List UInt8)) = false := beq_eq_false_iff_ne.mpr c27
                              have c27b1 : (t209.toList != ([] : List UInt8)) = true := bne_iff_ne.mpr c27
                              (first | rw [c27b0] | (simp only [i64_w, i32_w]; rw [c27b0]) | skip)
                              by_cases c28 : t214 = ((rdOf ByteArray.empty t210 0).size : Int)
                              · rw [if_pos c28] at H
                                have c28b0 : (t214 == ((rdOf ByteArray.empty t210 0).size : Int)) = true := beq_iff_eq.mpr c28
                                have c28b1 : (t214 != ((rdOf ByteArray.empty t210 0).size : Int)) = false := bne_eq_false_iff_eq.mpr c28
                                clear c28
                                have H' := Aside0.mk H
                                clear H
                                have p217 : 0 ≤ (0 : Int) := (by omega)
                                have q217 : 0 < (t210.length : Int) := of_decide_eq_true (by first | (with_reducible assumption) | assumption)
                                obtain ⟨ad217, e217, hx217_0⟩ := Kd.at_string (Kd.R_reads' HO_5.out).2.2 0 p217 q217
                                obtain rfl : ad213 = ad217 := (by injection e217)
                                have qi217 : (0 < t210.length) = True := eq_true (by omega)
                                (try rw [show ((0 : Int)).toNat = 0 from rfl] at hx217_0)
                                (try rw [Addr.add_zero'] at hx217_0)
                                replace p217 := eq_true p217
                                replace q217 := eq_true q217
                                go_wp2
                                go_meet
                                case rel => exact ⟨_, (true), (by first | rfl | (simp; done) | (simp [*]; done)), H', ⟨by have := HJ2.out; have := HJ8.out; have := HK3.out; first | omega | exact Nat.le_refl _⟩, ⟨by repeat (first | (with_reducible first | exact HB.out | apply below_alloc | apply pw_below_drewN | apply below_drew1) | exact HB.out)⟩⟩
                              · rw [if_neg c28] at H
                                have c28b0 : (t214 == ((rdOf ByteArray.empty t210 0).size : Int)) = false := beq_eq_false_iff_ne.mpr c28
                                have c28b1 : (t214 != ((rdOf ByteArray.empty t210 0).size : Int)) = true := bne_iff_ne.mpr c28
                                have H' := Aside0.mk H
                                clear H
                                have p217 : 0 ≤ (0 : Int) := (by omega)
                                have q217 : 0 < (t210.length : Int) := of_decide_eq_true (by first | (with_reducible assumption) | assumption)
                                obtain ⟨ad217, e217, hx217_0⟩ := Kd.at_string (Kd.R_reads' HO_5.out).2.2 0 p217 q217
                                obtain rfl : ad213 = ad217 := (by injection e217)
                                have qi217 : (0 < t210.length) = True := eq_true (by omega)
                                (try rw [show ((0 : Int)).toNat = 0 from rfl] at hx217_0)
                                (try rw [Addr.add_zero'] at hx217_0)
                                replace p217 := eq_true p217
                                replace q217 := eq_true q217
                                have p218 : 0 ≤ ((ji21) : Int) := of_decide_eq_true (by first | (with_reducible assumption) | assumption)
                                have q218 : (ji21) < (t210.length : Int) := of_decide_eq_true (by first | (with_reducible assumption) | assumption)
                                obtain ⟨ad218, e218, hx218_0⟩ := Kd.at_string (Kd.R_reads' HO_5.out).2.2 (ji21) p218 q218
                                obtain rfl : ad213 = ad218 := (by injection e218)
                                replace p218 := eq_true p218
                                replace q218 := eq_true q218
                                go_wp2
                                go_meet
                                case rel => exact ⟨_, ((t216 == ((rdOf ByteArray.empty t210 (ji21)).size : Int))), (by first | rfl | (simp; done) | (simp only [← hji21] <;> (first | rfl | simp)) | (simp [*]; done)), H', ⟨by have := HJ2.out; have := HJ8.out; have := HK3.out; first | omega | exact Nat.le_refl _⟩, ⟨by repeat (first | (with_reducible first | exact HB.out | apply below_alloc | apply pw_below_drewN | apply below_drew1) | exact HB.out)⟩⟩
                          case rest =>
                            clear HC25
                            try clear c1
                            try clear p1
                            try clear q1
                            try clear hx1
                            try clear c2
                            try clear p2
                            try clear q2
                            try clear hx2
                            try clear qi2
                            try clear c5
                            try clear c6
                            try clear p6
                            try clear c10
                            try clear c12
                            try clear c12b0
                            try clear c12b1
                            try clear c14
                            try clear c15
                            try clear c15b0
                            try clear c16
                            try clear c16b0
                            try clear p17
                            try clear q17
                            try clear hx17
                            try clear c18
                            try clear c18b0
                            try clear c18b1
                            try clear c19
                            try clear c19b0
                            try clear c19b1
                            try clear c20
                            try clear p21
                            try clear q21
                            try clear hx21
                            try clear qi21
                            try clear c22
                            try clear c22b0
                            try clear c23
                            try clear c23b0
                            try clear c27
                            try clear c27b0
                            try clear c27b1
                            try clear c28
                            try clear c28b0
                            try clear c28b1
                            try clear hx213_0
                            try clear hx215_0
                            try clear hx217_0
                            try clear hx218_0
                            try clear p17
                            try clear p2
                            try clear p213
                            try clear p215
                            try clear p217
                            try clear p218
                            try clear q17
                            try clear q213
                            try clear q215
                            try clear q217
                            try clear q218
                            obtain ⟨kq, x74_24, rfl, HA, HJ24, HB⟩ := hcut
                            cases kq with
                            | zero => exact absurd HA.out (by simp [copperplatelaw07_FoldOnce.j3])
                            | succ kj24 =>
                              have H := HA.out
                              clear HA
                              simp only [copperplatelaw07_FoldOnce.j3] at H
                              by_cases c29 : x74_24 = true
                              · subst c29
                                have H1 : (some false) = some r := by rw [if_pos rfl] at H; exact H
                                clear H
                                have H := H1
                                clear H1
                                obtain rfl := Option.some.inj H
                                go_wp2
                                go_ret
                                exact ⟨by first | rfl | (simp [errW_none, errW_some] <;> rfl) | (simp only [← hji21]; first | rfl | (simp [errW_none, errW_some] <;> rfl)) | (simp [*, errW_none, errW_some] <;> rfl), by repeat (first | (with_reducible first | exact HB.out | apply below_alloc | apply pw_below_drewN | apply below_drew1) | exact HB.out)⟩
                              · replace c29 := Bool.eq_false_iff.mpr c29
                                subst c29
                                have H1 : ((fold_Lines.f a0).bind fun t219 => (if (t219.length : Int) = 1 then (if t209.toList = a0.toList then (some true) else (if t209.toList = ([] : List UInt8) then ((copperplateref07_Margin.f kj24 a0).bind fun t222 => (some (t222 == (a0.size : Int)))) else (some false))) else (some true))) = some r := by rw [if_neg (show ¬ (false = true) by decide)] at H; exact H
                                clear H
                                have H := H1
                                clear H1
                                replace H := Option.bind_eq_some_iff.mp H
                                obtain ⟨t219, A300, H⟩ := H
                                replace H : (if (t219.length : Int) = 1 then (if t209.toList = a0.toList then (some true) else (if t209.toList = ([] : List UInt8) then ((copperplateref07_Margin.f kj24 a0).bind fun t222 => (some (t222 == (a0.size : Int)))) else (some false))) else (some true)) = some r := H
                                have A30 := Aside0.mk A300
                                clear A300
                                by_cases c31 : (t219.length : Int) = 1
                                · rw [if_pos c31] at H
                                  have c31b0 : ((t219.length : Int) == 1) = true := beq_iff_eq.mpr c31
                                  have c31b1 : ((t219.length : Int) != 1) = false := bne_eq_false_iff_eq.mpr c31
                                  clear c31
                                  by_cases c32 : t209.toList = a0.toList
                                  · rw [if_pos c32] at H
                                    have c32b0 : (t209.toList == a0.toList) = true := beq_iff_eq.mpr c32
                                    have c32b1 : (t209.toList != a0.toList) = false := bne_eq_false_iff_eq.mpr c32
                                    clear c32
                                    obtain rfl := Option.some.inj H
                                    go_wp2_with (first | ((with_reducible refine gate_callee (f := 14) rfl ?_); refine goesL_ (some 76) rfl rfl Tryd.func14 (by kernel_rfl) rfl #[.string a0] rfl (by (try simp only [List.map_toArray, List.map_cons, List.map_nil]); first | done | rfl | (simp only [List.length_drop, List.length_take]; rfl)) ?_; (with_reducible refine (fold_Lines.calls a0 t219 _ A30.out).mono ?_); rintro e w33 ⟨v220, rfl, ho0, hb⟩; refine ⟨_, rfl, ?_⟩; have n0_ := Aside0.mk (Kd.R_lower ho0 (below_size (by repeat (first | (with_reducible first | exact HB.out | apply below_alloc | apply pw_below_drewN | apply below_drew1) | exact HB.out)))); have n1_ := Aside0.mk (below_step (by repeat (first | (with_reducible first | exact HB.out | apply below_alloc | apply pw_below_drewN | apply below_drew1) | exact HB.out)) hb); clear HB; have HO221 := n0_; have HB := n1_; clear n0_ n1_; (try clear hb); (try clear hb2); (try clear hk); (try clear hi); (try clear ho0); obtain ⟨Ao34, co34, eo34⟩ := Kd.R_slice HO221.out; subst eo34))
                                    go_ret
                                    exact ⟨by first | rfl | (simp [errW_none, errW_some] <;> rfl) | (simp only [← hji21]; first | rfl | (simp [errW_none, errW_some] <;> rfl)) | (simp [*, errW_none, errW_some] <;> rfl), by repeat (first | (with_reducible first | exact HB.out | apply below_alloc | apply pw_below_drewN | apply below_drew1) | exact HB.out)⟩
                                  · rw [if_neg c32] at H
                                    have c32b0 : (t209.toList == a0.toList) = false := beq_eq_false_iff_ne.mpr c32
                                    have c32b1 : (t209.toList != a0.toList) = true := bne_iff_ne.mpr c32
                                    by_cases c35 : t209.toList = ([] : List UInt8)
                                    · rw [if_pos c35] at H
                                      have c35b0 : (t209.toList == ([] : List UInt8)) = true := beq_iff_eq.mpr c35
                                      have c35b1 : (t209.toList != ([] : List UInt8)) = false := bne_eq_false_iff_eq.mpr c35
                                      clear c35
                                      replace H := Option.bind_eq_some_iff.mp H
                                      obtain ⟨t222, A360, H⟩ := H
                                      replace H : (some (t222 == (a0.size : Int))) = some r := H
                                      have A36 := Aside0.mk A360
                                      clear A360
                                      obtain rfl := Option.some.inj H
                                      go_wp2_with (first | ((with_reducible refine gate_callee (f := 14) rfl ?_); refine goesL_ (some 76) rfl rfl Tryd.func14 (by kernel_rfl) rfl #[.string a0] rfl (by (try simp only [List.map_toArray, List.map_cons, List.map_nil]); first | done | rfl | (simp only [List.length_drop, List.length_take]; rfl)) ?_; (with_reducible refine (fold_Lines.calls a0 t219 _ A30.out).mono ?_); rintro e w37 ⟨v220, rfl, ho0, hb⟩; refine ⟨_, rfl, ?_⟩; have n0_ := Aside0.mk (Kd.R_lower ho0 (below_size (by repeat (first | (with_reducible first | exact HB.out | apply below_alloc | apply pw_below_drewN | apply below_drew1) | exact HB.out)))); have n1_ := Aside0.mk (below_step (by repeat (first | (with_reducible first | exact HB.out | apply below_alloc | apply pw_below_drewN | apply below_drew1) | exact HB.out)) hb); clear HB; have HO221 := n0_; have HB := n1_; clear n0_ n1_; (try clear hb); (try clear hb2); (try clear hk); (try clear hi); (try clear ho0); obtain ⟨Ao38, co38, eo38⟩ := Kd.R_slice HO221.out; subst eo38) | (go_at_call 20; (with_reducible refine (copperplateref07_Margin.calls kj24 a0 t222 _ A36.out).mono ?_); rintro e w' ⟨rfl, ⟨nd, rfl⟩⟩))
                                      go_ret
                                      exact ⟨by first | rfl | (simp [errW_none, errW_some] <;> rfl) | (simp only [← hji21]; first | rfl | (simp [errW_none, errW_some] <;> rfl)) | (simp [*, errW_none, errW_some] <;> rfl), by repeat (first | (with_reducible first | exact HB.out | apply below_alloc | apply pw_below_drewN | apply below_drew1) | exact HB.out)⟩
                                    · rw [if_neg c35] at H
                                      have c35b0 : (t209.toList == ([] : List UInt8)) = false := beq_eq_false_iff_ne.mpr c35
                                      have c35b1 : (t209.toList != ([] : List UInt8)) = true := bne_iff_ne.mpr c35
                                      obtain rfl := Option.some.inj H
                                      go_wp2_with (first | ((with_reducible refine gate_callee (f := 14) rfl ?_); refine goesL_ (some 76) rfl rfl Tryd.func14 (by kernel_rfl) rfl #[.string a0] rfl (by (try simp only [List.map_toArray, List.map_cons, List.map_nil]); first | done | rfl | (simp only [List.length_drop, List.length_take]; rfl)) ?_; (with_reducible refine (fold_Lines.calls a0 t219 _ A30.out).mono ?_); rintro e w39 ⟨v220, rfl, ho0, hb⟩; refine ⟨_, rfl, ?_⟩; have n0_ := Aside0.mk (Kd.R_lower ho0 (below_size (by repeat (first | (with_reducible first | exact HB.out | apply below_alloc | apply pw_below_drewN | apply below_drew1) | exact HB.out)))); have n1_ := Aside0.mk (below_step (by repeat (first | (with_reducible first | exact HB.out | apply below_alloc | apply pw_below_drewN | apply below_drew1) | exact HB.out)) hb); clear HB; have HO221 := n0_; have HB := n1_; clear n0_ n1_; (try clear hb); (try clear hb2); (try clear hk); (try clear hi); (try clear ho0); obtain ⟨Ao40, co40, eo40⟩ := Kd.R_slice HO221.out; subst eo40))
                                      go_ret
                                      exact ⟨by first | rfl | (simp [errW_none, errW_some] <;> rfl) | (simp only [← hji21]; first | rfl | (simp [errW_none, errW_some] <;> rfl)) | (simp [*, errW_none, errW_some] <;> rfl), by repeat (first | (with_reducible first | exact HB.out | apply below_alloc | apply pw_below_drewN | apply below_drew1) | exact HB.out)⟩
                                · rw [if_neg c31] at H
                                  have c31b0 : ((t219.length : Int) == 1) = false := beq_eq_false_iff_ne.mpr c31
                                  have c31b1 : ((t219.length : Int) != 1) = true := bne_iff_ne.mpr c31
                                  obtain rfl := Option.some.inj H
                                  go_wp2_with (first | ((with_reducible refine gate_callee (f := 14) rfl ?_); refine goesL_ (some 76) rfl rfl Tryd.func14 (by kernel_rfl) rfl #[.string a0] rfl (by (try simp only [List.map_toArray, List.map_cons, List.map_nil]); first | done | rfl | (simp only [List.length_drop, List.length_take]; rfl)) ?_; (with_reducible refine (fold_Lines.calls a0 t219 _ A30.out).mono ?_); rintro e w41 ⟨v220, rfl, ho0, hb⟩; refine ⟨_, rfl, ?_⟩; have n0_ := Aside0.mk (Kd.R_lower ho0 (below_size (by repeat (first | (with_reducible first | exact HB.out | apply below_alloc | apply pw_below_drewN | apply below_drew1) | exact HB.out)))); have n1_ := Aside0.mk (below_step (by repeat (first | (with_reducible first | exact HB.out | apply below_alloc | apply pw_below_drewN | apply below_drew1) | exact HB.out)) hb); clear HB; have HO221 := n0_; have HB := n1_; clear n0_ n1_; (try clear hb); (try clear hb2); (try clear hk); (try clear hi); (try clear ho0); obtain ⟨Ao42, co42, eo42⟩ := Kd.R_slice HO221.out; subst eo42))
                                  go_ret
                                  exact ⟨by first | rfl | (simp [errW_none, errW_some] <;> rfl) | (simp only [← hji21]; first | rfl | (simp [errW_none, errW_some] <;> rfl)) | (simp [*, errW_none, errW_some] <;> rfl), by repeat (first | (with_reducible first | exact HB.out | apply below_alloc | apply pw_below_drewN | apply below_drew1) | exact HB.out)⟩
                        · rw [if_neg c23] at H
                          exact absurd H (by simp)
                      · rw [if_neg c22] at H
                        exact absurd H (by simp)
                    · rw [if_neg c19] at H
                      exact absurd H (by simp)

/-- THE ONE PURE STATEMENT of copperplatelaw07_FoldOnce: yours. -/
def copperplatelaw07_FoldOnce.Pure : Prop := ∀ (a0 : ByteArray), a0.size ≤ 140737488351232 → ∃ k, copperplatelaw07_FoldOnce.f k a0 = some true
theorem copperplatelaw07_FoldOnce.walk (P : copperplatelaw07_FoldOnce.Pure) (a0 : ByteArray) (w : World) (w0 : a0.size ≤ 140737488351232) :
    Calls Tryd.prog 6 #[.string a0] w fun e w' => e = .returned (.bool true) ∧ Below w.heap.size w w' := by
  obtain ⟨k, h⟩ := P a0 w0
  refine (copperplatelaw07_FoldOnce.calls k a0 true w h).mono ?_
  rintro e w' ⟨rfl, hd⟩
  exact ⟨rfl, hd⟩

end Go.Proofs.YthcneciafiaphaaDoor.Q
