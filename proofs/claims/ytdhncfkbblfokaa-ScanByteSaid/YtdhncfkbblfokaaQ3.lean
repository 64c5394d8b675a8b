-- Printed for this seat by a program of this session (qprint.py), out of the translation; Lean checks it.
import Derived.Test.YtdhncfkbblfokaaQ0
import Derived.Test.YtdhncfkbblfokaaQ1
namespace Go.Proofs.Ytdhncfkbblfokaa.Q
open Go.Proofs.Ytdhncfkbblfokaa.G
open Go.RowKit Go.Proofs.YtdhncfkbblfokaaW.PrintWords Go.Proofs.YtdhncfkbblfokaaW.PrintLast Go.Proofs.YtdhncfkbblfokaaW.PrintMore
attribute [local go_sem] max2_int min2_int max_two min_two max_three min_three max_four min_four   -- for this text's walks alone
set_option linter.unusedVariables false
set_option linter.unusedSimpArgs false

/-! ### copperplatelaw04_ScanJoins: function 7 -/
mutual
def copperplatelaw04_ScanJoins.j0 : Nat → ByteArray → ByteArray → Bool → Bool → Option (Bool)
  | 0, _, _, _, _ => none
  | k + 1, x0, x1, x5, x20 => if x20 = true then (some x5) else (if x0.toList = ([] : List UInt8) then (copperplatelaw04_ScanJoins.j1 k x0 x1 false) else ((scan_Name.f x0 0).bind fun t121 => (copperplatelaw04_ScanJoins.j1 k x0 x1 (t121 == (x0.size : Int)))))
def copperplatelaw04_ScanJoins.j1 : Nat → ByteArray → ByteArray → Bool → Option (Bool)
  | 0, _, _, _ => none
  | k + 1, x0, x1, x6 => (scan_Digits.f x0 0).bind fun t122 => (if x6 = true then (if x0.size + x1.size ≤ 9223372036854775807 then ((scan_Name.f (x0 ++ x1) 0).bind fun t123 => (if 1 + x1.size ≤ 9223372036854775807 then ((scan_Name.f ((⟨#[97]⟩ : ByteArray) ++ x1) 0).bind fun t124 => (copperplatelaw04_ScanJoins.j2 k x0 x1 (t122 == (x0.size : Int)) (t123 != (wrap64 ((wrap64 ((x0.size : Int) + t124)) - 1))))) else (none))) else (none)) else (copperplatelaw04_ScanJoins.j2 k x0 x1 (t122 == (x0.size : Int)) false))
def copperplatelaw04_ScanJoins.j2 : Nat → ByteArray → ByteArray → Bool → Bool → Option (Bool)
  | 0, _, _, _, _ => none
  | k + 1, x0, x1, x7, x50 => if x50 = true then (some false) else (if x7 = true then (if x0.size + x1.size ≤ 9223372036854775807 then ((scan_Digits.f (x0 ++ x1) 0).bind fun t125 => ((scan_Digits.f x1 0).bind fun t126 => (some (t125 == (wrap64 ((x0.size : Int) + t126)))))) else (none)) else (some true))
end
def copperplatelaw04_ScanJoins.f (k : Nat) (a0 : ByteArray) (a1 : ByteArray) : Option (Bool) := (copperplatelaw04_awake.f).bind fun t120 => (if t120 = true then (if (a0.size : Int) > 300 then (copperplatelaw04_ScanJoins.j0 k a0 a1 t120 true) else (copperplatelaw04_ScanJoins.j0 k a0 a1 t120 (decide ((a1.size : Int) > 300)))) else (copperplatelaw04_ScanJoins.j0 k a0 a1 t120 true))
theorem copperplatelaw04_ScanJoins.mono_l : ∀ k, (∀ y0 y1 y2 y3, LeO (copperplatelaw04_ScanJoins.j0 k y0 y1 y2 y3) (copperplatelaw04_ScanJoins.j0 (k + 1) y0 y1 y2 y3)) ∧ (∀ y0 y1 y2, LeO (copperplatelaw04_ScanJoins.j1 k y0 y1 y2) (copperplatelaw04_ScanJoins.j1 (k + 1) y0 y1 y2)) ∧ (∀ y0 y1 y2 y3, LeO (copperplatelaw04_ScanJoins.j2 k y0 y1 y2 y3) (copperplatelaw04_ScanJoins.j2 (k + 1) y0 y1 y2 y3))
  | 0 => ⟨fun _ _ _ _ r h => by simp [copperplatelaw04_ScanJoins.j0] at h, fun _ _ _ r h => by simp [copperplatelaw04_ScanJoins.j1] at h, fun _ _ _ _ r h => by simp [copperplatelaw04_ScanJoins.j2] at h⟩
  | k + 1 => by
    obtain ⟨ih0, ih1, ih2⟩ := copperplatelaw04_ScanJoins.mono_l k
    refine ⟨?_, ?_, ?_⟩
    · intro y0 y1 y2 y3
      unfold copperplatelaw04_ScanJoins.j0
      repeat' first
      | (with_reducible exact ih0 _ _ _ _)
      | (with_reducible exact ih1 _ _ _)
      | (with_reducible exact ih2 _ _ _ _)
      | (with_reducible exact LeO.refl _)
      | (with_reducible exact LeO.none _)
      | (with_reducible refine LeO.ite ?_ ?_)
      | (with_reducible refine LeO.bind ?_ (fun _ => ?_))
      | exact ih0 _ _ _ _
      | exact ih1 _ _ _
      | exact ih2 _ _ _ _
      | exact LeO.none _
      | refine LeO.ite ?_ ?_
      | refine LeO.bind ?_ (fun _ => ?_)
    · intro y0 y1 y2
      unfold copperplatelaw04_ScanJoins.j1
      repeat' first
      | (with_reducible exact ih0 _ _ _ _)
      | (with_reducible exact ih1 _ _ _)
      | (with_reducible exact ih2 _ _ _ _)
      | (with_reducible exact LeO.refl _)
      | (with_reducible exact LeO.none _)
      | (with_reducible refine LeO.ite ?_ ?_)
      | (with_reducible refine LeO.bind ?_ (fun _ => ?_))
      | exact ih0 _ _ _ _
      | exact ih1 _ _ _
      | exact ih2 _ _ _ _
      | exact LeO.none _
      | refine LeO.ite ?_ ?_
      | refine LeO.bind ?_ (fun _ => ?_)
    · intro y0 y1 y2 y3
      unfold copperplatelaw04_ScanJoins.j2
      repeat' first
      | (with_reducible exact ih0 _ _ _ _)
      | (with_reducible exact ih1 _ _ _)
      | (with_reducible exact ih2 _ _ _ _)
      | (with_reducible exact LeO.refl _)
      | (with_reducible exact LeO.none _)
      | (with_reducible refine LeO.ite ?_ ?_)
      | (with_reducible refine LeO.bind ?_ (fun _ => ?_))
      | exact ih0 _ _ _ _
      | exact ih1 _ _ _
      | exact ih2 _ _ _ _
      | exact LeO.none _
      | refine LeO.ite ?_ ?_
      | refine LeO.bind ?_ (fun _ => ?_)
theorem copperplatelaw04_ScanJoins.mono : ∀ a0 a1 k, LeO (copperplatelaw04_ScanJoins.f k a0 a1) (copperplatelaw04_ScanJoins.f (k + 1) a0 a1) := by
  intro a0 a1 k
  obtain ⟨ih0, ih1, ih2⟩ := copperplatelaw04_ScanJoins.mono_l k
  unfold copperplatelaw04_ScanJoins.f
  repeat' first
      | (with_reducible exact ih0 _ _ _ _)
      | (with_reducible exact ih1 _ _ _)
      | (with_reducible exact ih2 _ _ _ _)
      | (with_reducible exact LeO.refl _)
      | (with_reducible exact LeO.none _)
      | (with_reducible refine LeO.ite ?_ ?_)
      | (with_reducible refine LeO.bind ?_ (fun _ => ?_))
      | exact ih0 _ _ _ _
      | exact ih1 _ _ _
      | exact ih2 _ _ _ _
      | exact LeO.none _
      | refine LeO.ite ?_ ?_
      | refine LeO.bind ?_ (fun _ => ?_)
set_option maxHeartbeats 8000000 in
set_option maxRecDepth 100000 in
theorem copperplatelaw04_ScanJoins.calls (k : Nat) (a0 : ByteArray) (a1 : ByteArray) (r : Bool) (w : World) (h : copperplatelaw04_ScanJoins.f k a0 a1 = some r) :
    Calls Try.prog 7 #[.string a0, .string a1] w fun e w' => e = .returned (.bool r) ∧ Below w.heap.size w w' := by
  have HB := Aside0.mk (Below.refl w.heap.size w)
  have H : ((copperplatelaw04_awake.f).bind fun t120 => (if t120 = true then (if (a0.size : Int) > 300 then (copperplatelaw04_ScanJoins.j0 k a0 a1 t120 true) else (copperplatelaw04_ScanJoins.j0 k a0 a1 t120 (decide ((a1.size : Int) > 300)))) else (copperplatelaw04_ScanJoins.j0 k a0 a1 t120 true))) = some r := h
  clear h
  replace H := Option.bind_eq_some_iff.mp H
  obtain ⟨t120, A30, H⟩ := H
  replace H : (if t120 = true then (if (a0.size : Int) > 300 then (copperplatelaw04_ScanJoins.j0 k a0 a1 t120 true) else (copperplatelaw04_ScanJoins.j0 k a0 a1 t120 (decide ((a1.size : Int) > 300)))) else (copperplatelaw04_ScanJoins.j0 k a0 a1 t120 true)) = some r := H
  have A3 := Aside0.mk A30
  clear A30
  have HC4 := Aside0.mk H
  clear H
  go_enter Try.func7, Try.ntmps7
  go_upto_region 2 with (first | ((with_reducible refine gate_callee (f := 14) rfl ?_); refine goesL_ (some 8) rfl rfl Try.func14 (by kernel_rfl) rfl #[] rfl (by (try simp only [List.map_toArray, List.map_cons, List.map_nil]); first | done | rfl | (simp only [List.length_drop, List.length_take]; rfl)) ?_; (with_reducible refine (copperplatelaw04_awake.calls  t120 _ A3.out).mono ?_); rintro e w5 ⟨rfl, hb⟩; refine ⟨_, rfl, ?_⟩; have n0_ := Aside0.mk (below_step (by repeat (first | (with_reducible first | exact HB.out | apply below_alloc | apply pw_below_drewN | apply below_drew1) | exact HB.out)) hb); clear HB; have HB := n0_; clear n0_; (try clear hb); (try clear hb2); (try clear hk); (try clear hi)))
  (try simp only [Act.put, List.setIfInBounds_toArray, List.set_cons_zero, List.set_cons_succ])
  go_cut [20] (fun v20 wc => ∃ (kq : Nat) (x20_3 : Bool), v20 = .bool x20_3 ∧ Aside0 (copperplatelaw04_ScanJoins.j0 kq a0 a1 t120 x20_3 = some r) ∧ Aside0 (kq ≤ k) ∧ Aside0 (Below w.heap.size w wc))
  case first =>
    have H := HC4.out
    clear HC4
    by_cases c6 : t120 = true
    · subst c6
      have H1 : (if (a0.size : Int) > 300 then (copperplatelaw04_ScanJoins.j0 k a0 a1 true true) else (copperplatelaw04_ScanJoins.j0 k a0 a1 true (decide ((a1.size : Int) > 300)))) = some r := by rw [if_pos rfl] at H; exact H
      clear H
      have H := H1
      clear H1
      by_cases c7 : (a0.size : Int) > 300
      · rw [if_pos c7] at H
        have c7b0 : decide (300 < (a0.size : Int)) = true := decide_eq_true c7
        have c7b1 : decide (300 < a0.size) = true := decide_eq_true (by omega)
        clear c7
        (first | rw [c7b0] | (simp only [i64_w, i32_w]; rw [c7b0]) | skip)
        have H' := Aside0.mk H
        clear H
        go_wp2
        go_meet
        case rel => exact ⟨_, (true), (by first | rfl | (simp; done) | (simp [*]; done)), H', ⟨by first | omega | exact Nat.le_refl _⟩, ⟨by repeat (first | (with_reducible first | exact HB.out | apply below_alloc | apply pw_below_drewN | apply below_drew1) | exact HB.out)⟩⟩
      · rw [if_neg c7] at H
        have c7b0 : decide (300 < (a0.size : Int)) = false := decide_eq_false c7
        have c7b1 : decide (300 < a0.size) = false := decide_eq_false (by omega)
        clear c7
        (first | rw [c7b0] | (simp only [i64_w, i32_w]; rw [c7b0]) | skip)
        have H' := Aside0.mk H
        clear H
        go_wp2
        go_meet
        case rel => exact ⟨_, (decide ((a1.size : Int) > 300)), (by first | rfl | (simp; done) | (simp [*]; done)), H', ⟨by first | omega | exact Nat.le_refl _⟩, ⟨by repeat (first | (with_reducible first | exact HB.out | apply below_alloc | apply pw_below_drewN | apply below_drew1) | exact HB.out)⟩⟩
    · replace c6 := Bool.eq_false_iff.mpr c6
      subst c6
      have H1 : (copperplatelaw04_ScanJoins.j0 k a0 a1 false true) = some r := by rw [if_neg (show ¬ (false = true) by decide)] at H; exact H
      clear H
      have H := H1
      clear H1
      have H' := Aside0.mk H
      clear H
      go_wp2
      go_meet
      case rel => exact ⟨_, (true), (by first | rfl | (simp; done) | (simp [*]; done)), H', ⟨by first | omega | exact Nat.le_refl _⟩, ⟨by repeat (first | (with_reducible first | exact HB.out | apply below_alloc | apply pw_below_drewN | apply below_drew1) | exact HB.out)⟩⟩
  case rest =>
    clear HC4
    try clear c1
    try clear p2
    try clear c6
    try clear c7
    try clear c7b0
    try clear c7b1
    obtain ⟨kq, x20_3, rfl, HA, HJ3, HB⟩ := hcut
    cases kq with
    | zero => exact absurd HA.out (by simp [copperplatelaw04_ScanJoins.j0])
    | succ kj3 =>
      have H := HA.out
      clear HA
      simp only [copperplatelaw04_ScanJoins.j0] at H
      by_cases c8 : x20_3 = true
      · subst c8
        have H1 : (some t120) = some r := by rw [if_pos rfl] at H; exact H
        clear H
        have H := H1
        clear H1
        obtain rfl := Option.some.inj H
        go_wp2
        go_ret
        exact ⟨by first | rfl | (simp [errW_none, errW_some] <;> rfl) | (simp [*, errW_none, errW_some] <;> rfl), by repeat (first | (with_reducible first | exact HB.out | apply below_alloc | apply pw_below_drewN | apply below_drew1) | exact HB.out)⟩
      · replace c8 := Bool.eq_false_iff.mpr c8
        subst c8
        have H1 : (if a0.toList = ([] : List UInt8) then (copperplatelaw04_ScanJoins.j1 kj3 a0 a1 false) else ((scan_Name.f a0 0).bind fun t121 => (copperplatelaw04_ScanJoins.j1 kj3 a0 a1 (t121 == (a0.size : Int))))) = some r := by rw [if_neg (show ¬ (false = true) by decide)] at H; exact H
        clear H
        have H := H1
        clear H1
        have HC9 := Aside0.mk H
        clear H
        go_upto_region 4 with (fail)
        go_cut [6] (fun v6 wc => ∃ (kq : Nat) (x6_8 : Bool), v6 = .bool x6_8 ∧ Aside0 (copperplatelaw04_ScanJoins.j1 kq a0 a1 x6_8 = some r) ∧ Aside0 (kq ≤ kj3) ∧ Aside0 (Below w.heap.size w wc))
        case first =>
          have H := HC9.out
          clear HC9
          by_cases c10 : a0.toList = ([] : List UInt8)
          · rw [if_pos c10] at H
            have c10b0 : (a0.toList == ([] : List UInt8)) = true := beq_iff_eq.mpr c10
            have c10b1 : (a0.toList != ([] : List UInt8)) = false := bne_eq_false_iff_eq.mpr c10
            clear c10
            (first | rw [c10b0] | (simp only [i64_w, i32_w]; rw [c10b0]) | skip)
            have H' := Aside0.mk H
            clear H
            go_wp2
            go_meet
            case rel => exact ⟨_, (false), (by first | rfl | (simp; done) | (simp [*]; done)), H', ⟨by have := HJ3.out; first | omega | exact Nat.le_refl _⟩, ⟨by repeat (first | (with_reducible first | exact HB.out | apply below_alloc | apply pw_below_drewN | apply below_drew1) | exact HB.out)⟩⟩
          · rw [if_neg c10] at H
            have c10b0 : (a0.toList == ([] : List UInt8)) = false := beq_eq_false_iff_ne.mpr c10
            have c10b1 : (a0.toList != ([] : List UInt8)) = true := bne_iff_ne.mpr c10
            (first | rw [c10b0] | (simp only [i64_w, i32_w]; rw [c10b0]) | skip)
            replace H := Option.bind_eq_some_iff.mp H
            obtain ⟨t121, A110, H⟩ := H
            replace H : (copperplatelaw04_ScanJoins.j1 kj3 a0 a1 (t121 == (a0.size : Int))) = some r := H
            have A11 := Aside0.mk A110
            clear A110
            have H' := Aside0.mk H
            clear H
            go_wp2_with (first | (go_at_call 17; (with_reducible refine (scan_Name.calls a0 0 t121 _ A11.out).mono ?_); rintro e w12 ⟨rfl, hb⟩; have n0_ := Aside0.mk (below_step (by repeat (first | (with_reducible first | exact HB.out | apply below_alloc | apply pw_below_drewN | apply below_drew1) | exact HB.out)) hb); clear HB; have HB := n0_; clear n0_; (try clear hb); (try clear hb2); (try clear hk); (try clear hi)))
            go_meet
            case rel => exact ⟨_, ((t121 == (a0.size : Int))), (by first | rfl | (simp; done) | (simp [*]; done)), H', ⟨by have := HJ3.out; first | omega | exact Nat.le_refl _⟩, ⟨by repeat (first | (with_reducible first | exact HB.out | apply below_alloc | apply pw_below_drewN | apply below_drew1) | exact HB.out)⟩⟩
        case rest =>
          clear HC9
          try clear c1
          try clear p2
          try clear c6
          try clear c7
          try clear c7b0
          try clear c7b1
          try clear c8
          try clear c10
          try clear c10b0
          try clear c10b1
          try clear p2
          obtain ⟨kq, x6_8, rfl, HA, HJ8, HB⟩ := hcut
          cases kq with
          | zero => exact absurd HA.out (by simp [copperplatelaw04_ScanJoins.j1])
          | succ kj8 =>
            have H := HA.out
            clear HA
            simp only [copperplatelaw04_ScanJoins.j1] at H
            replace H := Option.bind_eq_some_iff.mp H
            obtain ⟨t122, A130, H⟩ := H
            replace H : (if x6_8 = true then (if a0.size + a1.size ≤ 9223372036854775807 then ((scan_Name.f (a0 ++ a1) 0).bind fun t123 => (if 1 + a1.size ≤ 9223372036854775807 then ((scan_Name.f ((⟨#[97]⟩ : ByteArray) ++ a1) 0).bind fun t124 => (copperplatelaw04_ScanJoins.j2 kj8 a0 a1 (t122 == (a0.size : Int)) (t123 != (wrap64 ((wrap64 ((a0.size : Int) + t124)) - 1))))) else (none))) else (none)) else (copperplatelaw04_ScanJoins.j2 kj8 a0 a1 (t122 == (a0.size : Int)) false)) = some r := H
            have A13 := Aside0.mk A130
            clear A130
            have HC14 := Aside0.mk H
            clear H
            go_upto_region 6 with (first | ((with_reducible refine gate_callee (f := 19) rfl ?_); refine goesL_ (some 32) rfl rfl Try.func19 (by kernel_rfl) rfl #[.string a0, .int .i64 0] rfl (by (try simp only [List.map_toArray, List.map_cons, List.map_nil]); first | done | rfl | (simp only [List.length_drop, List.length_take]; rfl)) ?_; (with_reducible refine (scan_Digits.calls a0 0 t122 _ A13.out).mono ?_); rintro e w15 ⟨rfl, hb⟩; refine ⟨_, rfl, ?_⟩; have n0_ := Aside0.mk (below_step (by repeat (first | (with_reducible first | exact HB.out | apply below_alloc | apply pw_below_drewN | apply below_drew1) | exact HB.out)) hb); clear HB; have HB := n0_; clear n0_; (try clear hb); (try clear hb2); (try clear hk); (try clear hi)))
            (try simp only [Act.put, List.setIfInBounds_toArray, List.set_cons_zero, List.set_cons_succ])
            go_cut [50] (fun v50 wc => ∃ (kq : Nat) (x50_13 : Bool), v50 = .bool x50_13 ∧ Aside0 (copperplatelaw04_ScanJoins.j2 kq a0 a1 (t122 == (a0.size : Int)) x50_13 = some r) ∧ Aside0 (kq ≤ kj8) ∧ Aside0 (Below w.heap.size w wc))
            case first =>
              have H := HC14.out
              clear HC14
              by_cases c16 : x6_8 = true
              · subst c16
                have H1 : (if a0.size + a1.size ≤ 9223372036854775807 then ((scan_Name.f (a0 ++ a1) 0).bind fun t123 => (if 1 + a1.size ≤ 9223372036854775807 then ((scan_Name.f ((⟨#[97]⟩ : ByteArray) ++ a1) 0).bind fun t124 => (copperplatelaw04_ScanJoins.j2 kj8 a0 a1 (t122 == (a0.size : Int)) (t123 != (wrap64 ((wrap64 ((a0.size : Int) + t124)) - 1))))) else (none))) else (none)) = some r := by rw [if_pos rfl] at H; exact H
                clear H
                have H := H1
                clear H1
                by_cases c17 : a0.size + a1.size ≤ 9223372036854775807
                · rw [if_pos c17] at H
                  have c17b0 := eq_true c17
                  have c17b1 : decide (a0.size + a1.size ≤ 9223372036854775807) = true := decide_eq_true c17
                  try have c17b2 : (9223372036854775807 < a0.size + a1.size) = False := eq_false (Nat.not_lt.2 c17)
                  replace H := Option.bind_eq_some_iff.mp H
                  obtain ⟨t123, A180, H⟩ := H
                  replace H : (if 1 + a1.size ≤ 9223372036854775807 then ((scan_Name.f ((⟨#[97]⟩ : ByteArray) ++ a1) 0).bind fun t124 => (copperplatelaw04_ScanJoins.j2 kj8 a0 a1 (t122 == (a0.size : Int)) (t123 != (wrap64 ((wrap64 ((a0.size : Int) + t124)) - 1))))) else (none)) = some r := H
                  have A18 := Aside0.mk A180
                  clear A180
                  by_cases c19 : 1 + a1.size ≤ 9223372036854775807
                  · rw [if_pos c19] at H
                    have c19b0 := eq_true c19
                    have c19b1 : decide (1 + a1.size ≤ 9223372036854775807) = true := decide_eq_true c19
                    try have c19b2 : (9223372036854775807 < 1 + a1.size) = False := eq_false (Nat.not_lt.2 c19)
                    replace H := Option.bind_eq_some_iff.mp H
                    obtain ⟨t124, A200, H⟩ := H
                    replace H : (copperplatelaw04_ScanJoins.j2 kj8 a0 a1 (t122 == (a0.size : Int)) (t123 != (wrap64 ((wrap64 ((a0.size : Int) + t124)) - 1)))) = some r := H
                    have A20 := Aside0.mk A200
                    clear A200
                    have H' := Aside0.mk H
                    clear H
                    go_wp2_with (first | (go_at_call 17; (with_reducible refine (scan_Name.calls (a0 ++ a1) 0 t123 _ A18.out).mono ?_); rintro e w21 ⟨rfl, hb⟩; have n0_ := Aside0.mk (below_step (by repeat (first | (with_reducible first | exact HB.out | apply below_alloc | apply pw_below_drewN | apply below_drew1) | exact HB.out)) hb); clear HB; have HB := n0_; clear n0_; (try clear hb); (try clear hb2); (try clear hk); (try clear hi)) | (go_at_call 17; (with_reducible refine (scan_Name.calls ((⟨#[97]⟩ : ByteArray) ++ a1) 0 t124 _ A20.out).mono ?_); rintro e w22 ⟨rfl, hb⟩; have n0_ := Aside0.mk (below_step (by repeat (first | (with_reducible first | exact HB.out | apply below_alloc | apply pw_below_drewN | apply below_drew1) | exact HB.out)) hb); clear HB; have HB := n0_; clear n0_; (try clear hb); (try clear hb2); (try clear hk); (try clear hi)))
                    go_meet
                    case rel => exact ⟨_, ((t123 != (wrap64 ((wrap64 ((a0.size : Int) + t124)) - 1)))), (by first | rfl | (simp; done) | (simp [*]; done)), H', ⟨by have := HJ3.out; have := HJ8.out; first | omega | exact Nat.le_refl _⟩, ⟨by repeat (first | (with_reducible first | exact HB.out | apply below_alloc | apply pw_below_drewN | apply below_drew1) | exact HB.out)⟩⟩
                  · rw [if_neg c19] at H
                    exact absurd H (by simp)
                · rw [if_neg c17] at H
                  exact absurd H (by simp)
              · replace c16 := Bool.eq_false_iff.mpr c16
                subst c16
                have H1 : (copperplatelaw04_ScanJoins.j2 kj8 a0 a1 (t122 == (a0.size : Int)) false) = some r := by rw [if_neg (show ¬ (false = true) by decide)] at H; exact H
                clear H
                have H := H1
                clear H1
                have H' := Aside0.mk H
                clear H
                go_wp2
                go_meet
                case rel => exact ⟨_, (false), (by first | rfl | (simp; done) | (simp [*]; done)), H', ⟨by have := HJ3.out; have := HJ8.out; first | omega | exact Nat.le_refl _⟩, ⟨by repeat (first | (with_reducible first | exact HB.out | apply below_alloc | apply pw_below_drewN | apply below_drew1) | exact HB.out)⟩⟩
            case rest =>
              clear HC14
              try clear c1
              try clear p2
              try clear c6
              try clear p6
              try clear c7
              try clear c7b0
              try clear c7b1
              try clear c8
              try clear c10
              try clear c10b0
              try clear c10b1
              try clear c14
              try clear c16
              try clear c17
              try clear c17b0
              try clear c17b1
              try clear c17b2
              try clear c19
              try clear c19b0
              try clear c19b1
              try clear c19b2
              try clear p2
              obtain ⟨kq, x50_13, rfl, HA, HJ13, HB⟩ := hcut
              cases kq with
              | zero => exact absurd HA.out (by simp [copperplatelaw04_ScanJoins.j2])
              | succ kj13 =>
                have H := HA.out
                clear HA
                simp only [copperplatelaw04_ScanJoins.j2] at H
                by_cases c23 : x50_13 = true
                · subst c23
                  have H1 : (some false) = some r := by rw [if_pos rfl] at H; exact H
                  clear H
                  have H := H1
                  clear H1
                  obtain rfl := Option.some.inj H
                  go_wp2
                  go_ret
                  exact ⟨by first | rfl | (simp [errW_none, errW_some] <;> rfl) | (simp [*, errW_none, errW_some] <;> rfl), by repeat (first | (with_reducible first | exact HB.out | apply below_alloc | apply pw_below_drewN | apply below_drew1) | exact HB.out)⟩
                · replace c23 := Bool.eq_false_iff.mpr c23
                  subst c23
                  have H1 : (if (t122 == (a0.size : Int)) = true then (if a0.size + a1.size ≤ 9223372036854775807 then ((scan_Digits.f (a0 ++ a1) 0).bind fun t125 => ((scan_Digits.f a1 0).bind fun t126 => (some (t125 == (wrap64 ((a0.size : Int) + t126)))))) else (none)) else (some true)) = some r := by rw [if_neg (show ¬ (false = true) by decide)] at H; exact H
                  clear H
                  have H := H1
                  clear H1
                  by_cases c24 : (t122 == (a0.size : Int)) = true
                  · rw [if_pos c24] at H
                    have c24b0 : (t122 == (a0.size : Int)) = true := c24
                    (try (have c24b1 : decide (t122 = (a0.size : Int)) = true := by simpa using c24))
                    (try (have c24b2 : (t122 == (a0.size : Int)) = true := by simpa using c24))
                    clear c24
                    by_cases c25 : a0.size + a1.size ≤ 9223372036854775807
                    · rw [if_pos c25] at H
                      have c25b0 := eq_true c25
                      have c25b1 : decide (a0.size + a1.size ≤ 9223372036854775807) = true := decide_eq_true c25
                      try have c25b2 : (9223372036854775807 < a0.size + a1.size) = False := eq_false (Nat.not_lt.2 c25)
                      replace H := Option.bind_eq_some_iff.mp H
                      obtain ⟨t125, A260, H⟩ := H
                      replace H : ((scan_Digits.f a1 0).bind fun t126 => (some (t125 == (wrap64 ((a0.size : Int) + t126))))) = some r := H
                      have A26 := Aside0.mk A260
                      clear A260
                      replace H := Option.bind_eq_some_iff.mp H
                      obtain ⟨t126, A270, H⟩ := H
                      replace H : (some (t125 == (wrap64 ((a0.size : Int) + t126)))) = some r := H
                      have A27 := Aside0.mk A270
                      clear A270
                      obtain rfl := Option.some.inj H
                      go_wp2_with (first | (go_at_call 19; (with_reducible refine (scan_Digits.calls (a0 ++ a1) 0 t125 _ A26.out).mono ?_); rintro e w28 ⟨rfl, hb⟩; have n0_ := Aside0.mk (below_step (by repeat (first | (with_reducible first | exact HB.out | apply below_alloc | apply pw_below_drewN | apply below_drew1) | exact HB.out)) hb); clear HB; have HB := n0_; clear n0_; (try clear hb); (try clear hb2); (try clear hk); (try clear hi)) | (go_at_call 19; (with_reducible refine (scan_Digits.calls a1 0 t126 _ A27.out).mono ?_); rintro e w29 ⟨rfl, hb⟩; have n0_ := Aside0.mk (below_step (by repeat (first | (with_reducible first | exact HB.out | apply below_alloc | apply pw_below_drewN | apply below_drew1) | exact HB.out)) hb); clear HB; have HB := n0_; clear n0_; (try clear hb); (try clear hb2); (try clear hk); (try clear hi)))
                      go_ret
                      exact ⟨by first | rfl | (simp [errW_none, errW_some] <;> rfl) | (simp [*, errW_none, errW_some] <;> rfl), by repeat (first | (with_reducible first | exact HB.out | apply below_alloc | apply pw_below_drewN | apply below_drew1) | exact HB.out)⟩
                    · rw [if_neg c25] at H
                      exact absurd H (by simp)
                  · rw [if_neg c24] at H
                    have c24b0 : (t122 == (a0.size : Int)) = false := by simpa using c24
                    (try (have c24b1 : decide (t122 = (a0.size : Int)) = false := by simpa using c24))
                    (try (have c24b2 : (t122 == (a0.size : Int)) = false := by simpa using c24))
                    (try (have c24b3 : ¬ (t122 = (a0.size : Int)) := by simpa using c24))
                    clear c24
                    obtain rfl := Option.some.inj H
                    go_wp2
                    go_ret
                    exact ⟨by first | rfl | (simp [errW_none, errW_some] <;> rfl) | (simp [*, errW_none, errW_some] <;> rfl), by repeat (first | (with_reducible first | exact HB.out | apply below_alloc | apply pw_below_drewN | apply below_drew1) | exact HB.out)⟩

/-- THE ONE PURE STATEMENT of copperplatelaw04_ScanJoins: yours. -/
def copperplatelaw04_ScanJoins.Pure : Prop := ∀ (a0 : ByteArray) (a1 : ByteArray), a0.size ≤ 140737488351232 → a1.size ≤ 140737488351232 → ∃ k, copperplatelaw04_ScanJoins.f k a0 a1 = some true
theorem copperplatelaw04_ScanJoins.walk (P : copperplatelaw04_ScanJoins.Pure) (a0 : ByteArray) (a1 : ByteArray) (w : World) (w0 : a0.size ≤ 140737488351232) (w1 : a1.size ≤ 140737488351232) :
    Calls Try.prog 7 #[.string a0, .string a1] w fun e w' => e = .returned (.bool true) ∧ Below w.heap.size w w' := by
  obtain ⟨k, h⟩ := P a0 a1 w0 w1
  refine (copperplatelaw04_ScanJoins.calls k a0 a1 true w h).mono ?_
  rintro e w' ⟨rfl, hd⟩
  exact ⟨rfl, hd⟩

/-! ### copperplatelaw04_ScanByte: function 8 -/
mutual
def copperplatelaw04_ScanByte.j0 : Nat → Int → Bool → Int → Int → Int → Bool → Bool → Option (Bool)
  | 0, _, _, _, _, _, _, _ => none
  | k + 1, x0, x3, x5, x6, x7, x8, x9 => if x3 = true then (if (wrap64 ((wrap64 (x5 + x6)) + x7)) ≤ 1 then ((scan_Begins.f x0).bind fun t134 => (if ((x5 == 1) == t134) = true then (if ((x6 == 1) == x8) = true then (some ((x7 == 1) == x9)) else (some false)) else (some false))) else (some false)) else (some false)
def copperplatelaw04_ScanByte.j1 : Nat → Int → Bool → Int → Int → Int → Bool → Bool → Option (Bool)
  | 0, _, _, _, _, _, _, _ => none
  | k + 1, x0, x3, x5, x6, x7, x8, x9 => if x3 = true then (if (wrap64 ((wrap64 (x5 + x6)) + x7)) ≤ 1 then ((scan_Begins.f x0).bind fun t135 => (if ((x5 == 1) == t135) = true then (if ((x6 == 1) == x8) = true then (some ((x7 == 1) == x9)) else (some false)) else (some false))) else (some false)) else (some false)
end
def copperplatelaw04_ScanByte.f (k : Nat) (a0 : Int) : Option (Bool) := (copperplatelaw04_awake.f).bind fun t127 => ((some (([a0] : List Int) : List Int)).bind fun y128 => ((scan_Name.f (strOfNums y128) 0).bind fun t131 => ((scan_Digits.f (strOfNums y128) 0).bind fun t132 => ((scan_Blank.f (strOfNums y128) 0).bind fun t133 => (if a0 ≥ 48 then (if a0 = 9 then (copperplatelaw04_ScanByte.j0 k a0 t127 t131 t132 t133 (decide (a0 ≤ 57)) true) else (if a0 = 10 then (copperplatelaw04_ScanByte.j0 k a0 t127 t131 t132 t133 (decide (a0 ≤ 57)) true) else (if a0 = 13 then (copperplatelaw04_ScanByte.j0 k a0 t127 t131 t132 t133 (decide (a0 ≤ 57)) true) else (if a0 = 32 then (copperplatelaw04_ScanByte.j0 k a0 t127 t131 t132 t133 (decide (a0 ≤ 57)) true) else (if a0 = 44 then (copperplatelaw04_ScanByte.j0 k a0 t127 t131 t132 t133 (decide (a0 ≤ 57)) true) else (copperplatelaw04_ScanByte.j0 k a0 t127 t131 t132 t133 (decide (a0 ≤ 57)) (a0 == 35))))))) else (if a0 = 9 then (copperplatelaw04_ScanByte.j1 k a0 t127 t131 t132 t133 false true) else (if a0 = 10 then (copperplatelaw04_ScanByte.j1 k a0 t127 t131 t132 t133 false true) else (if a0 = 13 then (copperplatelaw04_ScanByte.j1 k a0 t127 t131 t132 t133 false true) else (if a0 = 32 then (copperplatelaw04_ScanByte.j1 k a0 t127 t131 t132 t133 false true) else (if a0 = 44 then (copperplatelaw04_ScanByte.j1 k a0 t127 t131 t132 t133 false true) else (copperplatelaw04_ScanByte.j1 k a0 t127 t131 t132 t133 false (a0 == 35))))))))))))
theorem copperplatelaw04_ScanByte.mono_l : ∀ k, (∀ y0 y1 y2 y3 y4 y5 y6, LeO (copperplatelaw04_ScanByte.j0 k y0 y1 y2 y3 y4 y5 y6) (copperplatelaw04_ScanByte.j0 (k + 1) y0 y1 y2 y3 y4 y5 y6)) ∧ (∀ y0 y1 y2 y3 y4 y5 y6, LeO (copperplatelaw04_ScanByte.j1 k y0 y1 y2 y3 y4 y5 y6) (copperplatelaw04_ScanByte.j1 (k + 1) y0 y1 y2 y3 y4 y5 y6))
  | 0 => ⟨fun _ _ _ _ _ _ _ r h => by simp [copperplatelaw04_ScanByte.j0] at h, fun _ _ _ _ _ _ _ r h => by simp [copperplatelaw04_ScanByte.j1] at h⟩
  | k + 1 => by
    obtain ⟨ih0, ih1⟩ := copperplatelaw04_ScanByte.mono_l k
    refine ⟨?_, ?_⟩
    · intro y0 y1 y2 y3 y4 y5 y6
      unfold copperplatelaw04_ScanByte.j0
      repeat' first
      | (with_reducible exact ih0 _ _ _ _ _ _ _)
      | (with_reducible exact ih1 _ _ _ _ _ _ _)
      | (with_reducible exact LeO.refl _)
      | (with_reducible exact LeO.none _)
      | (with_reducible refine LeO.ite ?_ ?_)
      | (with_reducible refine LeO.bind ?_ (fun _ => ?_))
      | exact ih0 _ _ _ _ _ _ _
      | exact ih1 _ _ _ _ _ _ _
      | exact LeO.none _
      | refine LeO.ite ?_ ?_
      | refine LeO.bind ?_ (fun _ => ?_)
    · intro y0 y1 y2 y3 y4 y5 y6
      unfold copperplatelaw04_ScanByte.j1
      repeat' first
      | (with_reducible exact ih0 _ _ _ _ _ _ _)
      | (with_reducible exact ih1 _ _ _ _ _ _ _)
      | (with_reducible exact LeO.refl _)
      | (with_reducible exact LeO.none _)
      | (with_reducible refine LeO.ite ?_ ?_)
      | (with_reducible refine LeO.bind ?_ (fun _ => ?_))
      | exact ih0 _ _ _ _ _ _ _
      | exact ih1 _ _ _ _ _ _ _
      | exact LeO.none _
      | refine LeO.ite ?_ ?_
      | refine LeO.bind ?_ (fun _ => ?_)
theorem copperplatelaw04_ScanByte.mono : ∀ a0 k, LeO (copperplatelaw04_ScanByte.f k a0) (copperplatelaw04_ScanByte.f (k + 1) a0) := by
  intro a0 k
  obtain ⟨ih0, ih1⟩ := copperplatelaw04_ScanByte.mono_l k
  unfold copperplatelaw04_ScanByte.f
  repeat' first
      | (with_reducible exact ih0 _ _ _ _ _ _ _)
      | (with_reducible exact ih1 _ _ _ _ _ _ _)
      | (with_reducible exact LeO.refl _)
      | (with_reducible exact LeO.none _)
      | (with_reducible refine LeO.ite ?_ ?_)
      | (with_reducible refine LeO.bind ?_ (fun _ => ?_))
      | exact ih0 _ _ _ _ _ _ _
      | exact ih1 _ _ _ _ _ _ _
      | exact LeO.none _
      | refine LeO.ite ?_ ?_
      | refine LeO.bind ?_ (fun _ => ?_)
set_option maxHeartbeats 8000000 in
set_option maxRecDepth 100000 in
theorem copperplatelaw04_ScanByte.calls (k : Nat) (a0 : Int) (r : Bool) (w : World) (h : copperplatelaw04_ScanByte.f k a0 = some r) :
    Calls Try.prog 8 #[.int .u8 a0] w fun e w' => e = .returned (.bool r) ∧ Below w.heap.size w w' := by
  have HB := Aside0.mk (Below.refl w.heap.size w)
  have H : ((copperplatelaw04_awake.f).bind fun t127 => ((some (([a0] : List Int) : List Int)).bind fun y128 => ((scan_Name.f (strOfNums y128) 0).bind fun t131 => ((scan_Digits.f (strOfNums y128) 0).bind fun t132 => ((scan_Blank.f (strOfNums y128) 0).bind fun t133 => (if a0 ≥ 48 then (if a0 = 9 then (copperplatelaw04_ScanByte.j0 k a0 t127 t131 t132 t133 (decide (a0 ≤ 57)) true) else (if a0 = 10 then (copperplatelaw04_ScanByte.j0 k a0 t127 t131 t132 t133 (decide (a0 ≤ 57)) true) else (if a0 = 13 then (copperplatelaw04_ScanByte.j0 k a0 t127 t131 t132 t133 (decide (a0 ≤ 57)) true) else (if a0 = 32 then (copperplatelaw04_ScanByte.j0 k a0 t127 t131 t132 t133 (decide (a0 ≤ 57)) true) else (if a0 = 44 then (copperplatelaw04_ScanByte.j0 k a0 t127 t131 t132 t133 (decide (a0 ≤ 57)) true) else (copperplatelaw04_ScanByte.j0 k a0 t127 t131 t132 t133 (decide (a0 ≤ 57)) (a0 == 35))))))) else (if a0 = 9 then (copperplatelaw04_ScanByte.j1 k a0 t127 t131 t132 t133 false true) else (if a0 = 10 then (copperplatelaw04_ScanByte.j1 k a0 t127 t131 t132 t133 false true) else (if a0 = 13 then (copperplatelaw04_ScanByte.j1 k a0 t127 t131 t132 t133 false true) else (if a0 = 32 then (copperplatelaw04_ScanByte.j1 k a0 t127 t131 t132 t133 false true) else (if a0 = 44 then (copperplatelaw04_ScanByte.j1 k a0 t127 t131 t132 t133 false true) else (copperplatelaw04_ScanByte.j1 k a0 t127 t131 t132 t133 false (a0 == 35))))))))))))) = some r := h
  clear h
  replace H := Option.bind_eq_some_iff.mp H
  obtain ⟨t127, A20, H⟩ := H
  replace H : ((some (([a0] : List Int) : List Int)).bind fun y128 => ((scan_Name.f (strOfNums y128) 0).bind fun t131 => ((scan_Digits.f (strOfNums y128) 0).bind fun t132 => ((scan_Blank.f (strOfNums y128) 0).bind fun t133 => (if a0 ≥ 48 then (if a0 = 9 then (copperplatelaw04_ScanByte.j0 k a0 t127 t131 t132 t133 (decide (a0 ≤ 57)) true) else (if a0 = 10 then (copperplatelaw04_ScanByte.j0 k a0 t127 t131 t132 t133 (decide (a0 ≤ 57)) true) else (if a0 = 13 then (copperplatelaw04_ScanByte.j0 k a0 t127 t131 t132 t133 (decide (a0 ≤ 57)) true) else (if a0 = 32 then (copperplatelaw04_ScanByte.j0 k a0 t127 t131 t132 t133 (decide (a0 ≤ 57)) true) else (if a0 = 44 then (copperplatelaw04_ScanByte.j0 k a0 t127 t131 t132 t133 (decide (a0 ≤ 57)) true) else (copperplatelaw04_ScanByte.j0 k a0 t127 t131 t132 t133 (decide (a0 ≤ 57)) (a0 == 35))))))) else (if a0 = 9 then (copperplatelaw04_ScanByte.j1 k a0 t127 t131 t132 t133 false true) else (if a0 = 10 then (copperplatelaw04_ScanByte.j1 k a0 t127 t131 t132 t133 false true) else (if a0 = 13 then (copperplatelaw04_ScanByte.j1 k a0 t127 t131 t132 t133 false true) else (if a0 = 32 then (copperplatelaw04_ScanByte.j1 k a0 t127 t131 t132 t133 false true) else (if a0 = 44 then (copperplatelaw04_ScanByte.j1 k a0 t127 t131 t132 t133 false true) else (copperplatelaw04_ScanByte.j1 k a0 t127 t131 t132 t133 false (a0 == 35)))))))))))) = some r := H
  have A2 := Aside0.mk A20
  clear A20
  obtain ⟨y128, hy128⟩ : ∃ y_ : List Int, y_ = (([a0] : List Int)) := ⟨_, rfl⟩
  replace H : ((scan_Name.f (strOfNums y128) 0).bind fun t131 => ((scan_Digits.f (strOfNums y128) 0).bind fun t132 => ((scan_Blank.f (strOfNums y128) 0).bind fun t133 => (if a0 ≥ 48 then (if a0 = 9 then (copperplatelaw04_ScanByte.j0 k a0 t127 t131 t132 t133 (decide (a0 ≤ 57)) true) else (if a0 = 10 then (copperplatelaw04_ScanByte.j0 k a0 t127 t131 t132 t133 (decide (a0 ≤ 57)) true) else (if a0 = 13 then (copperplatelaw04_ScanByte.j0 k a0 t127 t131 t132 t133 (decide (a0 ≤ 57)) true) else (if a0 = 32 then (copperplatelaw04_ScanByte.j0 k a0 t127 t131 t132 t133 (decide (a0 ≤ 57)) true) else (if a0 = 44 then (copperplatelaw04_ScanByte.j0 k a0 t127 t131 t132 t133 (decide (a0 ≤ 57)) true) else (copperplatelaw04_ScanByte.j0 k a0 t127 t131 t132 t133 (decide (a0 ≤ 57)) (a0 == 35))))))) else (if a0 = 9 then (copperplatelaw04_ScanByte.j1 k a0 t127 t131 t132 t133 false true) else (if a0 = 10 then (copperplatelaw04_ScanByte.j1 k a0 t127 t131 t132 t133 false true) else (if a0 = 13 then (copperplatelaw04_ScanByte.j1 k a0 t127 t131 t132 t133 false true) else (if a0 = 32 then (copperplatelaw04_ScanByte.j1 k a0 t127 t131 t132 t133 false true) else (if a0 = 44 then (copperplatelaw04_ScanByte.j1 k a0 t127 t131 t132 t133 false true) else (copperplatelaw04_ScanByte.j1 k a0 t127 t131 t132 t133 false (a0 == 35))))))))))) = some r := by first | (rw [hy128]; with_reducible exact H) | (have H2_ := (Option.bind_some _ _).symm.trans H; rw [hy128]; with_reducible exact H2_) | (have H2_ := (Option.bind_some _ _).symm.trans H; with_reducible exact H2_) | with_reducible exact H | (rw [hy128]; exact H) | exact H
  have Ny128 := Aside0.mk hy128
  clear hy128
  replace H := Option.bind_eq_some_iff.mp H
  obtain ⟨t131, A30, H⟩ := H
  replace H : ((scan_Digits.f (strOfNums y128) 0).bind fun t132 => ((scan_Blank.f (strOfNums y128) 0).bind fun t133 => (if a0 ≥ 48 then (if a0 = 9 then (copperplatelaw04_ScanByte.j0 k a0 t127 t131 t132 t133 (decide (a0 ≤ 57)) true) else (if a0 = 10 then (copperplatelaw04_ScanByte.j0 k a0 t127 t131 t132 t133 (decide (a0 ≤ 57)) true) else (if a0 = 13 then (copperplatelaw04_ScanByte.j0 k a0 t127 t131 t132 t133 (decide (a0 ≤ 57)) true) else (if a0 = 32 then (copperplatelaw04_ScanByte.j0 k a0 t127 t131 t132 t133 (decide (a0 ≤ 57)) true) else (if a0 = 44 then (copperplatelaw04_ScanByte.j0 k a0 t127 t131 t132 t133 (decide (a0 ≤ 57)) true) else (copperplatelaw04_ScanByte.j0 k a0 t127 t131 t132 t133 (decide (a0 ≤ 57)) (a0 == 35))))))) else (if a0 = 9 then (copperplatelaw04_ScanByte.j1 k a0 t127 t131 t132 t133 false true) else (if a0 = 10 then (copperplatelaw04_ScanByte.j1 k a0 t127 t131 t132 t133 false true) else (if a0 = 13 then (copperplatelaw04_ScanByte.j1 k a0 t127 t131 t132 t133 false true) else (if a0 = 32 then (copperplatelaw04_ScanByte.j1 k a0 t127 t131 t132 t133 false true) else (if a0 = 44 then (copperplatelaw04_ScanByte.j1 k a0 t127 t131 t132 t133 false true) else (copperplatelaw04_ScanByte.j1 k a0 t127 t131 t132 t133 false (a0 == 35)))))))))) = some r := H
  have A3 := Aside0.mk A30
  clear A30
  replace H := Option.bind_eq_some_iff.mp H
  obtain ⟨t132, A40, H⟩ := H
  replace H : ((scan_Blank.f (strOfNums y128) 0).bind fun t133 => (if a0 ≥ 48 then (if a0 = 9 then (copperplatelaw04_ScanByte.j0 k a0 t127 t131 t132 t133 (decide (a0 ≤ 57)) true) else (if a0 = 10 then (copperplatelaw04_ScanByte.j0 k a0 t127 t131 t132 t133 (decide (a0 ≤ 57)) true) else (if a0 = 13 then (copperplatelaw04_ScanByte.j0 k a0 t127 t131 t132 t133 (decide (a0 ≤ 57)) true) else (if a0 = 32 then (copperplatelaw04_ScanByte.j0 k a0 t127 t131 t132 t133 (decide (a0 ≤ 57)) true) else (if a0 = 44 then (copperplatelaw04_ScanByte.j0 k a0 t127 t131 t132 t133 (decide (a0 ≤ 57)) true) else (copperplatelaw04_ScanByte.j0 k a0 t127 t131 t132 t133 (decide (a0 ≤ 57)) (a0 == 35))))))) else (if a0 = 9 then (copperplatelaw04_ScanByte.j1 k a0 t127 t131 t132 t133 false true) else (if a0 = 10 then (copperplatelaw04_ScanByte.j1 k a0 t127 t131 t132 t133 false true) else (if a0 = 13 then (copperplatelaw04_ScanByte.j1 k a0 t127 t131 t132 t133 false true) else (if a0 = 32 then (copperplatelaw04_ScanByte.j1 k a0 t127 t131 t132 t133 false true) else (if a0 = 44 then (copperplatelaw04_ScanByte.j1 k a0 t127 t131 t132 t133 false true) else (copperplatelaw04_ScanByte.j1 k a0 t127 t131 t132 t133 false (a0 == 35))))))))) = some r := H
  have A4 := Aside0.mk A40
  clear A40
  replace H := Option.bind_eq_some_iff.mp H
  obtain ⟨t133, A50, H⟩ := H
  replace H : (if a0 ≥ 48 then (if a0 = 9 then (copperplatelaw04_ScanByte.j0 k a0 t127 t131 t132 t133 (decide (a0 ≤ 57)) true) else (if a0 = 10 then (copperplatelaw04_ScanByte.j0 k a0 t127 t131 t132 t133 (decide (a0 ≤ 57)) true) else (if a0 = 13 then (copperplatelaw04_ScanByte.j0 k a0 t127 t131 t132 t133 (decide (a0 ≤ 57)) true) else (if a0 = 32 then (copperplatelaw04_ScanByte.j0 k a0 t127 t131 t132 t133 (decide (a0 ≤ 57)) true) else (if a0 = 44 then (copperplatelaw04_ScanByte.j0 k a0 t127 t131 t132 t133 (decide (a0 ≤ 57)) true) else (copperplatelaw04_ScanByte.j0 k a0 t127 t131 t132 t133 (decide (a0 ≤ 57)) (a0 == 35))))))) else (if a0 = 9 then (copperplatelaw04_ScanByte.j1 k a0 t127 t131 t132 t133 false true) else (if a0 = 10 then (copperplatelaw04_ScanByte.j1 k a0 t127 t131 t132 t133 false true) else (if a0 = 13 then (copperplatelaw04_ScanByte.j1 k a0 t127 t131 t132 t133 false true) else (if a0 = 32 then (copperplatelaw04_ScanByte.j1 k a0 t127 t131 t132 t133 false true) else (if a0 = 44 then (copperplatelaw04_ScanByte.j1 k a0 t127 t131 t132 t133 false true) else (copperplatelaw04_ScanByte.j1 k a0 t127 t131 t132 t133 false (a0 == 35)))))))) = some r := H
  have A5 := Aside0.mk A50
  clear A50
  by_cases c6 : a0 ≥ 48
  · rw [if_pos c6] at H
    have c6b0 : decide (48 ≤ a0) = true := decide_eq_true c6
    clear c6
    have HC7 := Aside0.mk H
    clear H
    go_enter Try.func8, Try.ntmps8
    go_upto_region 7 with (first | ((with_reducible refine gate_callee (f := 14) rfl ?_); refine goesL_ (some 10) rfl rfl Try.func14 (by kernel_rfl) rfl #[] rfl (by (try simp only [List.map_toArray, List.map_cons, List.map_nil]); first | done | rfl | (simp only [List.length_drop, List.length_take]; rfl)) ?_; (with_reducible refine (copperplatelaw04_awake.calls  t127 _ A2.out).mono ?_); rintro e w8 ⟨rfl, hb⟩; refine ⟨_, rfl, ?_⟩; have n0_ := Aside0.mk (below_step (by repeat (first | (with_reducible first | exact HB.out | apply below_alloc | apply pw_below_drewN | apply below_drew1) | exact HB.out)) hb); clear HB; have HB := n0_; clear n0_; (try clear hb); (try clear hb2); (try clear hk); (try clear hi)) | ((with_reducible refine gate_dst (N := 12) rfl ?_); refine Kd.R_lit (Kd.int .u8) _ 5 ?hg (N := 12) ?hd (xs := ([a0] : List Int)) (inner := [.int .u8 a0]) (ok := fun _ => True) (okp := fun _ => True) ?hr ?hp (fun _ hk => hk) trivial (Below.refl _ _) (Nat.le_refl _) (by simp) ?_; (case hd => rfl); (case hg => rfl); (case hr => first | (go_simp; done) | (go_simp; rfl)); (case hp => exact (Reps.one (show Kd.M (Kd.int .u8) _ _ _ a0 [.int .u8 a0] from rfl) (Reps.none _ _))); intro v129 w9 ho10 hb hg_ hnew_; clear hg_ hnew_; (first | rw [← Ny128.out] at ho10 | (simp only [Int.reduceToNat] at ho10; rw [← Ny128.out] at ho10)); have n0_ := Aside0.mk (Kd.R_lower ho10 (below_size (by repeat (first | (with_reducible first | exact HB.out | apply below_alloc | apply pw_below_drewN | apply below_drew1) | exact HB.out)))); have n1_ := Aside0.mk (below_step (by repeat (first | (with_reducible first | exact HB.out | apply below_alloc | apply pw_below_drewN | apply below_drew1) | exact HB.out)) hb); clear HB; have HO130 := n0_; have HB := n1_; clear n0_ n1_; clear hb ho10; have hcv11 := own_string (P := Try.prog) Try.underlying29 Try.underlying5 Try.underlying9 (Kd.own_of_R HO130.out)) | ((with_reducible refine gate_callee (f := 17) rfl ?_); refine goesL_ (some 15) rfl rfl Try.func17 (by kernel_rfl) rfl #[.string (strOfNums y128), .int .i64 0] rfl (by (try simp only [List.map_toArray, List.map_cons, List.map_nil]); first | done | rfl | (simp only [List.length_drop, List.length_take]; rfl)) ?_; (with_reducible refine (scan_Name.calls (strOfNums y128) 0 t131 _ A3.out).mono ?_); rintro e w12 ⟨rfl, hb⟩; refine ⟨_, rfl, ?_⟩; have n0_ := Aside0.mk (Kd.R_below (by (with_reducible repeat (first | apply Kd.R_alloc | apply Kd.R_drewN | apply Kd.R_drew)); exact HO130.out) hb); have n1_ := Aside0.mk (below_step (by repeat (first | (with_reducible first | exact HB.out | apply below_alloc | apply pw_below_drewN | apply below_drew1) | exact HB.out)) hb); clear HO130; clear HB; have HO130 := n0_; have HB := n1_; clear n0_ n1_; (try clear hb); (try clear hb2); (try clear hk); (try clear hi)) | ((with_reducible refine gate_callee (f := 19) rfl ?_); refine goesL_ (some 17) rfl rfl Try.func19 (by kernel_rfl) rfl #[.string (strOfNums y128), .int .i64 0] rfl (by (try simp only [List.map_toArray, List.map_cons, List.map_nil]); first | done | rfl | (simp only [List.length_drop, List.length_take]; rfl)) ?_; (with_reducible refine (scan_Digits.calls (strOfNums y128) 0 t132 _ A4.out).mono ?_); rintro e w13 ⟨rfl, hb⟩; refine ⟨_, rfl, ?_⟩; have n0_ := Aside0.mk (Kd.R_below (by (with_reducible repeat (first | apply Kd.R_alloc | apply Kd.R_drewN | apply Kd.R_drew)); exact HO130.out) hb); have n1_ := Aside0.mk (below_step (by repeat (first | (with_reducible first | exact HB.out | apply below_alloc | apply pw_below_drewN | apply below_drew1) | exact HB.out)) hb); clear HO130; clear HB; have HO130 := n0_; have HB := n1_; clear n0_ n1_; (try clear hb); (try clear hb2); (try clear hk); (try clear hi)) | ((with_reducible refine gate_callee (f := 21) rfl ?_); refine goesL_ (some 19) rfl rfl Try.func21 (by kernel_rfl) rfl #[.string (strOfNums y128), .int .i64 0] rfl (by (try simp only [List.map_toArray, List.map_cons, List.map_nil]); first | done | rfl | (simp only [List.length_drop, List.length_take]; rfl)) ?_; (with_reducible refine (scan_Blank.calls (strOfNums y128) 0 t133 _ A5.out).mono ?_); rintro e w14 ⟨rfl, hb⟩; refine ⟨_, rfl, ?_⟩; have n0_ := Aside0.mk (Kd.R_below (by (with_reducible repeat (first | apply Kd.R_alloc | apply Kd.R_drewN | apply Kd.R_drew)); exact HO130.out) hb); have n1_ := Aside0.mk (below_step (by repeat (first | (with_reducible first | exact HB.out | apply below_alloc | apply pw_below_drewN | apply below_drew1) | exact HB.out)) hb); clear HO130; clear HB; have HO130 := n0_; have HB := n1_; clear n0_ n1_; (try clear hb); (try clear hb2); (try clear hk); (try clear hi)))
    (try simp only [Act.put, List.setIfInBounds_toArray, List.set_cons_zero, List.set_cons_succ])
    go_cut [9] (fun v9 wc => ∃ (kq : Nat) (x9_6 : Bool), v9 = .bool x9_6 ∧ Aside0 (copperplatelaw04_ScanByte.j0 kq a0 t127 t131 t132 t133 (decide (a0 ≤ 57)) x9_6 = some r) ∧ Aside0 (kq ≤ k) ∧ Aside0 (Below w.heap.size w wc))
    case first =>
      have H := HC7.out
      clear HC7
      by_cases c15 : a0 = 9
      · rw [if_pos c15] at H
        have c15b0 : (a0 == 9) = true := beq_iff_eq.mpr c15
        have c15b1 : (a0 != 9) = false := bne_eq_false_iff_eq.mpr c15
        clear c15
        (first | rw [c15b0] | (simp only [i64_w, i32_w]; rw [c15b0]) | skip)
        have H' := Aside0.mk H
        clear H
        go_wp2
        go_meet
        case rel => exact ⟨_, (true), (by first | rfl | (simp; done) | (simp [*]; done)), H', ⟨by first | omega | exact Nat.le_refl _⟩, ⟨by repeat (first | (with_reducible first | exact HB.out | apply below_alloc | apply pw_below_drewN | apply below_drew1) | exact HB.out)⟩⟩
      · rw [if_neg c15] at H
        have c15b0 : (a0 == 9) = false := beq_eq_false_iff_ne.mpr c15
        have c15b1 : (a0 != 9) = true := bne_iff_ne.mpr c15
        (first | rw [c15b0] | (simp only [i64_w, i32_w]; rw [c15b0]) | skip)
        by_cases c16 : a0 = 10
        · rw [if_pos c16] at H
          have c16b0 : (a0 == 10) = true := beq_iff_eq.mpr c16
          have c16b1 : (a0 != 10) = false := bne_eq_false_iff_eq.mpr c16
          clear c16
          have H' := Aside0.mk H
          clear H
          go_wp2
          go_meet
          case rel => exact ⟨_, (true), (by first | rfl | (simp; done) | (simp [*]; done)), H', ⟨by first | omega | exact Nat.le_refl _⟩, ⟨by repeat (first | (with_reducible first | exact HB.out | apply below_alloc | apply pw_below_drewN | apply below_drew1) | exact HB.out)⟩⟩
        · rw [if_neg c16] at H
          have c16b0 : (a0 == 10) = false := beq_eq_false_iff_ne.mpr c16
          have c16b1 : (a0 != 10) = true := bne_iff_ne.mpr c16
          by_cases c17 : a0 = 13
          · rw [if_pos c17] at H
            have c17b0 : (a0 == 13) = true := beq_iff_eq.mpr c17
            have c17b1 : (a0 != 13) = false := bne_eq_false_iff_eq.mpr c17
            clear c17
            have H' := Aside0.mk H
            clear H
            go_wp2
            go_meet
            case rel => exact ⟨_, (true), (by first | rfl | (simp; done) | (simp [*]; done)), H', ⟨by first | omega | exact Nat.le_refl _⟩, ⟨by repeat (first | (with_reducible first | exact HB.out | apply below_alloc | apply pw_below_drewN | apply below_drew1) | exact HB.out)⟩⟩
          · rw [if_neg c17] at H
            have c17b0 : (a0 == 13) = false := beq_eq_false_iff_ne.mpr c17
            have c17b1 : (a0 != 13) = true := bne_iff_ne.mpr c17
            by_cases c18 : a0 = 32
            · rw [if_pos c18] at H
              have c18b0 : (a0 == 32) = true := beq_iff_eq.mpr c18
              have c18b1 : (a0 != 32) = false := bne_eq_false_iff_eq.mpr c18
              clear c18
              have H' := Aside0.mk H
              clear H
              go_wp2
              go_meet
              case rel => exact ⟨_, (true), (by first | rfl | (simp; done) | (simp [*]; done)), H', ⟨by first | omega | exact Nat.le_refl _⟩, ⟨by repeat (first | (with_reducible first | exact HB.out | apply below_alloc | apply pw_below_drewN | apply below_drew1) | exact HB.out)⟩⟩
            · rw [if_neg c18] at H
              have c18b0 : (a0 == 32) = false := beq_eq_false_iff_ne.mpr c18
              have c18b1 : (a0 != 32) = true := bne_iff_ne.mpr c18
              by_cases c19 : a0 = 44
              · rw [if_pos c19] at H
                have c19b0 : (a0 == 44) = true := beq_iff_eq.mpr c19
                have c19b1 : (a0 != 44) = false := bne_eq_false_iff_eq.mpr c19
                clear c19
                have H' := Aside0.mk H
                clear H
                go_wp2
                go_meet
                case rel => exact ⟨_, (true), (by first | rfl | (simp; done) | (simp [*]; done)), H', ⟨by first | omega | exact Nat.le_refl _⟩, ⟨by repeat (first | (with_reducible first | exact HB.out | apply below_alloc | apply pw_below_drewN | apply below_drew1) | exact HB.out)⟩⟩
              · rw [if_neg c19] at H
                have c19b0 : (a0 == 44) = false := beq_eq_false_iff_ne.mpr c19
                have c19b1 : (a0 != 44) = true := bne_iff_ne.mpr c19
                have H' := Aside0.mk H
                clear H
                go_wp2
                go_meet
                case rel => exact ⟨_, ((a0 == 35)), (by first | rfl | (simp; done) | (simp [*]; done)), H', ⟨by first | omega | exact Nat.le_refl _⟩, ⟨by repeat (first | (with_reducible first | exact HB.out | apply below_alloc | apply pw_below_drewN | apply below_drew1) | exact HB.out)⟩⟩
    case rest =>
      clear HC7
      try clear c1
      try clear hcv1
      try clear c2
      try clear p2
      try clear c6
      try clear c6b0
      try clear c8
      try clear hcv11
      try clear c14
      try clear c15
      try clear c15b0
      try clear c15b1
      try clear c16
      try clear c16b0
      try clear c16b1
      try clear c17
      try clear c17b0
      try clear c17b1
      try clear c18
      try clear c18b0
      try clear c18b1
      try clear c19
      try clear c19b0
      try clear c19b1
      obtain ⟨kq, x9_6, rfl, HA, HJ6, HB⟩ := hcut
      cases kq with
      | zero => exact absurd HA.out (by simp [copperplatelaw04_ScanByte.j0])
      | succ kj6 =>
        have H := HA.out
        clear HA
        simp only [copperplatelaw04_ScanByte.j0] at H
        by_cases c20 : t127 = true
        · subst c20
          have H1 : (if (wrap64 ((wrap64 (t131 + t132)) + t133)) ≤ 1 then ((scan_Begins.f a0).bind fun t134 => (if ((t131 == 1) == t134) = true then (if ((t132 == 1) == (decide (a0 ≤ 57))) = true then (some ((t133 == 1) == x9_6)) else (some false)) else (some false))) else (some false)) = some r := by rw [if_pos rfl] at H; exact H
          clear H
          have H := H1
          clear H1
          by_cases c21 : (wrap64 ((wrap64 (t131 + t132)) + t133)) ≤ 1
          · rw [if_pos c21] at H
            have c21b0 : decide ((wrap64 ((wrap64 (t131 + t132)) + t133)) ≤ 1) = true := decide_eq_true c21
            clear c21
            replace H := Option.bind_eq_some_iff.mp H
            obtain ⟨t134, A220, H⟩ := H
            replace H : (if ((t131 == 1) == t134) = true then (if ((t132 == 1) == (decide (a0 ≤ 57))) = true then (some ((t133 == 1) == x9_6)) else (some false)) else (some false)) = some r := H
            have A22 := Aside0.mk A220
            clear A220
            by_cases c23 : ((t131 == 1) == t134) = true
            · rw [if_pos c23] at H
              have c23b0 : ((t131 == 1) == t134) = true := c23
              (try (have c23b1 : decide ((t131 == 1) = t134) = true := by simpa using c23))
              (try (have c23b2 : ((t131 == 1) == t134) = true := by simpa using c23))
              clear c23
              by_cases c24 : ((t132 == 1) == (decide (a0 ≤ 57))) = true
              · rw [if_pos c24] at H
                have c24b0 : ((t132 == 1) == (decide (a0 ≤ 57))) = true := c24
                (try (have c24b1 : decide ((t132 == 1) = (decide (a0 ≤ 57))) = true := by simpa using c24))
                (try (have c24b2 : ((t132 == 1) == (decide (a0 ≤ 57))) = true := by simpa using c24))
                clear c24
                obtain rfl := Option.some.inj H
                go_wp2_with (first | (go_at_call 16; (with_reducible refine (scan_Begins.calls a0 t134 _ A22.out).mono ?_); rintro e w' ⟨rfl, ⟨nd, rfl⟩⟩))
                go_ret
                exact ⟨by first | rfl | (simp [errW_none, errW_some] <;> rfl) | (simp [*, errW_none, errW_some] <;> rfl), by repeat (first | (with_reducible first | exact HB.out | apply below_alloc | apply pw_below_drewN | apply below_drew1) | exact HB.out)⟩
              · rw [if_neg c24] at H
                have c24b0 : ((t132 == 1) == (decide (a0 ≤ 57))) = false := by simpa using c24
                (try (have c24b1 : decide ((t132 == 1) = (decide (a0 ≤ 57))) = false := by simpa using c24))
                (try (have c24b2 : ((t132 == 1) == (decide (a0 ≤ 57))) = false := by simpa using c24))
                (try (have c24b3 : ¬ ((t132 == 1) = (decide (a0 ≤ 57))) := by simpa using c24))
                clear c24
                obtain rfl := Option.some.inj H
                go_wp2_with (first | (go_at_call 16; (with_reducible refine (scan_Begins.calls a0 t134 _ A22.out).mono ?_); rintro e w' ⟨rfl, ⟨nd, rfl⟩⟩))
                go_ret
                exact ⟨by first | rfl | (simp [errW_none, errW_some] <;> rfl) | (simp [*, errW_none, errW_some] <;> rfl), by repeat (first | (with_reducible first | exact HB.out | apply below_alloc | apply pw_below_drewN | apply below_drew1) | exact HB.out)⟩
            · rw [if_neg c23] at H
              have c23b0 : ((t131 == 1) == t134) = false := by simpa using c23
              (try (have c23b1 : decide ((t131 == 1) = t134) = false := by simpa using c23))
              (try (have c23b2 : ((t131 == 1) == t134) = false := by simpa using c23))
              (try (have c23b3 : ¬ ((t131 == 1) = t134) := by simpa using c23))
              clear c23
              obtain rfl := Option.some.inj H
              go_wp2_with (first | (go_at_call 16; (with_reducible refine (scan_Begins.calls a0 t134 _ A22.out).mono ?_); rintro e w' ⟨rfl, ⟨nd, rfl⟩⟩))
              go_ret
              exact ⟨by first | rfl | (simp [errW_none, errW_some] <;> rfl) | (simp [*, errW_none, errW_some] <;> rfl), by repeat (first | (with_reducible first | exact HB.out | apply below_alloc | apply pw_below_drewN | apply below_drew1) | exact HB.out)⟩
          · rw [if_neg c21] at H
            have c21b0 : decide ((wrap64 ((wrap64 (t131 + t132)) + t133)) ≤ 1) = false := decide_eq_false c21
            clear c21
            obtain rfl := Option.some.inj H
            go_wp2
            go_ret
            exact ⟨by first | rfl | (simp [errW_none, errW_some] <;> rfl) | (simp [*, errW_none, errW_some] <;> rfl), by repeat (first | (with_reducible first | exact HB.out | apply below_alloc | apply pw_below_drewN | apply below_drew1) | exact HB.out)⟩
        · replace c20 := Bool.eq_false_iff.mpr c20
          subst c20
          have H1 : (some false) = some r := by rw [if_neg (show ¬ (false = true) by decide)] at H; exact H
          clear H
          have H := H1
          clear H1
          obtain rfl := Option.some.inj H
          go_wp2
          go_ret
          exact ⟨by first | rfl | (simp [errW_none, errW_some] <;> rfl) | (simp [*, errW_none, errW_some] <;> rfl), by repeat (first | (with_reducible first | exact HB.out | apply below_alloc | apply pw_below_drewN | apply below_drew1) | exact HB.out)⟩
  · rw [if_neg c6] at H
    have c6b0 : decide (48 ≤ a0) = false := decide_eq_false c6
    clear c6
    have HC25 := Aside0.mk H
    clear H
    go_enter Try.func8, Try.ntmps8
    go_upto_region 7 with (first | ((with_reducible refine gate_callee (f := 14) rfl ?_); refine goesL_ (some 10) rfl rfl Try.func14 (by kernel_rfl) rfl #[] rfl (by (try simp only [List.map_toArray, List.map_cons, List.map_nil]); first | done | rfl | (simp only [List.length_drop, List.length_take]; rfl)) ?_; (with_reducible refine (copperplatelaw04_awake.calls  t127 _ A2.out).mono ?_); rintro e w26 ⟨rfl, hb⟩; refine ⟨_, rfl, ?_⟩; have n0_ := Aside0.mk (below_step (by repeat (first | (with_reducible first | exact HB.out | apply below_alloc | apply pw_below_drewN | apply below_drew1) | exact HB.out)) hb); clear HB; have HB := n0_; clear n0_; (try clear hb); (try clear hb2); (try clear hk); (try clear hi)) | ((with_reducible refine gate_dst (N := 12) rfl ?_); refine Kd.R_lit (Kd.int .u8) _ 5 ?hg (N := 12) ?hd (xs := ([a0] : List Int)) (inner := [.int .u8 a0]) (ok := fun _ => True) (okp := fun _ => True) ?hr ?hp (fun _ hk => hk) trivial (Below.refl _ _) (Nat.le_refl _) (by simp) ?_; (case hd => rfl); (case hg => rfl); (case hr => first | (go_simp; done) | (go_simp; rfl)); (case hp => exact (Reps.one (show Kd.M (Kd.int .u8) _ _ _ a0 [.int .u8 a0] from rfl) (Reps.none _ _))); intro v129 w27 ho28 hb hg_ hnew_; clear hg_ hnew_; (first | rw [← Ny128.out] at ho28 | (simp only [Int.reduceToNat] at ho28; rw [← Ny128.out] at ho28)); have n0_ := Aside0.mk (Kd.R_lower ho28 (below_size (by repeat (first | (with_reducible first | exact HB.out | apply below_alloc | apply pw_below_drewN | apply below_drew1) | exact HB.out)))); have n1_ := Aside0.mk (below_step (by repeat (first | (with_reducible first | exact HB.out | apply below_alloc | apply pw_below_drewN | apply below_drew1) | exact HB.out)) hb); clear HB; have HO130 := n0_; have HB := n1_; clear n0_ n1_; clear hb ho28; have hcv29 := own_string (P := Try.prog) Try.underlying29 Try.underlying5 Try.underlying9 (Kd.own_of_R HO130.out)) | ((with_reducible refine gate_callee (f := 17) rfl ?_); refine goesL_ (some 15) rfl rfl Try.func17 (by kernel_rfl) rfl #[.string (strOfNums y128), .int .i64 0] rfl (by (try simp only [List.map_toArray, List.map_cons, List.map_nil]); first | done | rfl | (simp only [List.length_drop, List.length_take]; rfl)) ?_; (with_reducible refine (scan_Name.calls (strOfNums y128) 0 t131 _ A3.out).mono ?_); rintro e w30 ⟨rfl, hb⟩; refine ⟨_, rfl, ?_⟩; have n0_ := Aside0.mk (Kd.R_below (by (with_reducible repeat (first | apply Kd.R_alloc | apply Kd.R_drewN | apply Kd.R_drew)); exact HO130.out) hb); have n1_ := Aside0.mk (below_step (by repeat (first | (with_reducible first | exact HB.out | apply below_alloc | apply pw_below_drewN | apply below_drew1) | exact HB.out)) hb); clear HO130; clear HB; have HO130 := n0_; have HB := n1_; clear n0_ n1_; (try clear hb); (try clear hb2); (try clear hk); (try clear hi)) | ((with_reducible refine gate_callee (f := 19) rfl ?_); refine goesL_ (some 17) rfl rfl Try.func19 (by kernel_rfl) rfl #[.string (strOfNums y128), .int .i64 0] rfl (by (try simp only [List.map_toArray, List.map_cons, List.map_nil]); first | done | rfl | (simp only [List.length_drop, List.length_take]; rfl)) ?_; (with_reducible refine (scan_Digits.calls (strOfNums y128) 0 t132 _ A4.out).mono ?_); rintro e w31 ⟨rfl, hb⟩; refine ⟨_, rfl, ?_⟩; have n0_ := Aside0.mk (Kd.R_below (by (with_reducible repeat (first | apply Kd.R_alloc | apply Kd.R_drewN | apply Kd.R_drew)); exact HO130.out) hb); have n1_ := Aside0.mk (below_step (by repeat (first | (with_reducible first | exact HB.out | apply below_alloc | apply pw_below_drewN | apply below_drew1) | exact HB.out)) hb); clear HO130; clear HB; have HO130 := n0_; have HB := n1_; clear n0_ n1_; (try clear hb); (try clear hb2); (try clear hk); (try clear hi)) | ((with_reducible refine gate_callee (f := 21) rfl ?_); refine goesL_ (some 19) rfl rfl Try.func21 (by kernel_rfl) rfl #[.string (strOfNums y128), .int .i64 0] rfl (by (try simp only [List.map_toArray, List.map_cons, List.map_nil]); first | done | rfl | (simp only [List.length_drop, List.length_take]; rfl)) ?_; (with_reducible refine (scan_Blank.calls (strOfNums y128) 0 t133 _ A5.out).mono ?_); rintro e w32 ⟨rfl, hb⟩; refine ⟨_, rfl, ?_⟩; have n0_ := Aside0.mk (Kd.R_below (by (with_reducible repeat (first | apply Kd.R_alloc | apply Kd.R_drewN | apply Kd.R_drew)); exact HO130.out) hb); have n1_ := Aside0.mk (below_step (by repeat (first | (with_reducible first | exact HB.out | apply below_alloc | apply pw_below_drewN | apply below_drew1) | exact HB.out)) hb); clear HO130; clear HB; have HO130 := n0_; have HB := n1_; clear n0_ n1_; (try clear hb); (try clear hb2); (try clear hk); (try clear hi)))
    (try simp only [Act.put, List.setIfInBounds_toArray, List.set_cons_zero, List.set_cons_succ])
    go_cut [9] (fun v9 wc => ∃ (kq : Nat) (x9_24 : Bool), v9 = .bool x9_24 ∧ Aside0 (copperplatelaw04_ScanByte.j1 kq a0 t127 t131 t132 t133 false x9_24 = some r) ∧ Aside0 (kq ≤ k) ∧ Aside0 (Below w.heap.size w wc))
    case first =>
      have H := HC25.out
      clear HC25
      by_cases c33 : a0 = 9
      · rw [if_pos c33] at H
        have c33b0 : (a0 == 9) = true := beq_iff_eq.mpr c33
        have c33b1 : (a0 != 9) = false := bne_eq_false_iff_eq.mpr c33
        clear c33
        (first | rw [c33b0] | (simp only [i64_w, i32_w]; rw [c33b0]) | skip)
        have H' := Aside0.mk H
        clear H
        go_wp2
        go_meet
        case rel => exact ⟨_, (true), (by first | rfl | (simp; done) | (simp [*]; done)), H', ⟨by first | omega | exact Nat.le_refl _⟩, ⟨by repeat (first | (with_reducible first | exact HB.out | apply below_alloc | apply pw_below_drewN | apply below_drew1) | exact HB.out)⟩⟩
      · rw [if_neg c33] at H
        have c33b0 : (a0 == 9) = false := beq_eq_false_iff_ne.mpr c33
        have c33b1 : (a0 != 9) = true := bne_iff_ne.mpr c33
        (first | rw [c33b0] | (simp only [i64_w, i32_w]; rw [c33b0]) | skip)
        by_cases c34 : a0 = 10
        · rw [if_pos c34] at H
          have c34b0 : (a0 == 10) = true := beq_iff_eq.mpr c34
          have c34b1 : (a0 != 10) = false := bne_eq_false_iff_eq.mpr c34
          clear c34
          have H' := Aside0.mk H
          clear H
          go_wp2
          go_meet
          case rel => exact ⟨_, (true), (by first | rfl | (simp; done) | (simp [*]; done)), H', ⟨by first | omega | exact Nat.le_refl _⟩, ⟨by repeat (first | (with_reducible first | exact HB.out | apply below_alloc | apply pw_below_drewN | apply below_drew1) | exact HB.out)⟩⟩
        · rw [if_neg c34] at H
          have c34b0 : (a0 == 10) = false := beq_eq_false_iff_ne.mpr c34
          have c34b1 : (a0 != 10) = true := bne_iff_ne.mpr c34
          by_cases c35 : a0 = 13
          · rw [if_pos c35] at H
            have c35b0 : (a0 == 13) = true := beq_iff_eq.mpr c35
            have c35b1 : (a0 != 13) = false := bne_eq_false_iff_eq.mpr c35
            clear c35
            have H' := Aside0.mk H
            clear H
            go_wp2
            go_meet
            case rel => exact ⟨_, (true), (by first | rfl | (simp; done) | (simp [*]; done)), H', ⟨by first | omega | exact Nat.le_refl _⟩, ⟨by repeat (first | (with_reducible first | exact HB.out | apply below_alloc | apply pw_below_drewN | apply below_drew1) | exact HB.out)⟩⟩
          · rw [if_neg c35] at H
            have c35b0 : (a0 == 13) = false := beq_eq_false_iff_ne.mpr c35
            have c35b1 : (a0 != 13) = true := bne_iff_ne.mpr c35
            by_cases c36 : a0 = 32
            · rw [if_pos c36] at H
              have c36b0 : (a0 == 32) = true := beq_iff_eq.mpr c36
              have c36b1 : (a0 != 32) = false := bne_eq_false_iff_eq.mpr c36
              clear c36
              have H' := Aside0.mk H
              clear H
              go_wp2
              go_meet
              case rel => exact ⟨_, (true), (by first | rfl | (simp; done) | (simp [*]; done)), H', ⟨by first | omega | exact Nat.le_refl _⟩, ⟨by repeat (first | (with_reducible first | exact HB.out | apply below_alloc | apply pw_below_drewN | apply below_drew1) | exact HB.out)⟩⟩
            · rw [if_neg c36] at H
              have c36b0 : (a0 == 32) = false := beq_eq_false_iff_ne.mpr c36
              have c36b1 : (a0 != 32) = true := bne_iff_ne.mpr c36
              by_cases c37 : a0 = 44
              · rw [if_pos c37] at H
                have c37b0 : (a0 == 44) = true := beq_iff_eq.mpr c37
                have c37b1 : (a0 != 44) = false := bne_eq_false_iff_eq.mpr c37
                clear c37
                have H' := Aside0.mk H
                clear H
                go_wp2
                go_meet
                case rel => exact ⟨_, (true), (by first | rfl | (simp; done) | (simp [*]; done)), H', ⟨by first | omega | exact Nat.le_refl _⟩, ⟨by repeat (first | (with_reducible first | exact HB.out | apply below_alloc | apply pw_below_drewN | apply below_drew1) | exact HB.out)⟩⟩
              · rw [if_neg c37] at H
                have c37b0 : (a0 == 44) = false := beq_eq_false_iff_ne.mpr c37
                have c37b1 : (a0 != 44) = true := bne_iff_ne.mpr c37
                have H' := Aside0.mk H
                clear H
                go_wp2
                go_meet
                case rel => exact ⟨_, ((a0 == 35)), (by first | rfl | (simp; done) | (simp [*]; done)), H', ⟨by first | omega | exact Nat.le_refl _⟩, ⟨by repeat (first | (with_reducible first | exact HB.out | apply below_alloc | apply pw_below_drewN | apply below_drew1) | exact HB.out)⟩⟩
    case rest =>
      clear HC25
      try clear c1
      try clear hcv1
      try clear c2
      try clear p2
      try clear hcv2
      try clear c3
      try clear c6
      try clear c6b0
      try clear p6
      try clear c8
      try clear hcv11
      try clear c14
      try clear c15
      try clear c15b0
      try clear c15b1
      try clear c16
      try clear c16b0
      try clear c16b1
      try clear c17
      try clear c17b0
      try clear c17b1
      try clear c18
      try clear c18b0
      try clear c18b1
      try clear c19
      try clear c19b0
      try clear c19b1
      try clear c20
      try clear c21
      try clear c21b0
      try clear c23
      try clear c23b0
      try clear c23b1
      try clear c23b2
      try clear c24
      try clear c24b0
      try clear c24b1
      try clear c24b2
      try clear hcv29
      try clear c33
      try clear c33b0
      try clear c33b1
      try clear c34
      try clear c34b0
      try clear c34b1
      try clear c35
      try clear c35b0
      try clear c35b1
      try clear c36
      try clear c36b0
      try clear c36b1
      try clear c37
      try clear c37b0
      try clear c37b1
      try clear p2
      obtain ⟨kq, x9_24, rfl, HA, HJ24, HB⟩ := hcut
      cases kq with
      | zero => exact absurd HA.out (by simp [copperplatelaw04_ScanByte.j1])
      | succ kj24 =>
        have H := HA.out
        clear HA
        simp only [copperplatelaw04_ScanByte.j1] at H
        by_cases c38 : t127 = true
        · subst c38
          have H1 : (if (wrap64 ((wrap64 (t131 + t132)) + t133)) ≤ 1 then ((scan_Begins.f a0).bind fun t135 => (if ((t131 == 1) == t135) = true then (if ((t132 == 1) == false) = true then (some ((t133 == 1) == x9_24)) else (some false)) else (some false))) else (some false)) = some r := by rw [if_pos rfl] at H; exact H
          clear H
          have H := H1
          clear H1
          by_cases c39 : (wrap64 ((wrap64 (t131 + t132)) + t133)) ≤ 1
          · rw [if_pos c39] at H
            have c39b0 : decide ((wrap64 ((wrap64 (t131 + t132)) + t133)) ≤ 1) = true := decide_eq_true c39
            clear c39
            replace H := Option.bind_eq_some_iff.mp H
            obtain ⟨t135, A400, H⟩ := H
            replace H : (if ((t131 == 1) == t135) = true then (if ((t132 == 1) == false) = true then (some ((t133 == 1) == x9_24)) else (some false)) else (some false)) = some r := H
            have A40 := Aside0.mk A400
            clear A400
            by_cases c41 : ((t131 == 1) == t135) = true
            · rw [if_pos c41] at H
              have c41b0 : ((t131 == 1) == t135) = true := c41
              (try (have c41b1 : decide ((t131 == 1) = t135) = true := by simpa using c41))
              (try (have c41b2 : ((t131 == 1) == t135) = true := by simpa using c41))
              clear c41
              by_cases c42 : ((t132 == 1) == false) = true
              · rw [if_pos c42] at H
                have c42b0 : ((t132 == 1) == false) = true := c42
                (try (have c42b1 : decide ((t132 == 1) = false) = true := by simpa using c42))
                (try (have c42b2 : ((t132 == 1) == false) = true := by simpa using c42))
                clear c42
                obtain rfl := Option.some.inj H
                go_wp2_with (first | (go_at_call 16; (with_reducible refine (scan_Begins.calls a0 t135 _ A40.out).mono ?_); rintro e w' ⟨rfl, ⟨nd, rfl⟩⟩))
                go_ret
                exact ⟨by first | rfl | (simp [errW_none, errW_some] <;> rfl) | (simp [*, errW_none, errW_some] <;> rfl), by repeat (first | (with_reducible first | exact HB.out | apply below_alloc | apply pw_below_drewN | apply below_drew1) | exact HB.out)⟩
              · rw [if_neg c42] at H
                have c42b0 : ((t132 == 1) == false) = false := by simpa using c42
                (try (have c42b1 : decide ((t132 == 1) = false) = false := by simpa using c42))
                (try (have c42b2 : ((t132 == 1) == false) = false := by simpa using c42))
                (try (have c42b3 : ¬ ((t132 == 1) = false) := by simpa using c42))
                clear c42
                obtain rfl := Option.some.inj H
                go_wp2_with (first | (go_at_call 16; (with_reducible refine (scan_Begins.calls a0 t135 _ A40.out).mono ?_); rintro e w' ⟨rfl, ⟨nd, rfl⟩⟩))
                go_ret
                exact ⟨by first | rfl | (simp [errW_none, errW_some] <;> rfl) | (simp [*, errW_none, errW_some] <;> rfl), by repeat (first | (with_reducible first | exact HB.out | apply below_alloc | apply pw_below_drewN | apply below_drew1) | exact HB.out)⟩
            · rw [if_neg c41] at H
              have c41b0 : ((t131 == 1) == t135) = false := by simpa using c41
              (try (have c41b1 : decide ((t131 == 1) = t135) = false := by simpa using c41))
              (try (have c41b2 : ((t131 == 1) == t135) = false := by simpa using c41))
              (try (have c41b3 : ¬ ((t131 == 1) = t135) := by simpa using c41))
              clear c41
              obtain rfl := Option.some.inj H
              go_wp2_with (first | (go_at_call 16; (with_reducible refine (scan_Begins.calls a0 t135 _ A40.out).mono ?_); rintro e w' ⟨rfl, ⟨nd, rfl⟩⟩))
              go_ret
              exact ⟨by first | rfl | (simp [errW_none, errW_some] <;> rfl) | (simp [*, errW_none, errW_some] <;> rfl), by repeat (first | (with_reducible first | exact HB.out | apply below_alloc | apply pw_below_drewN | apply below_drew1) | exact HB.out)⟩
          · rw [if_neg c39] at H
            have c39b0 : decide ((wrap64 ((wrap64 (t131 + t132)) + t133)) ≤ 1) = false := decide_eq_false c39
            clear c39
            obtain rfl := Option.some.inj H
            go_wp2
            go_ret
            exact ⟨by first | rfl | (simp [errW_none, errW_some] <;> rfl) | (simp [*, errW_none, errW_some] <;> rfl), by repeat (first | (with_reducible first | exact HB.out | apply below_alloc | apply pw_below_drewN | apply below_drew1) | exact HB.out)⟩
        · replace c38 := Bool.eq_false_iff.mpr c38
          subst c38
          have H1 : (some false) = some r := by rw [if_neg (show ¬ (false = true) by decide)] at H; exact H
          clear H
          have H := H1
          clear H1
          obtain rfl := Option.some.inj H
          go_wp2
          go_ret
          exact ⟨by first | rfl | (simp [errW_none, errW_some] <;> rfl) | (simp [*, errW_none, errW_some] <;> rfl), by repeat (first | (with_reducible first | exact HB.out | apply below_alloc | apply pw_below_drewN | apply below_drew1) | exact HB.out)⟩

/-- THE ONE PURE STATEMENT of copperplatelaw04_ScanByte: yours. -/
def copperplatelaw04_ScanByte.Pure : Prop := ∀ (a0 : Int), (Lit.int .u8 a0).wf = true → ∃ k, copperplatelaw04_ScanByte.f k a0 = some true
theorem copperplatelaw04_ScanByte.walk (P : copperplatelaw04_ScanByte.Pure) (a0 : Int) (w : World) (w0 : (Lit.int .u8 a0).wf = true) :
    Calls Try.prog 8 #[.int .u8 a0] w fun e w' => e = .returned (.bool true) ∧ Below w.heap.size w w' := by
  obtain ⟨k, h⟩ := P a0 w0
  refine (copperplatelaw04_ScanByte.calls k a0 true w h).mono ?_
  rintro e w' ⟨rfl, hd⟩
  exact ⟨rfl, hd⟩

end Go.Proofs.Ytdhncfkbblfokaa.Q
