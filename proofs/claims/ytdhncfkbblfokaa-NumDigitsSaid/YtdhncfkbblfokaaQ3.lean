-- Printed for this seat by a program of this session (qprint.py), out of the translation; Lean checks it.
import Derived.Test.YtdhncfkbblfokaaQ0
import Derived.Test.YtdhncfkbblfokaaQ1
namespace Go.Proofs.Ytdhncfkbblfokaa.Q
open Go.Proofs.Ytdhncfkbblfokaa.G
open Go.RowKit Go.Proofs.YtdhncfkbblfokaaW.PrintWords Go.Proofs.YtdhncfkbblfokaaW.PrintLast Go.Proofs.YtdhncfkbblfokaaW.PrintMore
attribute [local go_sem] max2_int min2_int max_two min_two max_three min_three max_four min_four   -- for this text's walks alone
set_option linter.unusedVariables false
set_option linter.unusedSimpArgs false

/-! ### copperplatelaw04_ScanByte: function 8 -/
mutual
def copperplatelaw04_ScanByte.j0 : Nat → Int → Bool → Int → Int → Int → Bool → Bool → Option (Bool)
  | 0, _, _, _, _, _, _, _ => none
  | k + 1, x0, x3, x5, x6, x7, x8, x9 => if x3 = true then (if (wrap64 ((wrap64 (x5 + x6)) + x7)) ≤ 1 then ((scan_Begins.f x0).bind fun t127 => (if ((x5 == 1) == t127) = true then (if ((x6 == 1) == x8) = true then (some ((x7 == 1) == x9)) else (some false)) else (some false))) else (some false)) else (some false)
def copperplatelaw04_ScanByte.j1 : Nat → Int → Bool → Int → Int → Int → Bool → Bool → Option (Bool)
  | 0, _, _, _, _, _, _, _ => none
  | k + 1, x0, x3, x5, x6, x7, x8, x9 => if x3 = true then (if (wrap64 ((wrap64 (x5 + x6)) + x7)) ≤ 1 then ((scan_Begins.f x0).bind fun t128 => (if ((x5 == 1) == t128) = true then (if ((x6 == 1) == x8) = true then (some ((x7 == 1) == x9)) else (some false)) else (some false))) else (some false)) else (some false)
end
def copperplatelaw04_ScanByte.f (k : Nat) (a0 : Int) : Option (Bool) := (copperplatelaw04_awake.f).bind fun t120 => ((some (([a0] : List Int) : List Int)).bind fun y121 => ((scan_Name.f (strOfNums y121) 0).bind fun t124 => ((scan_Digits.f (strOfNums y121) 0).bind fun t125 => ((scan_Blank.f (strOfNums y121) 0).bind fun t126 => (if a0 ≥ 48 then (if a0 = 9 then (copperplatelaw04_ScanByte.j0 k a0 t120 t124 t125 t126 (decide (a0 ≤ 57)) true) else (if a0 = 10 then (copperplatelaw04_ScanByte.j0 k a0 t120 t124 t125 t126 (decide (a0 ≤ 57)) true) else (if a0 = 13 then (copperplatelaw04_ScanByte.j0 k a0 t120 t124 t125 t126 (decide (a0 ≤ 57)) true) else (if a0 = 32 then (copperplatelaw04_ScanByte.j0 k a0 t120 t124 t125 t126 (decide (a0 ≤ 57)) true) else (if a0 = 44 then (copperplatelaw04_ScanByte.j0 k a0 t120 t124 t125 t126 (decide (a0 ≤ 57)) true) else (copperplatelaw04_ScanByte.j0 k a0 t120 t124 t125 t126 (decide (a0 ≤ 57)) (a0 == 35))))))) else (if a0 = 9 then (copperplatelaw04_ScanByte.j1 k a0 t120 t124 t125 t126 false true) else (if a0 = 10 then (copperplatelaw04_ScanByte.j1 k a0 t120 t124 t125 t126 false true) else (if a0 = 13 then (copperplatelaw04_ScanByte.j1 k a0 t120 t124 t125 t126 false true) else (if a0 = 32 then (copperplatelaw04_ScanByte.j1 k a0 t120 t124 t125 t126 false true) else (if a0 = 44 then (copperplatelaw04_ScanByte.j1 k a0 t120 t124 t125 t126 false true) else (copperplatelaw04_ScanByte.j1 k a0 t120 t124 t125 t126 false (a0 == 35))))))))))))
theorem copperplatelaw04_ScanByte.mono_l : ∀ k, (∀ y0 y1 y2 y3 y4 y5 y6, LeO (copperplatelaw04_ScanByte.j0 k y0 y1 y2 y3 y4 y5 y6) (copperplatelaw04_ScanByte.j0 (k + 1) y0 y1 y2 y3 y4 y5 y6)) ∧ (∀ y0 y1 y2 y3 y4 y5 y6, LeO (copperplatelaw04_ScanByte.j1 k y0 y1 y2 y3 y4 y5 y6) (copperplatelaw04_ScanByte.j1 (k + 1) y0 y1 y2 y3 y4 y5 y6))
  | 0 => ⟨fun _ _ _ _ _ _ _ r h => by simp [copperplatelaw04_ScanByte.j0] at h, fun _ _ _ _ _ _ _ r h => by simp [copperplatelaw04_ScanByte.j1] at h⟩
  | k + 1 => by
    obtain ⟨ih0, ih1⟩ := copperplatelaw04_ScanByte.mono_l k
    refine ⟨?_, ?_⟩
    · intro y0 y1 y2 y3 y4 y5 y6
      unfold copperplatelaw04_ScanByte.j0
      repeat' first
      | (with_reducible exact ih0 _ _ _ _ _ _ _)
      | (with_reducible exact ih1 _ _ _ _ _ _ _)
      | (with_reducible exact LeO.refl _)
      | (with_reducible exact LeO.none _)
      | (with_reducible refine LeO.ite ?_ ?_)
      | (with_reducible refine LeO.bind ?_ (fun _ => ?_))
      | exact ih0 _ _ _ _ _ _ _
      | exact ih1 _ _ _ _ _ _ _
      | exact LeO.none _
      | refine LeO.ite ?_ ?_
      | refine LeO.bind ?_ (fun _ => ?_)
    · intro y0 y1 y2 y3 y4 y5 y6
      unfold copperplatelaw04_ScanByte.j1
      repeat' first
      | (with_reducible exact ih0 _ _ _ _ _ _ _)
      | (with_reducible exact ih1 _ _ _ _ _ _ _)
      | (with_reducible exact LeO.refl _)
      | (with_reducible exact LeO.none _)
      | (with_reducible refine LeO.ite ?_ ?_)
      | (with_reducible refine LeO.bind ?_ (fun _ => ?_))
      | exact ih0 _ _ _ _ _ _ _
      | exact ih1 _ _ _ _ _ _ _
      | exact LeO.none _
      | refine LeO.ite ?_ ?_
      | refine LeO.bind ?_ (fun _ => ?_)
theorem copperplatelaw04_ScanByte.mono : ∀ a0 k, LeO (copperplatelaw04_ScanByte.f k a0) (copperplatelaw04_ScanByte.f (k + 1) a0) := by
  intro a0 k
  obtain ⟨ih0, ih1⟩ := copperplatelaw04_ScanByte.mono_l k
  unfold copperplatelaw04_ScanByte.f
  repeat' first
      | (with_reducible exact ih0 _ _ _ _ _ _ _)
      | (with_reducible exact ih1 _ _ _ _ _ _ _)
      | (with_reducible exact LeO.refl _)
      | (with_reducible exact LeO.none _)
      | (with_reducible refine LeO.ite ?_ ?_)
      | (with_reducible refine LeO.bind ?_ (fun _ => ?_))
      | exact ih0 _ _ _ _ _ _ _
      | exact ih1 _ _ _ _ _ _ _
      | exact LeO.none _
      | refine LeO.ite ?_ ?_
      | refine LeO.bind ?_ (fun _ => ?_)
set_option maxHeartbeats 8000000 in
set_option maxRecDepth 100000 in
theorem copperplatelaw04_ScanByte.calls (k : Nat) (a0 : Int) (r : Bool) (w : World) (h : copperplatelaw04_ScanByte.f k a0 = some r) :
    Calls Try.prog 8 #[.int .u8 a0] w fun e w' => e = .returned (.bool r) ∧ Below w.heap.size w w' := by
  have HB := Aside0.mk (Below.refl w.heap.size w)
  have H : ((copperplatelaw04_awake.f).bind fun t120 => ((some (([a0] : List Int) : List Int)).bind fun y121 => ((scan_Name.f (strOfNums y121) 0).bind fun t124 => ((scan_Digits.f (strOfNums y121) 0).bind fun t125 => ((scan_Blank.f (strOfNums y121) 0).bind fun t126 => (if a0 ≥ 48 then (if a0 = 9 then (copperplatelaw04_ScanByte.j0 k a0 t120 t124 t125 t126 (decide (a0 ≤ 57)) true) else (if a0 = 10 then (copperplatelaw04_ScanByte.j0 k a0 t120 t124 t125 t126 (decide (a0 ≤ 57)) true) else (if a0 = 13 then (copperplatelaw04_ScanByte.j0 k a0 t120 t124 t125 t126 (decide (a0 ≤ 57)) true) else (if a0 = 32 then (copperplatelaw04_ScanByte.j0 k a0 t120 t124 t125 t126 (decide (a0 ≤ 57)) true) else (if a0 = 44 then (copperplatelaw04_ScanByte.j0 k a0 t120 t124 t125 t126 (decide (a0 ≤ 57)) true) else (copperplatelaw04_ScanByte.j0 k a0 t120 t124 t125 t126 (decide (a0 ≤ 57)) (a0 == 35))))))) else (if a0 = 9 then (copperplatelaw04_ScanByte.j1 k a0 t120 t124 t125 t126 false true) else (if a0 = 10 then (copperplatelaw04_ScanByte.j1 k a0 t120 t124 t125 t126 false true) else (if a0 = 13 then (copperplatelaw04_ScanByte.j1 k a0 t120 t124 t125 t126 false true) else (if a0 = 32 then (copperplatelaw04_ScanByte.j1 k a0 t120 t124 t125 t126 false true) else (if a0 = 44 then (copperplatelaw04_ScanByte.j1 k a0 t120 t124 t125 t126 false true) else (copperplatelaw04_ScanByte.j1 k a0 t120 t124 t125 t126 false (a0 == 35))))))))))))) = some r := h
  clear h
  replace H := Option.bind_eq_some_iff.mp H
  obtain ⟨t120, A20, H⟩ := H
  replace H : ((some (([a0] : List Int) : List Int)).bind fun y121 => ((scan_Name.f (strOfNums y121) 0).bind fun t124 => ((scan_Digits.f (strOfNums y121) 0).bind fun t125 => ((scan_Blank.f (strOfNums y121) 0).bind fun t126 => (if a0 ≥ 48 then (if a0 = 9 then (copperplatelaw04_ScanByte.j0 k a0 t120 t124 t125 t126 (decide (a0 ≤ 57)) true) else (if a0 = 10 then (copperplatelaw04_ScanByte.j0 k a0 t120 t124 t125 t126 (decide (a0 ≤ 57)) true) else (if a0 = 13 then (copperplatelaw04_ScanByte.j0 k a0 t120 t124 t125 t126 (decide (a0 ≤ 57)) true) else (if a0 = 32 then (copperplatelaw04_ScanByte.j0 k a0 t120 t124 t125 t126 (decide (a0 ≤ 57)) true) else (if a0 = 44 then (copperplatelaw04_ScanByte.j0 k a0 t120 t124 t125 t126 (decide (a0 ≤ 57)) true) else (copperplatelaw04_ScanByte.j0 k a0 t120 t124 t125 t126 (decide (a0 ≤ 57)) (a0 == 35))))))) else (if a0 = 9 then (copperplatelaw04_ScanByte.j1 k a0 t120 t124 t125 t126 false true) else (if a0 = 10 then (copperplatelaw04_ScanByte.j1 k a0 t120 t124 t125 t126 false true) else (if a0 = 13 then (copperplatelaw04_ScanByte.j1 k a0 t120 t124 t125 t126 false true) else (if a0 = 32 then (copperplatelaw04_ScanByte.j1 k a0 t120 t124 t125 t126 false true) else (if a0 = 44 then (copperplatelaw04_ScanByte.j1 k a0 t120 t124 t125 t126 false true) else (copperplatelaw04_ScanByte.j1 k a0 t120 t124 t125 t126 false (a0 == 35)))))))))))) = some r := H
  have A2 := Aside0.mk A20
  clear A20
  obtain ⟨y121, hy121⟩ : ∃ y_ : List Int, y_ = (([a0] : List Int)) := ⟨_, rfl⟩
  replace H : ((scan_Name.f (strOfNums y121) 0).bind fun t124 => ((scan_Digits.f (strOfNums y121) 0).bind fun t125 => ((scan_Blank.f (strOfNums y121) 0).bind fun t126 => (if a0 ≥ 48 then (if a0 = 9 then (copperplatelaw04_ScanByte.j0 k a0 t120 t124 t125 t126 (decide (a0 ≤ 57)) true) else (if a0 = 10 then (copperplatelaw04_ScanByte.j0 k a0 t120 t124 t125 t126 (decide (a0 ≤ 57)) true) else (if a0 = 13 then (copperplatelaw04_ScanByte.j0 k a0 t120 t124 t125 t126 (decide (a0 ≤ 57)) true) else (if a0 = 32 then (copperplatelaw04_ScanByte.j0 k a0 t120 t124 t125 t126 (decide (a0 ≤ 57)) true) else (if a0 = 44 then (copperplatelaw04_ScanByte.j0 k a0 t120 t124 t125 t126 (decide (a0 ≤ 57)) true) else (copperplatelaw04_ScanByte.j0 k a0 t120 t124 t125 t126 (decide (a0 ≤ 57)) (a0 == 35))))))) else (if a0 = 9 then (copperplatelaw04_ScanByte.j1 k a0 t120 t124 t125 t126 false true) else (if a0 = 10 then (copperplatelaw04_ScanByte.j1 k a0 t120 t124 t125 t126 false true) else (if a0 = 13 then (copperplatelaw04_ScanByte.j1 k a0 t120 t124 t125 t126 false true) else (if a0 = 32 then (copperplatelaw04_ScanByte.j1 k a0 t120 t124 t125 t126 false true) else (if a0 = 44 then (copperplatelaw04_ScanByte.j1 k a0 t120 t124 t125 t126 false true) else (copperplatelaw04_ScanByte.j1 k a0 t120 t124 t125 t126 false (a0 == 35))))))))))) = some r := by first | (rw [hy121]; with_reducible exact H) | (have H2_ := (Option.bind_some _ _).symm.trans H; rw [hy121]; with_reducible exact H2_) | (have H2_ := (Option.bind_some _ _).symm.trans H; with_reducible exact H2_) | with_reducible exact H | (rw [hy121]; exact H) | exact H
  have Ny121 := Aside0.mk hy121
  clear hy121
  replace H := Option.bind_eq_some_iff.mp H
  obtain ⟨t124, A30, H⟩ := H
  replace H : ((scan_Digits.f (strOfNums y121) 0).bind fun t125 => ((scan_Blank.f (strOfNums y121) 0).bind fun t126 => (if a0 ≥ 48 then (if a0 = 9 then (copperplatelaw04_ScanByte.j0 k a0 t120 t124 t125 t126 (decide (a0 ≤ 57)) true) else (if a0 = 10 then (copperplatelaw04_ScanByte.j0 k a0 t120 t124 t125 t126 (decide (a0 ≤ 57)) true) else (if a0 = 13 then (copperplatelaw04_ScanByte.j0 k a0 t120 t124 t125 t126 (decide (a0 ≤ 57)) true) else (if a0 = 32 then (copperplatelaw04_ScanByte.j0 k a0 t120 t124 t125 t126 (decide (a0 ≤ 57)) true) else (if a0 = 44 then (copperplatelaw04_ScanByte.j0 k a0 t120 t124 t125 t126 (decide (a0 ≤ 57)) true) else (copperplatelaw04_ScanByte.j0 k a0 t120 t124 t125 t126 (decide (a0 ≤ 57)) (a0 == 35))))))) else (if a0 = 9 then (copperplatelaw04_ScanByte.j1 k a0 t120 t124 t125 t126 false true) else (if a0 = 10 then (copperplatelaw04_ScanByte.j1 k a0 t120 t124 t125 t126 false true) else (if a0 = 13 then (copperplatelaw04_ScanByte.j1 k a0 t120 t124 t125 t126 false true) else (if a0 = 32 then (copperplatelaw04_ScanByte.j1 k a0 t120 t124 t125 t126 false true) else (if a0 = 44 then (copperplatelaw04_ScanByte.j1 k a0 t120 t124 t125 t126 false true) else (copperplatelaw04_ScanByte.j1 k a0 t120 t124 t125 t126 false (a0 == 35)))))))))) = some r := H
  have A3 := Aside0.mk A30
  clear A30
  replace H := Option.bind_eq_some_iff.mp H
  obtain ⟨t125, A40, H⟩ := H
  replace H : ((scan_Blank.f (strOfNums y121) 0).bind fun t126 => (if a0 ≥ 48 then (if a0 = 9 then (copperplatelaw04_ScanByte.j0 k a0 t120 t124 t125 t126 (decide (a0 ≤ 57)) true) else (if a0 = 10 then (copperplatelaw04_ScanByte.j0 k a0 t120 t124 t125 t126 (decide (a0 ≤ 57)) true) else (if a0 = 13 then (copperplatelaw04_ScanByte.j0 k a0 t120 t124 t125 t126 (decide (a0 ≤ 57)) true) else (if a0 = 32 then (copperplatelaw04_ScanByte.j0 k a0 t120 t124 t125 t126 (decide (a0 ≤ 57)) true) else (if a0 = 44 then (copperplatelaw04_ScanByte.j0 k a0 t120 t124 t125 t126 (decide (a0 ≤ 57)) true) else (copperplatelaw04_ScanByte.j0 k a0 t120 t124 t125 t126 (decide (a0 ≤ 57)) (a0 == 35))))))) else (if a0 = 9 then (copperplatelaw04_ScanByte.j1 k a0 t120 t124 t125 t126 false true) else (if a0 = 10 then (copperplatelaw04_ScanByte.j1 k a0 t120 t124 t125 t126 false true) else (if a0 = 13 then (copperplatelaw04_ScanByte.j1 k a0 t120 t124 t125 t126 false true) else (if a0 = 32 then (copperplatelaw04_ScanByte.j1 k a0 t120 t124 t125 t126 false true) else (if a0 = 44 then (copperplatelaw04_ScanByte.j1 k a0 t120 t124 t125 t126 false true) else (copperplatelaw04_ScanByte.j1 k a0 t120 t124 t125 t126 false (a0 == 35))))))))) = some r := H
  have A4 := Aside0.mk A40
  clear A40
  replace H := Option.bind_eq_some_iff.mp H
  obtain ⟨t126, A50, H⟩ := H
  replace H : (if a0 ≥ 48 then (if a0 = 9 then (copperplatelaw04_ScanByte.j0 k a0 t120 t124 t125 t126 (decide (a0 ≤ 57)) true) else (if a0 = 10 then (copperplatelaw04_ScanByte.j0 k a0 t120 t124 t125 t126 (decide (a0 ≤ 57)) true) else (if a0 = 13 then (copperplatelaw04_ScanByte.j0 k a0 t120 t124 t125 t126 (decide (a0 ≤ 57)) true) else (if a0 = 32 then (copperplatelaw04_ScanByte.j0 k a0 t120 t124 t125 t126 (decide (a0 ≤ 57)) true) else (if a0 = 44 then (copperplatelaw04_ScanByte.j0 k a0 t120 t124 t125 t126 (decide (a0 ≤ 57)) true) else (copperplatelaw04_ScanByte.j0 k a0 t120 t124 t125 t126 (decide (a0 ≤ 57)) (a0 == 35))))))) else (if a0 = 9 then (copperplatelaw04_ScanByte.j1 k a0 t120 t124 t125 t126 false true) else (if a0 = 10 then (copperplatelaw04_ScanByte.j1 k a0 t120 t124 t125 t126 false true) else (if a0 = 13 then (copperplatelaw04_ScanByte.j1 k a0 t120 t124 t125 t126 false true) else (if a0 = 32 then (copperplatelaw04_ScanByte.j1 k a0 t120 t124 t125 t126 false true) else (if a0 = 44 then (copperplatelaw04_ScanByte.j1 k a0 t120 t124 t125 t126 false true) else (copperplatelaw04_ScanByte.j1 k a0 t120 t124 t125 t126 false (a0 == 35)))))))) = some r := H
  have A5 := Aside0.mk A50
  clear A50
  by_cases c6 : a0 ≥ 48
  · rw [if_pos c6] at H
    have c6b0 : decide (48 ≤ a0) = true := decide_eq_true c6
    clear c6
    have HC7 := Aside0.mk H
    clear H
    go_enter Try.func8, Try.ntmps8
    go_upto_region 7 with (first | ((with_reducible refine gate_callee (f := 14) rfl ?_); refine goesL_ (some 10) rfl rfl Try.func14 (by kernel_rfl) rfl #[] rfl (by (try simp only [List.map_toArray, List.map_cons, List.map_nil]); first | done | rfl | (simp only [List.length_drop, List.length_take]; rfl)) ?_; (with_reducible refine (copperplatelaw04_awake.calls  t120 _ A2.out).mono ?_); rintro e w8 ⟨rfl, hb⟩; refine ⟨_, rfl, ?_⟩; have n0_ := Aside0.mk (below_step (by repeat (first | (with_reducible first | exact HB.out | apply below_alloc | apply pw_below_drewN | apply below_drew1) | exact HB.out)) hb); clear HB; have HB := n0_; clear n0_; (try clear hb); (try clear hb2); (try clear hk); (try clear hi)) | ((with_reducible refine gate_dst (N := 12) rfl ?_); refine Kd.R_lit (Kd.int .u8) _ 5 ?hg (N := 12) ?hd (xs := ([a0] : List Int)) (inner := [.int .u8 a0]) (ok := fun _ => True) (okp := fun _ => True) ?hr ?hp (fun _ hk => hk) trivial (Below.refl _ _) (Nat.le_refl _) (by simp) ?_; (case hd => rfl); (case hg => rfl); (case hr => first | (go_simp; done) | (go_simp; rfl)); (case hp => exact (Reps.one (show Kd.M (Kd.int .u8) _ _ _ a0 [.int .u8 a0] from rfl) (Reps.none _ _))); intro v122 w9 ho10 hb hg_ hnew_; clear hg_ hnew_; (first | rw [← Ny121.out] at ho10 | (simp only [Int.reduceToNat] at ho10; rw [← Ny121.out] at ho10)); have n0_ := Aside0.mk (Kd.R_lower ho10 (below_size (by repeat (first | (with_reducible first | exact HB.out | apply below_alloc | apply pw_below_drewN | apply below_drew1) | exact HB.out)))); have n1_ := Aside0.mk (below_step (by repeat (first | (with_reducible first | exact HB.out | apply below_alloc | apply pw_below_drewN | apply below_drew1) | exact HB.out)) hb); clear HB; have HO123 := n0_; have HB := n1_; clear n0_ n1_; clear hb ho10; have hcv11 := own_string (P := Try.prog) Try.underlying29 Try.underlying5 Try.underlying9 (Kd.own_of_R HO123.out)) | ((with_reducible refine gate_callee (f := 17) rfl ?_); refine goesL_ (some 15) rfl rfl Try.func17 (by kernel_rfl) rfl #[.string (strOfNums y121), .int .i64 0] rfl (by (try simp only [List.map_toArray, List.map_cons, List.map_nil]); first | done | rfl | (simp only [List.length_drop, List.length_take]; rfl)) ?_; (with_reducible refine (scan_Name.calls (strOfNums y121) 0 t124 _ A3.out).mono ?_); rintro e w12 ⟨rfl, hb⟩; refine ⟨_, rfl, ?_⟩; have n0_ := Aside0.mk (Kd.R_below (by (with_reducible repeat (first | apply Kd.R_alloc | apply Kd.R_drewN | apply Kd.R_drew)); exact HO123.out) hb); have n1_ := Aside0.mk (below_step (by repeat (first | (with_reducible first | exact HB.out | apply below_alloc | apply pw_below_drewN | apply below_drew1) | exact HB.out)) hb); clear HO123; clear HB; have HO123 := n0_; have HB := n1_; clear n0_ n1_; (try clear hb); (try clear hb2); (try clear hk); (try clear hi)) | ((with_reducible refine gate_callee (f := 19) rfl ?_); refine goesL_ (some 17) rfl rfl Try.func19 (by kernel_rfl) rfl #[.string (strOfNums y121), .int .i64 0] rfl (by (try simp only [List.map_toArray, List.map_cons, List.map_nil]); first | done | rfl | (simp only [List.length_drop, List.length_take]; rfl)) ?_; (with_reducible refine (scan_Digits.calls (strOfNums y121) 0 t125 _ A4.out).mono ?_); rintro e w13 ⟨rfl, hb⟩; refine ⟨_, rfl, ?_⟩; have n0_ := Aside0.mk (Kd.R_below (by (with_reducible repeat (first | apply Kd.R_alloc | apply Kd.R_drewN | apply Kd.R_drew)); exact HO123.out) hb); have n1_ := Aside0.mk (below_step (by repeat (first | (with_reducible first | exact HB.out | apply below_alloc | apply pw_below_drewN | apply below_drew1) | exact HB.out)) hb); clear HO123; clear HB; have HO123 := n0_; have HB := n1_; clear n0_ n1_; (try clear hb); (try clear hb2); (try clear hk); (try clear hi)) | ((with_reducible refine gate_callee (f := 21) rfl ?_); refine goesL_ (some 19) rfl rfl Try.func21 (by kernel_rfl) rfl #[.string (strOfNums y121), .int .i64 0] rfl (by (try simp only [List.map_toArray, List.map_cons, List.map_nil]); first | done | rfl | (simp only [List.length_drop, List.length_take]; rfl)) ?_; (with_reducible refine (scan_Blank.calls (strOfNums y121) 0 t126 _ A5.out).mono ?_); rintro e w14 ⟨rfl, hb⟩; refine ⟨_, rfl, ?_⟩; have n0_ := Aside0.mk (Kd.R_below (by (with_reducible repeat (first | apply Kd.R_alloc | apply Kd.R_drewN | apply Kd.R_drew)); exact HO123.out) hb); have n1_ := Aside0.mk (below_step (by repeat (first | (with_reducible first | exact HB.out | apply below_alloc | apply pw_below_drewN | apply below_drew1) | exact HB.out)) hb); clear HO123; clear HB; have HO123 := n0_; have HB := n1_; clear n0_ n1_; (try clear hb); (try clear hb2); (try clear hk); (try clear hi)))
    (try simp only [Act.put, List.setIfInBounds_toArray, List.set_cons_zero, List.set_cons_succ])
    go_cut [9] (fun v9 wc => ∃ (kq : Nat) (x9_6 : Bool), v9 = .bool x9_6 ∧ Aside0 (copperplatelaw04_ScanByte.j0 kq a0 t120 t124 t125 t126 (decide (a0 ≤ 57)) x9_6 = some r) ∧ Aside0 (kq ≤ k) ∧ Aside0 (Below w.heap.size w wc))
    case first =>
      have H := HC7.out
      clear HC7
      by_cases c15 : a0 = 9
      · rw [if_pos c15] at H
        have c15b0 : (a0 == 9) = true := beq_iff_eq.mpr c15
        have c15b1 : (a0 != 9) = false := bne_eq_false_iff_eq.mpr c15
        clear c15
        (first | rw [c15b0] | (simp only [i64_w, i32_w]; rw [c15b0]) | skip)
        have H' := Aside0.mk H
        clear H
        go_wp2
        go_meet
        case rel => exact ⟨_, (true), (by first | rfl | (simp; done) | (simp [*]; done)), H', ⟨by first | omega | exact Nat.le_refl _⟩, ⟨by repeat (first | (with_reducible first | exact HB.out | apply below_alloc | apply pw_below_drewN | apply below_drew1) | exact HB.out)⟩⟩
      · rw [if_neg c15] at H
        have c15b0 : (a0 == 9) = false := beq_eq_false_iff_ne.mpr c15
        have c15b1 : (a0 != 9) = true := bne_iff_ne.mpr c15
        (first | rw [c15b0] | (simp only [i64_w, i32_w]; rw [c15b0]) | skip)
        by_cases c16 : a0 = 10
        · rw [if_pos c16] at H
          have c16b0 : (a0 == 10) = true := beq_iff_eq.mpr c16
          have c16b1 : (a0 != 10) = false := bne_eq_false_iff_eq.mpr c16
          clear c16
          have H' := Aside0.mk H
          clear H
          go_wp2
          go_meet
          case rel => exact ⟨_, (true), (by first | rfl | (simp; done) | (simp [*]; done)), H', ⟨by first | omega | exact Nat.le_refl _⟩, ⟨by repeat (first | (with_reducible first | exact HB.out | apply below_alloc | apply pw_below_drewN | apply below_drew1) | exact HB.out)⟩⟩
        · rw [if_neg c16] at H
          have c16b0 : (a0 == 10) = false := beq_eq_false_iff_ne.mpr c16
          have c16b1 : (a0 != 10) = true := bne_iff_ne.mpr c16
          by_cases c17 : a0 = 13
          · rw [if_pos c17] at H
            have c17b0 : (a0 == 13) = true := beq_iff_eq.mpr c17
            have c17b1 : (a0 != 13) = false := bne_eq_false_iff_eq.mpr c17
            clear c17
            have H' := Aside0.mk H
            clear H
            go_wp2
            go_meet
            case rel => exact ⟨_, (true), (by first | rfl | (simp; done) | (simp [*]; done)), H', ⟨by first | omega | exact Nat.le_refl _⟩, ⟨by repeat (first | (with_reducible first | exact HB.out | apply below_alloc | apply pw_below_drewN | apply below_drew1) | exact HB.out)⟩⟩
          · rw [if_neg c17] at H
            have c17b0 : (a0 == 13) = false := beq_eq_false_iff_ne.mpr c17
            have c17b1 : (a0 != 13) = true := bne_iff_ne.mpr c17
            by_cases c18 : a0 = 32
            · rw [if_pos c18] at H
              have c18b0 : (a0 == 32) = true := beq_iff_eq.mpr c18
              have c18b1 : (a0 != 32) = false := bne_eq_false_iff_eq.mpr c18
              clear c18
              have H' := Aside0.mk H
              clear H
              go_wp2
              go_meet
              case rel => exact ⟨_, (true), (by first | rfl | (simp; done) | (simp [*]; done)), H', ⟨by first | omega | exact Nat.le_refl _⟩, ⟨by repeat (first | (with_reducible first | exact HB.out | apply below_alloc | apply pw_below_drewN | apply below_drew1) | exact HB.out)⟩⟩
            · rw [if_neg c18] at H
              have c18b0 : (a0 == 32) = false := beq_eq_false_iff_ne.mpr c18
              have c18b1 : (a0 != 32) = true := bne_iff_ne.mpr c18
              by_cases c19 : a0 = 44
              · rw [if_pos c19] at H
                have c19b0 : (a0 == 44) = true := beq_iff_eq.mpr c19
                have c19b1 : (a0 != 44) = false := bne_eq_false_iff_eq.mpr c19
                clear c19
                have H' := Aside0.mk H
                clear H
                go_wp2
                go_meet
                case rel => exact ⟨_, (true), (by first | rfl | (simp; done) | (simp [*]; done)), H', ⟨by first | omega | exact Nat.le_refl _⟩, ⟨by repeat (first | (with_reducible first | exact HB.out | apply below_alloc | apply pw_below_drewN | apply below_drew1) | exact HB.out)⟩⟩
              · rw [if_neg c19] at H
                have c19b0 : (a0 == 44) = false := beq_eq_false_iff_ne.mpr c19
                have c19b1 : (a0 != 44) = true := bne_iff_ne.mpr c19
                have H' := Aside0.mk H
                clear H
                go_wp2
                go_meet
                case rel => exact ⟨_, ((a0 == 35)), (by first | rfl | (simp; done) | (simp [*]; done)), H', ⟨by first | omega | exact Nat.le_refl _⟩, ⟨by repeat (first | (with_reducible first | exact HB.out | apply below_alloc | apply pw_below_drewN | apply below_drew1) | exact HB.out)⟩⟩
    case rest =>
      clear HC7
      try clear c1
      try clear hcv1
      try clear c2
      try clear p2
      try clear c6
      try clear c6b0
      try clear c8
      try clear hcv11
      try clear c14
      try clear c15
      try clear c15b0
      try clear c15b1
      try clear c16
      try clear c16b0
      try clear c16b1
      try clear c17
      try clear c17b0
      try clear c17b1
      try clear c18
      try clear c18b0
      try clear c18b1
      try clear c19
      try clear c19b0
      try clear c19b1
      obtain ⟨kq, x9_6, rfl, HA, HJ6, HB⟩ := hcut
      cases kq with
      | zero => exact absurd HA.out (by simp [copperplatelaw04_ScanByte.j0])
      | succ kj6 =>
        have H := HA.out
        clear HA
        simp only [copperplatelaw04_ScanByte.j0] at H
        by_cases c20 : t120 = true
        · subst c20
          have H1 : (if (wrap64 ((wrap64 (t124 + t125)) + t126)) ≤ 1 then ((scan_Begins.f a0).bind fun t127 => (if ((t124 == 1) == t127) = true then (if ((t125 == 1) == (decide (a0 ≤ 57))) = true then (some ((t126 == 1) == x9_6)) else (some false)) else (some false))) else (some false)) = some r := by rw [if_pos rfl] at H; exact H
          clear H
          have H := H1
          clear H1
          by_cases c21 : (wrap64 ((wrap64 (t124 + t125)) + t126)) ≤ 1
          · rw [if_pos c21] at H
            have c21b0 : decide ((wrap64 ((wrap64 (t124 + t125)) + t126)) ≤ 1) = true := decide_eq_true c21
            clear c21
            replace H := Option.bind_eq_some_iff.mp H
            obtain ⟨t127, A220, H⟩ := H
            replace H : (if ((t124 == 1) == t127) = true then (if ((t125 == 1) == (decide (a0 ≤ 57))) = true then (some ((t126 == 1) == x9_6)) else (some false)) else (some false)) = some r := H
            have A22 := Aside0.mk A220
            clear A220
            by_cases c23 : ((t124 == 1) == t127) = true
            · rw [if_pos c23] at H
              have c23b0 : ((t124 == 1) == t127) = true := c23
              (try (have c23b1 : decide ((t124 == 1) = t127) = true := by simpa using c23))
              (try (have c23b2 : ((t124 == 1) == t127) = true := by simpa using c23))
              clear c23
              by_cases c24 : ((t125 == 1) == (decide (a0 ≤ 57))) = true
              · rw [if_pos c24] at H
                have c24b0 : ((t125 == 1) == (decide (a0 ≤ 57))) = true := c24
                (try (have c24b1 : decide ((t125 == 1) = (decide (a0 ≤ 57))) = true := by simpa using c24))
                (try (have c24b2 : ((t125 == 1) == (decide (a0 ≤ 57))) = true := by simpa using c24))
                clear c24
                obtain rfl := Option.some.inj H
                go_wp2_with (first | (go_at_call 16; (with_reducible refine (scan_Begins.calls a0 t127 _ A22.out).mono ?_); rintro e w' ⟨rfl, ⟨nd, rfl⟩⟩))
                go_ret
                exact ⟨by first | rfl | (simp [errW_none, errW_some] <;> rfl) | (simp [*, errW_none, errW_some] <;> rfl), by repeat (first | (with_reducible first | exact HB.out | apply below_alloc | apply pw_below_drewN | apply below_drew1) | exact HB.out)⟩
              · rw [if_neg c24] at H
                have c24b0 : ((t125 == 1) == (decide (a0 ≤ 57))) = false := by simpa using c24
                (try (have c24b1 : decide ((t125 == 1) = (decide (a0 ≤ 57))) = false := by simpa using c24))
                (try (have c24b2 : ((t125 == 1) == (decide (a0 ≤ 57))) = false := by simpa using c24))
                (try (have c24b3 : ¬ ((t125 == 1) = (decide (a0 ≤ 57))) := by simpa using c24))
                clear c24
                obtain rfl := Option.some.inj H
                go_wp2_with (first | (go_at_call 16; (with_reducible refine (scan_Begins.calls a0 t127 _ A22.out).mono ?_); rintro e w' ⟨rfl, ⟨nd, rfl⟩⟩))
                go_ret
                exact ⟨by first | rfl | (simp [errW_none, errW_some] <;> rfl) | (simp [*, errW_none, errW_some] <;> rfl), by repeat (first | (with_reducible first | exact HB.out | apply below_alloc | apply pw_below_drewN | apply below_drew1) | exact HB.out)⟩
            · rw [if_neg c23] at H
              have c23b0 : ((t124 == 1) == t127) = false := by simpa using c23
              (try (have c23b1 : decide ((t124 == 1) = t127) = false := by simpa using c23))
              (try (have c23b2 : ((t124 == 1) == t127) = false := by simpa using c23))
              (try (have c23b3 : ¬ ((t124 == 1) = t127) := by simpa using c23))
              clear c23
              obtain rfl := Option.some.inj H
              go_wp2_with (first | (go_at_call 16; (with_reducible refine (scan_Begins.calls a0 t127 _ A22.out).mono ?_); rintro e w' ⟨rfl, ⟨nd, rfl⟩⟩))
              go_ret
              exact ⟨by first | rfl | (simp [errW_none, errW_some] <;> rfl) | (simp [*, errW_none, errW_some] <;> rfl), by repeat (first | (with_reducible first | exact HB.out | apply below_alloc | apply pw_below_drewN | apply below_drew1) | exact HB.out)⟩
          · rw [if_neg c21] at H
            have c21b0 : decide ((wrap64 ((wrap64 (t124 + t125)) + t126)) ≤ 1) = false := decide_eq_false c21
            clear c21
            obtain rfl := Option.some.inj H
            go_wp2
            go_ret
            exact ⟨by first | rfl | (simp [errW_none, errW_some] <;> rfl) | (simp [*, errW_none, errW_some] <;> rfl), by repeat (first | (with_reducible first | exact HB.out | apply below_alloc | apply pw_below_drewN | apply below_drew1) | exact HB.out)⟩
        · replace c20 := Bool.eq_false_iff.mpr c20
          subst c20
          have H1 : (some false) = some r := by rw [if_neg (show ¬ (false = true) by decide)] at H; exact H
          clear H
          have H := H1
          clear H1
          obtain rfl := Option.some.inj H
          go_wp2
          go_ret
          exact ⟨by first | rfl | (simp [errW_none, errW_some] <;> rfl) | (simp [*, errW_none, errW_some] <;> rfl), by repeat (first | (with_reducible first | exact HB.out | apply below_alloc | apply pw_below_drewN | apply below_drew1) | exact HB.out)⟩
  · rw [if_neg c6] at H
    have c6b0 : decide (48 ≤ a0) = false := decide_eq_false c6
    clear c6
    have HC25 := Aside0.mk H
    clear H
    go_enter Try.func8, Try.ntmps8
    go_upto_region 7 with (first | ((with_reducible refine gate_callee (f := 14) rfl ?_); refine goesL_ (some 10) rfl rfl Try.func14 (by kernel_rfl) rfl #[] rfl (by (try simp only [List.map_toArray, List.map_cons, List.map_nil]); first | done | rfl | (simp only [List.length_drop, List.length_take]; rfl)) ?_; (with_reducible refine (copperplatelaw04_awake.calls  t120 _ A2.out).mono ?_); rintro e w26 ⟨rfl, hb⟩; refine ⟨_, rfl, ?_⟩; have n0_ := Aside0.mk (below_step (by repeat (first | (with_reducible first | exact HB.out | apply below_alloc | apply pw_below_drewN | apply below_drew1) | exact HB.out)) hb); clear HB; have HB := n0_; clear n0_; (try clear hb); (try clear hb2); (try clear hk); (try clear hi)) | ((with_reducible refine gate_dst (N := 12) rfl ?_); refine Kd.R_lit (Kd.int .u8) _ 5 ?hg (N := 12) ?hd (xs := ([a0] : List Int)) (inner := [.int .u8 a0]) (ok := fun _ => True) (okp := fun _ => True) ?hr ?hp (fun _ hk => hk) trivial (Below.refl _ _) (Nat.le_refl _) (by simp) ?_; (case hd => rfl); (case hg => rfl); (case hr => first | (go_simp; done) | (go_simp; rfl)); (case hp => exact (Reps.one (show Kd.M (Kd.int .u8) _ _ _ a0 [.int .u8 a0] from rfl) (Reps.none _ _))); intro v122 w27 ho28 hb hg_ hnew_; clear hg_ hnew_; (first | rw [← Ny121.out] at ho28 | (simp only [Int.reduceToNat] at ho28; rw [← Ny121.out] at ho28)); have n0_ := Aside0.mk (Kd.R_lower ho28 (below_size (by repeat (first | (with_reducible first | exact HB.out | apply below_alloc | apply pw_below_drewN | apply below_drew1) | exact HB.out)))); have n1_ := Aside0.mk (below_step (by repeat (first | (with_reducible first | exact HB.out | apply below_alloc | apply pw_below_drewN | apply below_drew1) | exact HB.out)) hb); clear HB; have HO123 := n0_; have HB := n1_; clear n0_ n1_; clear hb ho28; have hcv29 := own_string (P := Try.prog) Try.underlying29 Try.underlying5 Try.underlying9 (Kd.own_of_R HO123.out)) | ((with_reducible refine gate_callee (f := 17) rfl ?_); refine goesL_ (some 15) rfl rfl Try.func17 (by kernel_rfl) rfl #[.string (strOfNums y121), .int .i64 0] rfl (by (try simp only [List.map_toArray, List.map_cons, List.map_nil]); first | done | rfl | (simp only [List.length_drop, List.length_take]; rfl)) ?_; (with_reducible refine (scan_Name.calls (strOfNums y121) 0 t124 _ A3.out).mono ?_); rintro e w30 ⟨rfl, hb⟩; refine ⟨_, rfl, ?_⟩; have n0_ := Aside0.mk (Kd.R_below (by (with_reducible repeat (first | apply Kd.R_alloc | apply Kd.R_drewN | apply Kd.R_drew)); exact HO123.out) hb); have n1_ := Aside0.mk (below_step (by repeat (first | (with_reducible first | exact HB.out | apply below_alloc | apply pw_below_drewN | apply below_drew1) | exact HB.out)) hb); clear HO123; clear HB; have HO123 := n0_; have HB := n1_; clear n0_ n1_; (try clear hb); (try clear hb2); (try clear hk); (try clear hi)) | ((with_reducible refine gate_callee (f := 19) rfl ?_); refine goesL_ (some 17) rfl rfl Try.func19 (by kernel_rfl) rfl #[.string (strOfNums y121), .int .i64 0] rfl (by (try simp only [List.map_toArray, List.map_cons, List.map_nil]); first | done | rfl | (simp only [List.length_drop, List.length_take]; rfl)) ?_; (with_reducible refine (scan_Digits.calls (strOfNums y121) 0 t125 _ A4.out).mono ?_); rintro e w31 ⟨rfl, hb⟩; refine ⟨_, rfl, ?_⟩; have n0_ := Aside0.mk (Kd.R_below (by (with_reducible repeat (first | apply Kd.R_alloc | apply Kd.R_drewN | apply Kd.R_drew)); exact HO123.out) hb); have n1_ := Aside0.mk (below_step (by repeat (first | (with_reducible first | exact HB.out | apply below_alloc | apply pw_below_drewN | apply below_drew1) | exact HB.out)) hb); clear HO123; clear HB; have HO123 := n0_; have HB := n1_; clear n0_ n1_; (try clear hb); (try clear hb2); (try clear hk); (try clear hi)) | ((with_reducible refine gate_callee (f := 21) rfl ?_); refine goesL_ (some 19) rfl rfl Try.func21 (by kernel_rfl) rfl #[.string (strOfNums y121), .int .i64 0] rfl (by (try simp only [List.map_toArray, List.map_cons, List.map_nil]); first | done | rfl | (simp only [List.length_drop, List.length_take]; rfl)) ?_; (with_reducible refine (scan_Blank.calls (strOfNums y121) 0 t126 _ A5.out).mono ?_); rintro e w32 ⟨rfl, hb⟩; refine ⟨_, rfl, ?_⟩; have n0_ := Aside0.mk (Kd.R_below (by (with_reducible repeat (first | apply Kd.R_alloc | apply Kd.R_drewN | apply Kd.R_drew)); exact HO123.out) hb); have n1_ := Aside0.mk (below_step (by repeat (first | (with_reducible first | exact HB.out | apply below_alloc | apply pw_below_drewN | apply below_drew1) | exact HB.out)) hb); clear HO123; clear HB; have HO123 := n0_; have HB := n1_; clear n0_ n1_; (try clear hb); (try clear hb2); (try clear hk); (try clear hi)))
    (try simp only [Act.put, List.setIfInBounds_toArray, List.set_cons_zero, List.set_cons_succ])
    go_cut [9] (fun v9 wc => ∃ (kq : Nat) (x9_24 : Bool), v9 = .bool x9_24 ∧ Aside0 (copperplatelaw04_ScanByte.j1 kq a0 t120 t124 t125 t126 false x9_24 = some r) ∧ Aside0 (kq ≤ k) ∧ Aside0 (Below w.heap.size w wc))
    case first =>
      have H := HC25.out
      clear HC25
      by_cases c33 : a0 = 9
      · rw [if_pos c33] at H
        have c33b0 : (a0 == 9) = true := beq_iff_eq.mpr c33
        have c33b1 : (a0 != 9) = false := bne_eq_false_iff_eq.mpr c33
        clear c33
        (first | rw [c33b0] | (simp only [i64_w, i32_w]; rw [c33b0]) | skip)
        have H' := Aside0.mk H
        clear H
        go_wp2
        go_meet
        case rel => exact ⟨_, (true), (by first | rfl | (simp; done) | (simp [*]; done)), H', ⟨by first | omega | exact Nat.le_refl _⟩, ⟨by repeat (first | (with_reducible first | exact HB.out | apply below_alloc | apply pw_below_drewN | apply below_drew1) | exact HB.out)⟩⟩
      · rw [if_neg c33] at H
        have c33b0 : (a0 == 9) = false := beq_eq_false_iff_ne.mpr c33
        have c33b1 : (a0 != 9) = true := bne_iff_ne.mpr c33
        (first | rw [c33b0] | (simp only [i64_w, i32_w]; rw [c33b0]) | skip)
        by_cases c34 : a0 = 10
        · rw [if_pos c34] at H
          have c34b0 : (a0 == 10) = true := beq_iff_eq.mpr c34
          have c34b1 : (a0 != 10) = false := bne_eq_false_iff_eq.mpr c34
          clear c34
          have H' := Aside0.mk H
          clear H
          go_wp2
          go_meet
          case rel => exact ⟨_, (true), (by first | rfl | (simp; done) | (simp [*]; done)), H', ⟨by first | omega | exact Nat.le_refl _⟩, ⟨by repeat (first | (with_reducible first | exact HB.out | apply below_alloc | apply pw_below_drewN | apply below_drew1) | exact HB.out)⟩⟩
        · rw [if_neg c34] at H
          have c34b0 : (a0 == 10) = false := beq_eq_false_iff_ne.mpr c34
          have c34b1 : (a0 != 10) = true := bne_iff_ne.mpr c34
          by_cases c35 : a0 = 13
          · rw [if_pos c35] at H
            have c35b0 : (a0 == 13) = true := beq_iff_eq.mpr c35
            have c35b1 : (a0 != 13) = false := bne_eq_false_iff_eq.mpr c35
            clear c35
            have H' := Aside0.mk H
            clear H
            go_wp2
            go_meet
            case rel => exact ⟨_, (true), (by first | rfl | (simp; done) | (simp [*]; done)), H', ⟨by first | omega | exact Nat.le_refl _⟩, ⟨by repeat (first | (with_reducible first | exact HB.out | apply below_alloc | apply pw_below_drewN | apply below_drew1) | exact HB.out)⟩⟩
          · rw [if_neg c35] at H
            have c35b0 : (a0 == 13) = false := beq_eq_false_iff_ne.mpr c35
            have c35b1 : (a0 != 13) = true := bne_iff_ne.mpr c35
            by_cases c36 : a0 = 32
            · rw [if_pos c36] at H
              have c36b0 : (a0 == 32) = true := beq_iff_eq.mpr c36
              have c36b1 : (a0 != 32) = false := bne_eq_false_iff_eq.mpr c36
              clear c36
              have H' := Aside0.mk H
              clear H
              go_wp2
              go_meet
              case rel => exact ⟨_, (true), (by first | rfl | (simp; done) | (simp [*]; done)), H', ⟨by first | omega | exact Nat.le_refl _⟩, ⟨by repeat (first | (with_reducible first | exact HB.out | apply below_alloc | apply pw_below_drewN | apply below_drew1) | exact HB.out)⟩⟩
            · rw [if_neg c36] at H
              have c36b0 : (a0 == 32) = false := beq_eq_false_iff_ne.mpr c36
              have c36b1 : (a0 != 32) = true := bne_iff_ne.mpr c36
              by_cases c37 : a0 = 44
              · rw [if_pos c37] at H
                have c37b0 : (a0 == 44) = true := beq_iff_eq.mpr c37
                have c37b1 : (a0 != 44) = false := bne_eq_false_iff_eq.mpr c37
                clear c37
                have H' := Aside0.mk H
                clear H
                go_wp2
                go_meet
                case rel => exact ⟨_, (true), (by first | rfl | (simp; done) | (simp [*]; done)), H', ⟨by first | omega | exact Nat.le_refl _⟩, ⟨by repeat (first | (with_reducible first | exact HB.out | apply below_alloc | apply pw_below_drewN | apply below_drew1) | exact HB.out)⟩⟩
              · rw [if_neg c37] at H
                have c37b0 : (a0 == 44) = false := beq_eq_false_iff_ne.mpr c37
                have c37b1 : (a0 != 44) = true := bne_iff_ne.mpr c37
                have H' := Aside0.mk H
                clear H
                go_wp2
                go_meet
                case rel => exact ⟨_, ((a0 == 35)), (by first | rfl | (simp; done) | (simp [*]; done)), H', ⟨by first | omega | exact Nat.le_refl _⟩, ⟨by repeat (first | (with_reducible first | exact HB.out | apply below_alloc | apply pw_below_drewN | apply below_drew1) | exact HB.out)⟩⟩
    case rest =>
      clear HC25
      try clear c1
      try clear hcv1
      try clear c2
      try clear p2
      try clear hcv2
      try clear c3
      try clear c6
      try clear c6b0
      try clear p6
      try clear c8
      try clear hcv11
      try clear c14
      try clear c15
      try clear c15b0
      try clear c15b1
      try clear c16
      try clear c16b0
      try clear c16b1
      try clear c17
      try clear c17b0
      try clear c17b1
      try clear c18
      try clear c18b0
      try clear c18b1
      try clear c19
      try clear c19b0
      try clear c19b1
      try clear c20
      try clear c21
      try clear c21b0
      try clear c23
      try clear c23b0
      try clear c23b1
      try clear c23b2
      try clear c24
      try clear c24b0
      try clear c24b1
      try clear c24b2
      try clear hcv29
      try clear c33
      try clear c33b0
      try clear c33b1
      try clear c34
      try clear c34b0
      try clear c34b1
      try clear c35
      try clear c35b0
      try clear c35b1
      try clear c36
      try clear c36b0
      try clear c36b1
      try clear c37
      try clear c37b0
      try clear c37b1
      try clear p2
      obtain ⟨kq, x9_24, rfl, HA, HJ24, HB⟩ := hcut
      cases kq with
      | zero => exact absurd HA.out (by simp [copperplatelaw04_ScanByte.j1])
      | succ kj24 =>
        have H := HA.out
        clear HA
        simp only [copperplatelaw04_ScanByte.j1] at H
        by_cases c38 : t120 = true
        · subst c38
          have H1 : (if (wrap64 ((wrap64 (t124 + t125)) + t126)) ≤ 1 then ((scan_Begins.f a0).bind fun t128 => (if ((t124 == 1) == t128) = true then (if ((t125 == 1) == false) = true then (some ((t126 == 1) == x9_24)) else (some false)) else (some false))) else (some false)) = some r := by rw [if_pos rfl] at H; exact H
          clear H
          have H := H1
          clear H1
          by_cases c39 : (wrap64 ((wrap64 (t124 + t125)) + t126)) ≤ 1
          · rw [if_pos c39] at H
            have c39b0 : decide ((wrap64 ((wrap64 (t124 + t125)) + t126)) ≤ 1) = true := decide_eq_true c39
            clear c39
            replace H := Option.bind_eq_some_iff.mp H
            obtain ⟨t128, A400, H⟩ := H
            replace H : (if ((t124 == 1) == t128) = true then (if ((t125 == 1) == false) = true then (some ((t126 == 1) == x9_24)) else (some false)) else (some false)) = some r := H
            have A40 := Aside0.mk A400
            clear A400
            by_cases c41 : ((t124 == 1) == t128) = true
            · rw [if_pos c41] at H
              have c41b0 : ((t124 == 1) == t128) = true := c41
              (try (have c41b1 : decide ((t124 == 1) = t128) = true := by simpa using c41))
              (try (have c41b2 : ((t124 == 1) == t128) = true := by simpa using c41))
              clear c41
              by_cases c42 : ((t125 == 1) == false) = true
              · rw [if_pos c42] at H
                have c42b0 : ((t125 == 1) == false) = true := c42
                (try (have c42b1 : decide ((t125 == 1) = false) = true := by simpa using c42))
                (try (have c42b2 : ((t125 == 1) == false) = true := by simpa using c42))
                clear c42
                obtain rfl := Option.some.inj H
                go_wp2_with (first | (go_at_call 16; (with_reducible refine (scan_Begins.calls a0 t128 _ A40.out).mono ?_); rintro e w' ⟨rfl, ⟨nd, rfl⟩⟩))
                go_ret
                exact ⟨by first | rfl | (simp [errW_none, errW_some] <;> rfl) | (simp [*, errW_none, errW_some] <;> rfl), by repeat (first | (with_reducible first | exact HB.out | apply below_alloc | apply pw_below_drewN | apply below_drew1) | exact HB.out)⟩
              · rw [if_neg c42] at H
                have c42b0 : ((t125 == 1) == false) = false := by simpa using c42
                (try (have c42b1 : decide ((t125 == 1) = false) = false := by simpa using c42))
                (try (have c42b2 : ((t125 == 1) == false) = false := by simpa using c42))
                (try (have c42b3 : ¬ ((t125 == 1) = false) := by simpa using c42))
                clear c42
                obtain rfl := Option.some.inj H
                go_wp2_with (first | (go_at_call 16; (with_reducible refine (scan_Begins.calls a0 t128 _ A40.out).mono ?_); rintro e w' ⟨rfl, ⟨nd, rfl⟩⟩))
                go_ret
                exact ⟨by first | rfl | (simp [errW_none, errW_some] <;> rfl) | (simp [*, errW_none, errW_some] <;> rfl), by repeat (first | (with_reducible first | exact HB.out | apply below_alloc | apply pw_below_drewN | apply below_drew1) | exact HB.out)⟩
            · rw [if_neg c41] at H
              have c41b0 : ((t124 == 1) == t128) = false := by simpa using c41
              (try (have c41b1 : decide ((t124 == 1) = t128) = false := by simpa using c41))
              (try (have c41b2 : ((t124 == 1) == t128) = false := by simpa using c41))
              (try (have c41b3 : ¬ ((t124 == 1) = t128) := by simpa using c41))
              clear c41
              obtain rfl := Option.some.inj H
              go_wp2_with (first | (go_at_call 16; (with_reducible refine (scan_Begins.calls a0 t128 _ A40.out).mono ?_); rintro e w' ⟨rfl, ⟨nd, rfl⟩⟩))
              go_ret
              exact ⟨by first | rfl | (simp [errW_none, errW_some] <;> rfl) | (simp [*, errW_none, errW_some] <;> rfl), by repeat (first | (with_reducible first | exact HB.out | apply below_alloc | apply pw_below_drewN | apply below_drew1) | exact HB.out)⟩
          · rw [if_neg c39] at H
            have c39b0 : decide ((wrap64 ((wrap64 (t124 + t125)) + t126)) ≤ 1) = false := decide_eq_false c39
            clear c39
            obtain rfl := Option.some.inj H
            go_wp2
            go_ret
            exact ⟨by first | rfl | (simp [errW_none, errW_some] <;> rfl) | (simp [*, errW_none, errW_some] <;> rfl), by repeat (first | (with_reducible first | exact HB.out | apply below_alloc | apply pw_below_drewN | apply below_drew1) | exact HB.out)⟩
        · replace c38 := Bool.eq_false_iff.mpr c38
          subst c38
          have H1 : (some false) = some r := by rw [if_neg (show ¬ (false = true) by decide)] at H; exact H
          clear H
          have H := H1
          clear H1
          obtain rfl := Option.some.inj H
          go_wp2
          go_ret
          exact ⟨by first | rfl | (simp [errW_none, errW_some] <;> rfl) | (simp [*, errW_none, errW_some] <;> rfl), by repeat (first | (with_reducible first | exact HB.out | apply below_alloc | apply pw_below_drewN | apply below_drew1) | exact HB.out)⟩

/-- THE ONE PURE STATEMENT of copperplatelaw04_ScanByte: yours. -/
def copperplatelaw04_ScanByte.Pure : Prop := ∀ (a0 : Int), (Lit.int .u8 a0).wf = true → ∃ k, copperplatelaw04_ScanByte.f k a0 = some true
theorem copperplatelaw04_ScanByte.walk (P : copperplatelaw04_ScanByte.Pure) (a0 : Int) (w : World) (w0 : (Lit.int .u8 a0).wf = true) :
    Calls Try.prog 8 #[.int .u8 a0] w fun e w' => e = .returned (.bool true) ∧ Below w.heap.size w w' := by
  obtain ⟨k, h⟩ := P a0 w0
  refine (copperplatelaw04_ScanByte.calls k a0 true w h).mono ?_
  rintro e w' ⟨rfl, hd⟩
  exact ⟨rfl, hd⟩

/-! ### num_Whole: function 27 -/
def num_Whole.f (a0 : ByteArray) : Option (Bool) := (num_Number.f a0 0).bind fun bt129 => (if bt129.2.2 = true then (some (bt129.2.1 == (a0.size : Int))) else (some false))
set_option maxHeartbeats 8000000 in
set_option maxRecDepth 100000 in
theorem num_Whole.calls (a0 : ByteArray) (r : Bool) (w : World) (h : num_Whole.f a0 = some r) :
    Calls Try.prog 27 #[.string a0] w fun e w' => e = .returned (.bool r) ∧ Below w.heap.size w w' := by
  have HB := Aside0.mk (Below.refl w.heap.size w)
  have H : ((num_Number.f a0 0).bind fun bt129 => (if bt129.2.2 = true then (some (bt129.2.1 == (a0.size : Int))) else (some false))) = some r := h
  clear h
  replace H := Option.bind_eq_some_iff.mp H
  obtain ⟨⟨t129, t130, t131⟩, A20, H⟩ := H
  replace H : (if t131 = true then (some (t130 == (a0.size : Int))) else (some false)) = some r := H
  have A2 := Aside0.mk A20
  clear A20
  by_cases c3 : t131 = true
  · subst c3
    have H1 : (some (t130 == (a0.size : Int))) = some r := by rw [if_pos rfl] at H; exact H
    clear H
    have H := H1
    clear H1
    obtain rfl := Option.some.inj H
    go_enter Try.func27, Try.ntmps27
    go_wp2_with (first | ((with_reducible refine gate_callee (f := 24) rfl ?_); refine goesL_ (some 8) rfl rfl Try.func24 (by kernel_rfl) rfl #[.string a0, .int .i64 0] rfl (by (try simp only [List.map_toArray, List.map_cons, List.map_nil]); first | done | rfl | (simp only [List.length_drop, List.length_take]; rfl)) ?_; (with_reducible refine (num_Number.calls a0 0 t129 t130 true _ A2.out).mono ?_); rintro e w4 ⟨rfl, hb⟩; refine ⟨_, rfl, ?_⟩; have n0_ := Aside0.mk (below_step (by repeat (first | (with_reducible first | exact HB.out | apply below_alloc | apply pw_below_drewN | apply below_drew1) | exact HB.out)) hb); clear HB; have HB := n0_; clear n0_; (try clear hb); (try clear hb2); (try clear hk); (try clear hi)))
    go_ret
    exact ⟨by first | rfl | (simp [errW_none, errW_some] <;> rfl) | (simp [*, errW_none, errW_some] <;> rfl), by repeat (first | (with_reducible first | exact HB.out | apply below_alloc | apply pw_below_drewN | apply below_drew1) | exact HB.out)⟩
  · replace c3 := Bool.eq_false_iff.mpr c3
    subst c3
    have H1 : (some false) = some r := by rw [if_neg (show ¬ (false = true) by decide)] at H; exact H
    clear H
    have H := H1
    clear H1
    obtain rfl := Option.some.inj H
    go_enter Try.func27, Try.ntmps27
    go_wp2_with (first | ((with_reducible refine gate_callee (f := 24) rfl ?_); refine goesL_ (some 8) rfl rfl Try.func24 (by kernel_rfl) rfl #[.string a0, .int .i64 0] rfl (by (try simp only [List.map_toArray, List.map_cons, List.map_nil]); first | done | rfl | (simp only [List.length_drop, List.length_take]; rfl)) ?_; (with_reducible refine (num_Number.calls a0 0 t129 t130 false _ A2.out).mono ?_); rintro e w5 ⟨rfl, hb⟩; refine ⟨_, rfl, ?_⟩; have n0_ := Aside0.mk (below_step (by repeat (first | (with_reducible first | exact HB.out | apply below_alloc | apply pw_below_drewN | apply below_drew1) | exact HB.out)) hb); clear HB; have HB := n0_; clear n0_; (try clear hb); (try clear hb2); (try clear hk); (try clear hi)))
    go_ret
    exact ⟨by first | rfl | (simp [errW_none, errW_some] <;> rfl) | (simp [*, errW_none, errW_some] <;> rfl), by repeat (first | (with_reducible first | exact HB.out | apply below_alloc | apply pw_below_drewN | apply below_drew1) | exact HB.out)⟩

/-! ### copperplatelaw05_awake: function 23 -/
def copperplatelaw05_awake.f  : Option (Bool) := (num_Number.f (⟨#[45, 49, 50, 46, 53, 101, 51]⟩ : ByteArray) 0).bind fun bt132 => ((num_Number.f (⟨#[48, 49]⟩ : ByteArray) 0).bind fun bt135 => ((num_Number.f (⟨#[49, 46]⟩ : ByteArray) 0).bind fun bt138 => ((num_Number.f (⟨#[49, 97]⟩ : ByteArray) 0).bind fun bt141 => (if bt132.2.2 = true then (if bt132.1 = 4 then (if bt132.2.1 = 7 then (if bt135.2.2 = true then (some false) else (if bt135.2.1 = 1 then (if bt138.2.2 = true then (some false) else (if bt138.2.1 = 2 then (if bt141.2.2 = true then (some false) else (if bt141.2.1 = 1 then ((num_Whole.f (⟨#[48]⟩ : ByteArray)).bind fun t144 => (if t144 = true then ((num_Whole.f (⟨#[48, 32]⟩ : ByteArray)).bind fun t145 => (some (!t145))) else (some false))) else (some false))) else (some false))) else (some false))) else (some false)) else (some false)) else (some false)))))
set_option maxHeartbeats 8000000 in
set_option maxRecDepth 100000 in
theorem copperplatelaw05_awake.calls  (r : Bool) (w : World) (h : copperplatelaw05_awake.f  = some r) :
    Calls Try.prog 23 #[] w fun e w' => e = .returned (.bool r) ∧ Below w.heap.size w w' := by
  have HB := Aside0.mk (Below.refl w.heap.size w)
  have H : ((num_Number.f (⟨#[45, 49, 50, 46, 53, 101, 51]⟩ : ByteArray) 0).bind fun bt132 => ((num_Number.f (⟨#[48, 49]⟩ : ByteArray) 0).bind fun bt135 => ((num_Number.f (⟨#[49, 46]⟩ : ByteArray) 0).bind fun bt138 => ((num_Number.f (⟨#[49, 97]⟩ : ByteArray) 0).bind fun bt141 => (if bt132.2.2 = true then (if bt132.1 = 4 then (if bt132.2.1 = 7 then (if bt135.2.2 = true then (some false) else (if bt135.2.1 = 1 then (if bt138.2.2 = true then (some false) else (if bt138.2.1 = 2 then (if bt141.2.2 = true then (some false) else (if bt141.2.1 = 1 then ((num_Whole.f (⟨#[48]⟩ : ByteArray)).bind fun t144 => (if t144 = true then ((num_Whole.f (⟨#[48, 32]⟩ : ByteArray)).bind fun t145 => (some (!t145))) else (some false))) else (some false))) else (some false))) else (some false))) else (some false)) else (some false)) else (some false)))))) = some r := h
  clear h
  replace H := Option.bind_eq_some_iff.mp H
  obtain ⟨⟨t132, t133, t134⟩, A10, H⟩ := H
  replace H : ((num_Number.f (⟨#[48, 49]⟩ : ByteArray) 0).bind fun bt135 => ((num_Number.f (⟨#[49, 46]⟩ : ByteArray) 0).bind fun bt138 => ((num_Number.f (⟨#[49, 97]⟩ : ByteArray) 0).bind fun bt141 => (if t134 = true then (if t132 = 4 then (if t133 = 7 then (if bt135.2.2 = true then (some false) else (if bt135.2.1 = 1 then (if bt138.2.2 = true then (some false) else (if bt138.2.1 = 2 then (if bt141.2.2 = true then (some false) else (if bt141.2.1 = 1 then ((num_Whole.f (⟨#[48]⟩ : ByteArray)).bind fun t144 => (if t144 = true then ((num_Whole.f (⟨#[48, 32]⟩ : ByteArray)).bind fun t145 => (some (!t145))) else (some false))) else (some false))) else (some false))) else (some false))) else (some false)) else (some false)) else (some false))))) = some r := H
  have A1 := Aside0.mk A10
  clear A10
  replace H := Option.bind_eq_some_iff.mp H
  obtain ⟨⟨t135, t136, t137⟩, A20, H⟩ := H
  replace H : ((num_Number.f (⟨#[49, 46]⟩ : ByteArray) 0).bind fun bt138 => ((num_Number.f (⟨#[49, 97]⟩ : ByteArray) 0).bind fun bt141 => (if t134 = true then (if t132 = 4 then (if t133 = 7 then (if t137 = true then (some false) else (if t136 = 1 then (if bt138.2.2 = true then (some false) else (if bt138.2.1 = 2 then (if bt141.2.2 = true then (some false) else (if bt141.2.1 = 1 then ((num_Whole.f (⟨#[48]⟩ : ByteArray)).bind fun t144 => (if t144 = true then ((num_Whole.f (⟨#[48, 32]⟩ : ByteArray)).bind fun t145 => (some (!t145))) else (some false))) else (some false))) else (some false))) else (some false))) else (some false)) else (some false)) else (some false)))) = some r := H
  have A2 := Aside0.mk A20
  clear A20
  replace H := Option.bind_eq_some_iff.mp H
  obtain ⟨⟨t138, t139, t140⟩, A30, H⟩ := H
  replace H : ((num_Number.f (⟨#[49, 97]⟩ : ByteArray) 0).bind fun bt141 => (if t134 = true then (if t132 = 4 then (if t133 = 7 then (if t137 = true then (some false) else (if t136 = 1 then (if t140 = true then (some false) else (if t139 = 2 then (if bt141.2.2 = true then (some false) else (if bt141.2.1 = 1 then ((num_Whole.f (⟨#[48]⟩ : ByteArray)).bind fun t144 => (if t144 = true then ((num_Whole.f (⟨#[48, 32]⟩ : ByteArray)).bind fun t145 => (some (!t145))) else (some false))) else (some false))) else (some false))) else (some false))) else (some false)) else (some false)) else (some false))) = some r := H
  have A3 := Aside0.mk A30
  clear A30
  replace H := Option.bind_eq_some_iff.mp H
  obtain ⟨⟨t141, t142, t143⟩, A40, H⟩ := H
  replace H : (if t134 = true then (if t132 = 4 then (if t133 = 7 then (if t137 = true then (some false) else (if t136 = 1 then (if t140 = true then (some false) else (if t139 = 2 then (if t143 = true then (some false) else (if t142 = 1 then ((num_Whole.f (⟨#[48]⟩ : ByteArray)).bind fun t144 => (if t144 = true then ((num_Whole.f (⟨#[48, 32]⟩ : ByteArray)).bind fun t145 => (some (!t145))) else (some false))) else (some false))) else (some false))) else (some false))) else (some false)) else (some false)) else (some false)) = some r := H
  have A4 := Aside0.mk A40
  clear A40
  by_cases c5 : t134 = true
  · subst c5
    have H1 : (if t132 = 4 then (if t133 = 7 then (if t137 = true then (some false) else (if t136 = 1 then (if t140 = true then (some false) else (if t139 = 2 then (if t143 = true then (some false) else (if t142 = 1 then ((num_Whole.f (⟨#[48]⟩ : ByteArray)).bind fun t144 => (if t144 = true then ((num_Whole.f (⟨#[48, 32]⟩ : ByteArray)).bind fun t145 => (some (!t145))) else (some false))) else (some false))) else (some false))) else (some false))) else (some false)) else (some false)) = some r := by rw [if_pos rfl] at H; exact H
    clear H
    have H := H1
    clear H1
    by_cases c6 : t132 = 4
    · rw [if_pos c6] at H
      have c6b0 : (t132 == 4) = true := beq_iff_eq.mpr c6
      have c6b1 : (t132 != 4) = false := bne_eq_false_iff_eq.mpr c6
      clear c6
      by_cases c7 : t133 = 7
      · rw [if_pos c7] at H
        have c7b0 : (t133 == 7) = true := beq_iff_eq.mpr c7
        have c7b1 : (t133 != 7) = false := bne_eq_false_iff_eq.mpr c7
        clear c7
        by_cases c8 : t137 = true
        · subst c8
          have H1 : (some false) = some r := by rw [if_pos rfl] at H; exact H
          clear H
          have H := H1
          clear H1
          obtain rfl := Option.some.inj H
          go_enter Try.func23, Try.ntmps23
          go_wp2_with (first | ((with_reducible refine gate_callee (f := 24) rfl ?_); refine goesL_ (some 14) rfl rfl Try.func24 (by kernel_rfl) rfl #[.string (⟨#[45, 49, 50, 46, 53, 101, 51]⟩ : ByteArray), .int .i64 0] rfl (by (try simp only [List.map_toArray, List.map_cons, List.map_nil]); first | done | rfl | (simp only [List.length_drop, List.length_take]; rfl)) ?_; (with_reducible refine (num_Number.calls (⟨#[45, 49, 50, 46, 53, 101, 51]⟩ : ByteArray) 0 t132 t133 true _ A1.out).mono ?_); rintro e w9 ⟨rfl, hb⟩; refine ⟨_, rfl, ?_⟩; have n0_ := Aside0.mk (below_step (by repeat (first | (with_reducible first | exact HB.out | apply below_alloc | apply pw_below_drewN | apply below_drew1) | exact HB.out)) hb); clear HB; have HB := n0_; clear n0_; (try clear hb); (try clear hb2); (try clear hk); (try clear hi)) | ((with_reducible refine gate_callee (f := 24) rfl ?_); refine goesL_ (some 19) rfl rfl Try.func24 (by kernel_rfl) rfl #[.string (⟨#[48, 49]⟩ : ByteArray), .int .i64 0] rfl (by (try simp only [List.map_toArray, List.map_cons, List.map_nil]); first | done | rfl | (simp only [List.length_drop, List.length_take]; rfl)) ?_; (with_reducible refine (num_Number.calls (⟨#[48, 49]⟩ : ByteArray) 0 t135 t136 true _ A2.out).mono ?_); rintro e w10 ⟨rfl, hb⟩; refine ⟨_, rfl, ?_⟩; have n0_ := Aside0.mk (below_step (by repeat (first | (with_reducible first | exact HB.out | apply below_alloc | apply pw_below_drewN | apply below_drew1) | exact HB.out)) hb); clear HB; have HB := n0_; clear n0_; (try clear hb); (try clear hb2); (try clear hk); (try clear hi)) | ((with_reducible refine gate_callee (f := 24) rfl ?_); refine goesL_ (some 24) rfl rfl Try.func24 (by kernel_rfl) rfl #[.string (⟨#[49, 46]⟩ : ByteArray), .int .i64 0] rfl (by (try simp only [List.map_toArray, List.map_cons, List.map_nil]); first | done | rfl | (simp only [List.length_drop, List.length_take]; rfl)) ?_; (with_reducible refine (num_Number.calls (⟨#[49, 46]⟩ : ByteArray) 0 t138 t139 t140 _ A3.out).mono ?_); rintro e w11 ⟨rfl, hb⟩; refine ⟨_, rfl, ?_⟩; have n0_ := Aside0.mk (below_step (by repeat (first | (with_reducible first | exact HB.out | apply below_alloc | apply pw_below_drewN | apply below_drew1) | exact HB.out)) hb); clear HB; have HB := n0_; clear n0_; (try clear hb); (try clear hb2); (try clear hk); (try clear hi)) | ((with_reducible refine gate_callee (f := 24) rfl ?_); refine goesL_ (some 29) rfl rfl Try.func24 (by kernel_rfl) rfl #[.string (⟨#[49, 97]⟩ : ByteArray), .int .i64 0] rfl (by (try simp only [List.map_toArray, List.map_cons, List.map_nil]); first | done | rfl | (simp only [List.length_drop, List.length_take]; rfl)) ?_; (with_reducible refine (num_Number.calls (⟨#[49, 97]⟩ : ByteArray) 0 t141 t142 t143 _ A4.out).mono ?_); rintro e w12 ⟨rfl, hb⟩; refine ⟨_, rfl, ?_⟩; have n0_ := Aside0.mk (below_step (by repeat (first | (with_reducible first | exact HB.out | apply below_alloc | apply pw_below_drewN | apply below_drew1) | exact HB.out)) hb); clear HB; have HB := n0_; clear n0_; (try clear hb); (try clear hb2); (try clear hk); (try clear hi)))
          go_ret
          exact ⟨by first | rfl | (simp [errW_none, errW_some] <;> rfl) | (simp [*, errW_none, errW_some] <;> rfl), by repeat (first | (with_reducible first | exact HB.out | apply below_alloc | apply pw_below_drewN | apply below_drew1) | exact HB.out)⟩
        · replace c8 := Bool.eq_false_iff.mpr c8
          subst c8
          have H1 : (if t136 = 1 then (if t140 = true then (some false) else (if t139 = 2 then (if t143 = true then (some false) else (if t142 = 1 then ((num_Whole.f (⟨#[48]⟩ : ByteArray)).bind fun t144 => (if t144 = true then ((num_Whole.f (⟨#[48, 32]⟩ : ByteArray)).bind fun t145 => (some (!t145))) else (some false))) else (some false))) else (some false))) else (some false)) = some r := by rw [if_neg (show ¬ (false = true) by decide)] at H; exact H
          clear H
          have H := H1
          clear H1
          by_cases c13 : t136 = 1
          · rw [if_pos c13] at H
            have c13b0 : (t136 == 1) = true := beq_iff_eq.mpr c13
            have c13b1 : (t136 != 1) = false := bne_eq_false_iff_eq.mpr c13
            clear c13
            by_cases c14 : t140 = true
            · subst c14
              have H1 : (some false) = some r := by rw [if_pos rfl] at H; exact H
              clear H
              have H := H1
              clear H1
              obtain rfl := Option.some.inj H
              go_enter Try.func23, Try.ntmps23
              go_wp2_with (first | ((with_reducible refine gate_callee (f := 24) rfl ?_); refine goesL_ (some 14) rfl rfl Try.func24 (by kernel_rfl) rfl #[.string (⟨#[45, 49, 50, 46, 53, 101, 51]⟩ : ByteArray), .int .i64 0] rfl (by (try simp only [List.map_toArray, List.map_cons, List.map_nil]); first | done | rfl | (simp only [List.length_drop, List.length_take]; rfl)) ?_; (with_reducible refine (num_Number.calls (⟨#[45, 49, 50, 46, 53, 101, 51]⟩ : ByteArray) 0 t132 t133 true _ A1.out).mono ?_); rintro e w15 ⟨rfl, hb⟩; refine ⟨_, rfl, ?_⟩; have n0_ := Aside0.mk (below_step (by repeat (first | (with_reducible first | exact HB.out | apply below_alloc | apply pw_below_drewN | apply below_drew1) | exact HB.out)) hb); clear HB; have HB := n0_; clear n0_; (try clear hb); (try clear hb2); (try clear hk); (try clear hi)) | ((with_reducible refine gate_callee (f := 24) rfl ?_); refine goesL_ (some 19) rfl rfl Try.func24 (by kernel_rfl) rfl #[.string (⟨#[48, 49]⟩ : ByteArray), .int .i64 0] rfl (by (try simp only [List.map_toArray, List.map_cons, List.map_nil]); first | done | rfl | (simp only [List.length_drop, List.length_take]; rfl)) ?_; (with_reducible refine (num_Number.calls (⟨#[48, 49]⟩ : ByteArray) 0 t135 t136 false _ A2.out).mono ?_); rintro e w16 ⟨rfl, hb⟩; refine ⟨_, rfl, ?_⟩; have n0_ := Aside0.mk (below_step (by repeat (first | (with_reducible first | exact HB.out | apply below_alloc | apply pw_below_drewN | apply below_drew1) | exact HB.out)) hb); clear HB; have HB := n0_; clear n0_; (try clear hb); (try clear hb2); (try clear hk); (try clear hi)) | ((with_reducible refine gate_callee (f := 24) rfl ?_); refine goesL_ (some 24) rfl rfl Try.func24 (by kernel_rfl) rfl #[.string (⟨#[49, 46]⟩ : ByteArray), .int .i64 0] rfl (by (try simp only [List.map_toArray, List.map_cons, List.map_nil]); first | done | rfl | (simp only [List.length_drop, List.length_take]; rfl)) ?_; (with_reducible refine (num_Number.calls (⟨#[49, 46]⟩ : ByteArray) 0 t138 t139 true _ A3.out).mono ?_); rintro e w17 ⟨rfl, hb⟩; refine ⟨_, rfl, ?_⟩; have n0_ := Aside0.mk (below_step (by repeat (first | (with_reducible first | exact HB.out | apply below_alloc | apply pw_below_drewN | apply below_drew1) | exact HB.out)) hb); clear HB; have HB := n0_; clear n0_; (try clear hb); (try clear hb2); (try clear hk); (try clear hi)) | ((with_reducible refine gate_callee (f := 24) rfl ?_); refine goesL_ (some 29) rfl rfl Try.func24 (by kernel_rfl) rfl #[.string (⟨#[49, 97]⟩ : ByteArray), .int .i64 0] rfl (by (try simp only [List.map_toArray, List.map_cons, List.map_nil]); first | done | rfl | (simp only [List.length_drop, List.length_take]; rfl)) ?_; (with_reducible refine (num_Number.calls (⟨#[49, 97]⟩ : ByteArray) 0 t141 t142 t143 _ A4.out).mono ?_); rintro e w18 ⟨rfl, hb⟩; refine ⟨_, rfl, ?_⟩; have n0_ := Aside0.mk (below_step (by repeat (first | (with_reducible first | exact HB.out | apply below_alloc | apply pw_below_drewN | apply below_drew1) | exact HB.out)) hb); clear HB; have HB := n0_; clear n0_; (try clear hb); (try clear hb2); (try clear hk); (try clear hi)))
              go_ret
              exact ⟨by first | rfl | (simp [errW_none, errW_some] <;> rfl) | (simp [*, errW_none, errW_some] <;> rfl), by repeat (first | (with_reducible first | exact HB.out | apply below_alloc | apply pw_below_drewN | apply below_drew1) | exact HB.out)⟩
            · replace c14 := Bool.eq_false_iff.mpr c14
              subst c14
              have H1 : (if t139 = 2 then (if t143 = true then (some false) else (if t142 = 1 then ((num_Whole.f (⟨#[48]⟩ : ByteArray)).bind fun t144 => (if t144 = true then ((num_Whole.f (⟨#[48, 32]⟩ : ByteArray)).bind fun t145 => (some (!t145))) else (some false))) else (some false))) else (some false)) = some r := by rw [if_neg (show ¬ (false = true) by decide)] at H; exact H
              clear H
              have H := H1
              clear H1
              by_cases c19 : t139 = 2
              · rw [if_pos c19] at H
                have c19b0 : (t139 == 2) = true := beq_iff_eq.mpr c19
                have c19b1 : (t139 != 2) = false := bne_eq_false_iff_eq.mpr c19
                clear c19
                by_cases c20 : t143 = true
                · subst c20
                  have H1 : (some false) = some r := by rw [if_pos rfl] at H; exact H
                  clear H
                  have H := H1
                  clear H1
                  obtain rfl := Option.some.inj H
                  go_enter Try.func23, Try.ntmps23
                  go_wp2_with (first | ((with_reducible refine gate_callee (f := 24) rfl ?_); refine goesL_ (some 14) rfl rfl Try.func24 (by kernel_rfl) rfl #[.string (⟨#[45, 49, 50, 46, 53, 101, 51]⟩ : ByteArray), .int .i64 0] rfl (by (try simp only [List.map_toArray, List.map_cons, List.map_nil]); first | done | rfl | (simp only [List.length_drop, List.length_take]; rfl)) ?_; (with_reducible refine (num_Number.calls (⟨#[45, 49, 50, 46, 53, 101, 51]⟩ : ByteArray) 0 t132 t133 true _ A1.out).mono ?_); rintro e w21 ⟨rfl, hb⟩; refine ⟨_, rfl, ?_⟩; have n0_ := Aside0.mk (below_step (by repeat (first | (with_reducible first | exact HB.out | apply below_alloc | apply pw_below_drewN | apply below_drew1) | exact HB.out)) hb); clear HB; have HB := n0_; clear n0_; (try clear hb); (try clear hb2); (try clear hk); (try clear hi)) | ((with_reducible refine gate_callee (f := 24) rfl ?_); refine goesL_ (some 19) rfl rfl Try.func24 (by kernel_rfl) rfl #[.string (⟨#[48, 49]⟩ : ByteArray), .int .i64 0] rfl (by (try simp only [List.map_toArray, List.map_cons, List.map_nil]); first | done | rfl | (simp only [List.length_drop, List.length_take]; rfl)) ?_; (with_reducible refine (num_Number.calls (⟨#[48, 49]⟩ : ByteArray) 0 t135 t136 false _ A2.out).mono ?_); rintro e w22 ⟨rfl, hb⟩; refine ⟨_, rfl, ?_⟩; have n0_ := Aside0.mk (below_step (by repeat (first | (with_reducible first | exact HB.out | apply below_alloc | apply pw_below_drewN | apply below_drew1) | exact HB.out)) hb); clear HB; have HB := n0_; clear n0_; (try clear hb); (try clear hb2); (try clear hk); (try clear hi)) | ((with_reducible refine gate_callee (f := 24) rfl ?_); refine goesL_ (some 24) rfl rfl Try.func24 (by kernel_rfl) rfl #[.string (⟨#[49, 46]⟩ : ByteArray), .int .i64 0] rfl (by (try simp only [List.map_toArray, List.map_cons, List.map_nil]); first | done | rfl | (simp only [List.length_drop, List.length_take]; rfl)) ?_; (with_reducible refine (num_Number.calls (⟨#[49, 46]⟩ : ByteArray) 0 t138 t139 false _ A3.out).mono ?_); rintro e w23 ⟨rfl, hb⟩; refine ⟨_, rfl, ?_⟩; have n0_ := Aside0.mk (below_step (by repeat (first | (with_reducible first | exact HB.out | apply below_alloc | apply pw_below_drewN | apply below_drew1) | exact HB.out)) hb); clear HB; have HB := n0_; clear n0_; (try clear hb); (try clear hb2); (try clear hk); (try clear hi)) | ((with_reducible refine gate_callee (f := 24) rfl ?_); refine goesL_ (some 29) rfl rfl Try.func24 (by kernel_rfl) rfl #[.string (⟨#[49, 97]⟩ : ByteArray), .int .i64 0] rfl (by (try simp only [List.map_toArray, List.map_cons, List.map_nil]); first | done | rfl | (simp only [List.length_drop, List.length_take]; rfl)) ?_; (with_reducible refine (num_Number.calls (⟨#[49, 97]⟩ : ByteArray) 0 t141 t142 true _ A4.out).mono ?_); rintro e w24 ⟨rfl, hb⟩; refine ⟨_, rfl, ?_⟩; have n0_ := Aside0.mk (below_step (by repeat (first | (with_reducible first | exact HB.out | apply below_alloc | apply pw_below_drewN | apply below_drew1) | exact HB.out)) hb); clear HB; have HB := n0_; clear n0_; (try clear hb); (try clear hb2); (try clear hk); (try clear hi)))
                  go_ret
                  exact ⟨by first | rfl | (simp [errW_none, errW_some] <;> rfl) | (simp [*, errW_none, errW_some] <;> rfl), by repeat (first | (with_reducible first | exact HB.out | apply below_alloc | apply pw_below_drewN | apply below_drew1) | exact HB.out)⟩
                · replace c20 := Bool.eq_false_iff.mpr c20
                  subst c20
                  have H1 : (if t142 = 1 then ((num_Whole.f (⟨#[48]⟩ : ByteArray)).bind fun t144 => (if t144 = true then ((num_Whole.f (⟨#[48, 32]⟩ : ByteArray)).bind fun t145 => (some (!t145))) else (some false))) else (some false)) = some r := by rw [if_neg (show ¬ (false = true) by decide)] at H; exact H
                  clear H
                  have H := H1
                  clear H1
                  by_cases c25 : t142 = 1
                  · rw [if_pos c25] at H
                    have c25b0 : (t142 == 1) = true := beq_iff_eq.mpr c25
                    have c25b1 : (t142 != 1) = false := bne_eq_false_iff_eq.mpr c25
                    clear c25
                    replace H := Option.bind_eq_some_iff.mp H
                    obtain ⟨t144, A260, H⟩ := H
                    replace H : (if t144 = true then ((num_Whole.f (⟨#[48, 32]⟩ : ByteArray)).bind fun t145 => (some (!t145))) else (some false)) = some r := H
                    have A26 := Aside0.mk A260
                    clear A260
                    by_cases c27 : t144 = true
                    · subst c27
                      have H1 : ((num_Whole.f (⟨#[48, 32]⟩ : ByteArray)).bind fun t145 => (some (!t145))) = some r := by rw [if_pos rfl] at H; exact H
                      clear H
                      have H := H1
                      clear H1
                      replace H := Option.bind_eq_some_iff.mp H
                      obtain ⟨t145, A280, H⟩ := H
                      replace H : (some (!t145)) = some r := H
                      have A28 := Aside0.mk A280
                      clear A280
                      obtain rfl := Option.some.inj H
                      go_enter Try.func23, Try.ntmps23
                      go_wp2_with (first | ((with_reducible refine gate_callee (f := 24) rfl ?_); refine goesL_ (some 14) rfl rfl Try.func24 (by kernel_rfl) rfl #[.string (⟨#[45, 49, 50, 46, 53, 101, 51]⟩ : ByteArray), .int .i64 0] rfl (by (try simp only [List.map_toArray, List.map_cons, List.map_nil]); first | done | rfl | (simp only [List.length_drop, List.length_take]; rfl)) ?_; (with_reducible refine (num_Number.calls (⟨#[45, 49, 50, 46, 53, 101, 51]⟩ : ByteArray) 0 t132 t133 true _ A1.out).mono ?_); rintro e w29 ⟨rfl, hb⟩; refine ⟨_, rfl, ?_⟩; have n0_ := Aside0.mk (below_step (by repeat (first | (with_reducible first | exact HB.out | apply below_alloc | apply pw_below_drewN | apply below_drew1) | exact HB.out)) hb); clear HB; have HB := n0_; clear n0_; (try clear hb); (try clear hb2); (try clear hk); (try clear hi)) | ((with_reducible refine gate_callee (f := 24) rfl ?_); refine goesL_ (some 19) rfl rfl Try.func24 (by kernel_rfl) rfl #[.string (⟨#[48, 49]⟩ : ByteArray), .int .i64 0] rfl (by (try simp only [List.map_toArray, List.map_cons, List.map_nil]); first | done | rfl | (simp only [List.length_drop, List.length_take]; rfl)) ?_; (with_reducible refine (num_Number.calls (⟨#[48, 49]⟩ : ByteArray) 0 t135 t136 false _ A2.out).mono ?_); rintro e w30 ⟨rfl, hb⟩; refine ⟨_, rfl, ?_⟩; have n0_ := Aside0.mk (below_step (by repeat (first | (with_reducible first | exact HB.out | apply below_alloc | apply pw_below_drewN | apply below_drew1) | exact HB.out)) hb); clear HB; have HB := n0_; clear n0_; (try clear hb); (try clear hb2); (try clear hk); (try clear hi)) | ((with_reducible refine gate_callee (f := 24) rfl ?_); refine goesL_ (some 24) rfl rfl Try.func24 (by kernel_rfl) rfl #[.string (⟨#[49, 46]⟩ : ByteArray), .int .i64 0] rfl (by (try simp only [List.map_toArray, List.map_cons, List.map_nil]); first | done | rfl | (simp only [List.length_drop, List.length_take]; rfl)) ?_; (with_reducible refine (num_Number.calls (⟨#[49, 46]⟩ : ByteArray) 0 t138 t139 false _ A3.out).mono ?_); rintro e w31 ⟨rfl, hb⟩; refine ⟨_, rfl, ?_⟩; have n0_ := Aside0.mk (below_step (by repeat (first | (with_reducible first | exact HB.out | apply below_alloc | apply pw_below_drewN | apply below_drew1) | exact HB.out)) hb); clear HB; have HB := n0_; clear n0_; (try clear hb); (try clear hb2); (try clear hk); (try clear hi)) | ((with_reducible refine gate_callee (f := 24) rfl ?_); refine goesL_ (some 29) rfl rfl Try.func24 (by kernel_rfl) rfl #[.string (⟨#[49, 97]⟩ : ByteArray), .int .i64 0] rfl (by (try simp only [List.map_toArray, List.map_cons, List.map_nil]); first | done | rfl | (simp only [List.length_drop, List.length_take]; rfl)) ?_; (with_reducible refine (num_Number.calls (⟨#[49, 97]⟩ : ByteArray) 0 t141 t142 false _ A4.out).mono ?_); rintro e w32 ⟨rfl, hb⟩; refine ⟨_, rfl, ?_⟩; have n0_ := Aside0.mk (below_step (by repeat (first | (with_reducible first | exact HB.out | apply below_alloc | apply pw_below_drewN | apply below_drew1) | exact HB.out)) hb); clear HB; have HB := n0_; clear n0_; (try clear hb); (try clear hb2); (try clear hk); (try clear hi)) | (go_at_call 27; (with_reducible refine (num_Whole.calls (⟨#[48]⟩ : ByteArray) true _ A26.out).mono ?_); rintro e w33 ⟨rfl, hb⟩; have n0_ := Aside0.mk (below_step (by repeat (first | (with_reducible first | exact HB.out | apply below_alloc | apply pw_below_drewN | apply below_drew1) | exact HB.out)) hb); clear HB; have HB := n0_; clear n0_; (try clear hb); (try clear hb2); (try clear hk); (try clear hi)) | (go_at_call 27; (with_reducible refine (num_Whole.calls (⟨#[48, 32]⟩ : ByteArray) t145 _ A28.out).mono ?_); rintro e w34 ⟨rfl, hb⟩; have n0_ := Aside0.mk (below_step (by repeat (first | (with_reducible first | exact HB.out | apply below_alloc | apply pw_below_drewN | apply below_drew1) | exact HB.out)) hb); clear HB; have HB := n0_; clear n0_; (try clear hb); (try clear hb2); (try clear hk); (try clear hi)))
                      go_ret
                      exact ⟨by first | rfl | (simp [errW_none, errW_some] <;> rfl) | (simp [*, errW_none, errW_some] <;> rfl), by repeat (first | (with_reducible first | exact HB.out | apply below_alloc | apply pw_below_drewN | apply below_drew1) | exact HB.out)⟩
                    · replace c27 := Bool.eq_false_iff.mpr c27
                      subst c27
                      have H1 : (some false) = some r := by rw [if_neg (show ¬ (false = true) by decide)] at H; exact H
                      clear H
                      have H := H1
                      clear H1
                      obtain rfl := Option.some.inj H
                      go_enter Try.func23, Try.ntmps23
                      go_wp2_with (first | ((with_reducible refine gate_callee (f := 24) rfl ?_); refine goesL_ (some 14) rfl rfl Try.func24 (by kernel_rfl) rfl #[.string (⟨#[45, 49, 50, 46, 53, 101, 51]⟩ : ByteArray), .int .i64 0] rfl (by (try simp only [List.map_toArray, List.map_cons, List.map_nil]); first | done | rfl | (simp only [List.length_drop, List.length_take]; rfl)) ?_; (with_reducible refine (num_Number.calls (⟨#[45, 49, 50, 46, 53, 101, 51]⟩ : ByteArray) 0 t132 t133 true _ A1.out).mono ?_); rintro e w35 ⟨rfl, hb⟩; refine ⟨_, rfl, ?_⟩; have n0_ := Aside0.mk (below_step (by repeat (first | (with_reducible first | exact HB.out | apply below_alloc | apply pw_below_drewN | apply below_drew1) | exact HB.out)) hb); clear HB; have HB := n0_; clear n0_; (try clear hb); (try clear hb2); (try clear hk); (try clear hi)) | ((with_reducible refine gate_callee (f := 24) rfl ?_); refine goesL_ (some 19) rfl rfl Try.func24 (by kernel_rfl) rfl #[.string (⟨#[48, 49]⟩ : ByteArray), .int .i64 0] rfl (by (try simp only [List.map_toArray, List.map_cons, List.map_nil]); first | done | rfl | (simp only [List.length_drop, List.length_take]; rfl)) ?_; (with_reducible refine (num_Number.calls (⟨#[48, 49]⟩ : ByteArray) 0 t135 t136 false _ A2.out).mono ?_); rintro e w36 ⟨rfl, hb⟩; refine ⟨_, rfl, ?_⟩; have n0_ := Aside0.mk (below_step (by repeat (first | (with_reducible first | exact HB.out | apply below_alloc | apply pw_below_drewN | apply below_drew1) | exact HB.out)) hb); clear HB; have HB := n0_; clear n0_; (try clear hb); (try clear hb2); (try clear hk); (try clear hi)) | ((with_reducible refine gate_callee (f := 24) rfl ?_); refine goesL_ (some 24) rfl rfl Try.func24 (by kernel_rfl) rfl #[.string (⟨#[49, 46]⟩ : ByteArray), .int .i64 0] rfl (by (try simp only [List.map_toArray, List.map_cons, List.map_nil]); first | done | rfl | (simp only [List.length_drop, List.length_take]; rfl)) ?_; (with_reducible refine (num_Number.calls (⟨#[49, 46]⟩ : ByteArray) 0 t138 t139 false _ A3.out).mono ?_); rintro e w37 ⟨rfl, hb⟩; refine ⟨_, rfl, ?_⟩; have n0_ := Aside0.mk (below_step (by repeat (first | (with_reducible first | exact HB.out | apply below_alloc | apply pw_below_drewN | apply below_drew1) | exact HB.out)) hb); clear HB; have HB := n0_; clear n0_; (try clear hb); (try clear hb2); (try clear hk); (try clear hi)) | ((with_reducible refine gate_callee (f := 24) rfl ?_); refine goesL_ (some 29) rfl rfl Try.func24 (by kernel_rfl) rfl #[.string (⟨#[49, 97]⟩ : ByteArray), .int .i64 0] rfl (by (try simp only [List.map_toArray, List.map_cons, List.map_nil]); first | done | rfl | (simp only [List.length_drop, List.length_take]; rfl)) ?_; (with_reducible refine (num_Number.calls (⟨#[49, 97]⟩ : ByteArray) 0 t141 t142 false _ A4.out).mono ?_); rintro e w38 ⟨rfl, hb⟩; refine ⟨_, rfl, ?_⟩; have n0_ := Aside0.mk (below_step (by repeat (first | (with_reducible first | exact HB.out | apply below_alloc | apply pw_below_drewN | apply below_drew1) | exact HB.out)) hb); clear HB; have HB := n0_; clear n0_; (try clear hb); (try clear hb2); (try clear hk); (try clear hi)) | (go_at_call 27; (with_reducible refine (num_Whole.calls (⟨#[48]⟩ : ByteArray) false _ A26.out).mono ?_); rintro e w39 ⟨rfl, hb⟩; have n0_ := Aside0.mk (below_step (by repeat (first | (with_reducible first | exact HB.out | apply below_alloc | apply pw_below_drewN | apply below_drew1) | exact HB.out)) hb); clear HB; have HB := n0_; clear n0_; (try clear hb); (try clear hb2); (try clear hk); (try clear hi)))
                      go_ret
                      exact ⟨by first | rfl | (simp [errW_none, errW_some] <;> rfl) | (simp [*, errW_none, errW_some] <;> rfl), by repeat (first | (with_reducible first | exact HB.out | apply below_alloc | apply pw_below_drewN | apply below_drew1) | exact HB.out)⟩
                  · rw [if_neg c25] at H
                    have c25b0 : (t142 == 1) = false := beq_eq_false_iff_ne.mpr c25
                    have c25b1 : (t142 != 1) = true := bne_iff_ne.mpr c25
                    obtain rfl := Option.some.inj H
                    go_enter Try.func23, Try.ntmps23
                    go_wp2_with (first | ((with_reducible refine gate_callee (f := 24) rfl ?_); refine goesL_ (some 14) rfl rfl Try.func24 (by kernel_rfl) rfl #[.string (⟨#[45, 49, 50, 46, 53, 101, 51]⟩ : ByteArray), .int .i64 0] rfl (by (try simp only [List.map_toArray, List.map_cons, List.map_nil]); first | done | rfl | (simp only [List.length_drop, List.length_take]; rfl)) ?_; (with_reducible refine (num_Number.calls (⟨#[45, 49, 50, 46, 53, 101, 51]⟩ : ByteArray) 0 t132 t133 true _ A1.out).mono ?_); rintro e w40 ⟨rfl, hb⟩; refine ⟨_, rfl, ?_⟩; have n0_ := Aside0.mk (below_step (by repeat (first | (with_reducible first | exact HB.out | apply below_alloc | apply pw_below_drewN | apply below_drew1) | exact HB.out)) hb); clear HB; have HB := n0_; clear n0_; (try clear hb); (try clear hb2); (try clear hk); (try clear hi)) | ((with_reducible refine gate_callee (f := 24) rfl ?_); refine goesL_ (some 19) rfl rfl Try.func24 (by kernel_rfl) rfl #[.string (⟨#[48, 49]⟩ : ByteArray), .int .i64 0] rfl (by (try simp only [List.map_toArray, List.map_cons, List.map_nil]); first | done | rfl | (simp only [List.length_drop, List.length_take]; rfl)) ?_; (with_reducible refine (num_Number.calls (⟨#[48, 49]⟩ : ByteArray) 0 t135 t136 false _ A2.out).mono ?_); rintro e w41 ⟨rfl, hb⟩; refine ⟨_, rfl, ?_⟩; have n0_ := Aside0.mk (below_step (by repeat (first | (with_reducible first | exact HB.out | apply below_alloc | apply pw_below_drewN | apply below_drew1) | exact HB.out)) hb); clear HB; have HB := n0_; clear n0_; (try clear hb); (try clear hb2); (try clear hk); (try clear hi)) | ((with_reducible refine gate_callee (f := 24) rfl ?_); refine goesL_ (some 24) rfl rfl Try.func24 (by kernel_rfl) rfl #[.string (⟨#[49, 46]⟩ : ByteArray), .int .i64 0] rfl (by (try simp only [List.map_toArray, List.map_cons, List.map_nil]); first | done | rfl | (simp only [List.length_drop, List.length_take]; rfl)) ?_; (with_reducible refine (num_Number.calls (⟨#[49, 46]⟩ : ByteArray) 0 t138 t139 false _ A3.out).mono ?_); rintro e w42 ⟨rfl, hb⟩; refine ⟨_, rfl, ?_⟩; have n0_ := Aside0.mk (below_step (by repeat (first | (with_reducible first | exact HB.out | apply below_alloc | apply pw_below_drewN | apply below_drew1) | exact HB.out)) hb); clear HB; have HB := n0_; clear n0_; (try clear hb); (try clear hb2); (try clear hk); (try clear hi)) | ((with_reducible refine gate_callee (f := 24) rfl ?_); refine goesL_ (some 29) rfl rfl Try.func24 (by kernel_rfl) rfl #[.string (⟨#[49, 97]⟩ : ByteArray), .int .i64 0] rfl (by (try simp only [List.map_toArray, List.map_cons, List.map_nil]); first | done | rfl | (simp only [List.length_drop, List.length_take]; rfl)) ?_; (with_reducible refine (num_Number.calls (⟨#[49, 97]⟩ : ByteArray) 0 t141 t142 false _ A4.out).mono ?_); rintro e w43 ⟨rfl, hb⟩; refine ⟨_, rfl, ?_⟩; have n0_ := Aside0.mk (below_step (by repeat (first | (with_reducible first | exact HB.out | apply below_alloc | apply pw_below_drewN | apply below_drew1) | exact HB.out)) hb); clear HB; have HB := n0_; clear n0_; (try clear hb); (try clear hb2); (try clear hk); (try clear hi)))
                    go_ret
                    exact ⟨by first | rfl | (simp [errW_none, errW_some] <;> rfl) | (simp [*, errW_none, errW_some] <;> rfl), by repeat (first | (with_reducible first | exact HB.out | apply below_alloc | apply pw_below_drewN | apply below_drew1) | exact HB.out)⟩
              · rw [if_neg c19] at H
                have c19b0 : (t139 == 2) = false := beq_eq_false_iff_ne.mpr c19
                have c19b1 : (t139 != 2) = true := bne_iff_ne.mpr c19
                obtain rfl := Option.some.inj H
                go_enter Try.func23, Try.ntmps23
                go_wp2_with (first | ((with_reducible refine gate_callee (f := 24) rfl ?_); refine goesL_ (some 14) rfl rfl Try.func24 (by kernel_rfl) rfl #[.string (⟨#[45, 49, 50, 46, 53, 101, 51]⟩ : ByteArray), .int .i64 0] rfl (by (try simp only [List.map_toArray, List.map_cons, List.map_nil]); first | done | rfl | (simp only [List.length_drop, List.length_take]; rfl)) ?_; (with_reducible refine (num_Number.calls (⟨#[45, 49, 50, 46, 53, 101, 51]⟩ : ByteArray) 0 t132 t133 true _ A1.out).mono ?_); rintro e w44 ⟨rfl, hb⟩; refine ⟨_, rfl, ?_⟩; have n0_ := Aside0.mk (below_step (by repeat (first | (with_reducible first | exact HB.out | apply below_alloc | apply pw_below_drewN | apply below_drew1) | exact HB.out)) hb); clear HB; have HB := n0_; clear n0_; (try clear hb); (try clear hb2); (try clear hk); (try clear hi)) | ((with_reducible refine gate_callee (f := 24) rfl ?_); refine goesL_ (some 19) rfl rfl Try.func24 (by kernel_rfl) rfl #[.string (⟨#[48, 49]⟩ : ByteArray), .int .i64 0] rfl (by (try simp only [List.map_toArray, List.map_cons, List.map_nil]); first | done | rfl | (simp only [List.length_drop, List.length_take]; rfl)) ?_; (with_reducible refine (num_Number.calls (⟨#[48, 49]⟩ : ByteArray) 0 t135 t136 false _ A2.out).mono ?_); rintro e w45 ⟨rfl, hb⟩; refine ⟨_, rfl, ?_⟩; have n0_ := Aside0.mk (below_step (by repeat (first | (with_reducible first | exact HB.out | apply below_alloc | apply pw_below_drewN | apply below_drew1) | exact HB.out)) hb); clear HB; have HB := n0_; clear n0_; (try clear hb); (try clear hb2); (try clear hk); (try clear hi)) | ((with_reducible refine gate_callee (f := 24) rfl ?_); refine goesL_ (some 24) rfl rfl Try.func24 (by kernel_rfl) rfl #[.string (⟨#[49, 46]⟩ : ByteArray), .int .i64 0] rfl (by (try simp only [List.map_toArray, List.map_cons, List.map_nil]); first | done | rfl | (simp only [List.length_drop, List.length_take]; rfl)) ?_; (with_reducible refine (num_Number.calls (⟨#[49, 46]⟩ : ByteArray) 0 t138 t139 false _ A3.out).mono ?_); rintro e w46 ⟨rfl, hb⟩; refine ⟨_, rfl, ?_⟩; have n0_ := Aside0.mk (below_step (by repeat (first | (with_reducible first | exact HB.out | apply below_alloc | apply pw_below_drewN | apply below_drew1) | exact HB.out)) hb); clear HB; have HB := n0_; clear n0_; (try clear hb); (try clear hb2); (try clear hk); (try clear hi)) | ((with_reducible refine gate_callee (f := 24) rfl ?_); refine goesL_ (some 29) rfl rfl Try.func24 (by kernel_rfl) rfl #[.string (⟨#[49, 97]⟩ : ByteArray), .int .i64 0] rfl (by (try simp only [List.map_toArray, List.map_cons, List.map_nil]); first | done | rfl | (simp only [List.length_drop, List.length_take]; rfl)) ?_; (with_reducible refine (num_Number.calls (⟨#[49, 97]⟩ : ByteArray) 0 t141 t142 t143 _ A4.out).mono ?_); rintro e w47 ⟨rfl, hb⟩; refine ⟨_, rfl, ?_⟩; have n0_ := Aside0.mk (below_step (by repeat (first | (with_reducible first | exact HB.out | apply below_alloc | apply pw_below_drewN | apply below_drew1) | exact HB.out)) hb); clear HB; have HB := n0_; clear n0_; (try clear hb); (try clear hb2); (try clear hk); (try clear hi)))
                go_ret
                exact ⟨by first | rfl | (simp [errW_none, errW_some] <;> rfl) | (simp [*, errW_none, errW_some] <;> rfl), by repeat (first | (with_reducible first | exact HB.out | apply below_alloc | apply pw_below_drewN | apply below_drew1) | exact HB.out)⟩
          · rw [if_neg c13] at H
            have c13b0 : (t136 == 1) = false := beq_eq_false_iff_ne.mpr c13
            have c13b1 : (t136 != 1) = true := bne_iff_ne.mpr c13
            obtain rfl := Option.some.inj H
            go_enter Try.func23, Try.ntmps23
            go_wp2_with (first | ((with_reducible refine gate_callee (f := 24) rfl ?_); refine goesL_ (some 14) rfl rfl Try.func24 (by kernel_rfl) rfl #[.string (⟨#[45, 49, 50, 46, 53, 101, 51]⟩ : ByteArray), .int .i64 0] rfl (by (try simp only [List.map_toArray, List.map_cons, List.map_nil]); first | done | rfl | (simp only [List.length_drop, List.length_take]; rfl)) ?_; (with_reducible refine (num_Number.calls (⟨#[45, 49, 50, 46, 53, 101, 51]⟩ : ByteArray) 0 t132 t133 true _ A1.out).mono ?_); rintro e w48 ⟨rfl, hb⟩; refine ⟨_, rfl, ?_⟩; have n0_ := Aside0.mk (below_step (by repeat (first | (with_reducible first | exact HB.out | apply below_alloc | apply pw_below_drewN | apply below_drew1) | exact HB.out)) hb); clear HB; have HB := n0_; clear n0_; (try clear hb); (try clear hb2); (try clear hk); (try clear hi)) | ((with_reducible refine gate_callee (f := 24) rfl ?_); refine goesL_ (some 19) rfl rfl Try.func24 (by kernel_rfl) rfl #[.string (⟨#[48, 49]⟩ : ByteArray), .int .i64 0] rfl (by (try simp only [List.map_toArray, List.map_cons, List.map_nil]); first | done | rfl | (simp only [List.length_drop, List.length_take]; rfl)) ?_; (with_reducible refine (num_Number.calls (⟨#[48, 49]⟩ : ByteArray) 0 t135 t136 false _ A2.out).mono ?_); rintro e w49 ⟨rfl, hb⟩; refine ⟨_, rfl, ?_⟩; have n0_ := Aside0.mk (below_step (by repeat (first | (with_reducible first | exact HB.out | apply below_alloc | apply pw_below_drewN | apply below_drew1) | exact HB.out)) hb); clear HB; have HB := n0_; clear n0_; (try clear hb); (try clear hb2); (try clear hk); (try clear hi)) | ((with_reducible refine gate_callee (f := 24) rfl ?_); refine goesL_ (some 24) rfl rfl Try.func24 (by kernel_rfl) rfl #[.string (⟨#[49, 46]⟩ : ByteArray), .int .i64 0] rfl (by (try simp only [List.map_toArray, List.map_cons, List.map_nil]); first | done | rfl | (simp only [List.length_drop, List.length_take]; rfl)) ?_; (with_reducible refine (num_Number.calls (⟨#[49, 46]⟩ : ByteArray) 0 t138 t139 t140 _ A3.out).mono ?_); rintro e w50 ⟨rfl, hb⟩; refine ⟨_, rfl, ?_⟩; have n0_ := Aside0.mk (below_step (by repeat (first | (with_reducible first | exact HB.out | apply below_alloc | apply pw_below_drewN | apply below_drew1) | exact HB.out)) hb); clear HB; have HB := n0_; clear n0_; (try clear hb); (try clear hb2); (try clear hk); (try clear hi)) | ((with_reducible refine gate_callee (f := 24) rfl ?_); refine goesL_ (some 29) rfl rfl Try.func24 (by kernel_rfl) rfl #[.string (⟨#[49, 97]⟩ : ByteArray), .int .i64 0] rfl (by (try simp only [List.map_toArray, List.map_cons, List.map_nil]); first | done | rfl | (simp only [List.length_drop, List.length_take]; rfl)) ?_; (with_reducible refine (num_Number.calls (⟨#[49, 97]⟩ : ByteArray) 0 t141 t142 t143 _ A4.out).mono ?_); rintro e w51 ⟨rfl, hb⟩; refine ⟨_, rfl, ?_⟩; have n0_ := Aside0.mk (below_step (by repeat (first | (with_reducible first | exact HB.out | apply below_alloc | apply pw_below_drewN | apply below_drew1) | exact HB.out)) hb); clear HB; have HB := n0_; clear n0_; (try clear hb); (try clear hb2); (try clear hk); (try clear hi)))
            go_ret
            exact ⟨by first | rfl | (simp [errW_none, errW_some] <;> rfl) | (simp [*, errW_none, errW_some] <;> rfl), by repeat (first | (with_reducible first | exact HB.out | apply below_alloc | apply pw_below_drewN | apply below_drew1) | exact HB.out)⟩
      · rw [if_neg c7] at H
        have c7b0 : (t133 == 7) = false := beq_eq_false_iff_ne.mpr c7
        have c7b1 : (t133 != 7) = true := bne_iff_ne.mpr c7
        obtain rfl := Option.some.inj H
        go_enter Try.func23, Try.ntmps23
        go_wp2_with (first | ((with_reducible refine gate_callee (f := 24) rfl ?_); refine goesL_ (some 14) rfl rfl Try.func24 (by kernel_rfl) rfl #[.string (⟨#[45, 49, 50, 46, 53, 101, 51]⟩ : ByteArray), .int .i64 0] rfl (by (try simp only [List.map_toArray, List.map_cons, List.map_nil]); first | done | rfl | (simp only [List.length_drop, List.length_take]; rfl)) ?_; (with_reducible refine (num_Number.calls (⟨#[45, 49, 50, 46, 53, 101, 51]⟩ : ByteArray) 0 t132 t133 true _ A1.out).mono ?_); rintro e w52 ⟨rfl, hb⟩; refine ⟨_, rfl, ?_⟩; have n0_ := Aside0.mk (below_step (by repeat (first | (with_reducible first | exact HB.out | apply below_alloc | apply pw_below_drewN | apply below_drew1) | exact HB.out)) hb); clear HB; have HB := n0_; clear n0_; (try clear hb); (try clear hb2); (try clear hk); (try clear hi)) | ((with_reducible refine gate_callee (f := 24) rfl ?_); refine goesL_ (some 19) rfl rfl Try.func24 (by kernel_rfl) rfl #[.string (⟨#[48, 49]⟩ : ByteArray), .int .i64 0] rfl (by (try simp only [List.map_toArray, List.map_cons, List.map_nil]); first | done | rfl | (simp only [List.length_drop, List.length_take]; rfl)) ?_; (with_reducible refine (num_Number.calls (⟨#[48, 49]⟩ : ByteArray) 0 t135 t136 t137 _ A2.out).mono ?_); rintro e w53 ⟨rfl, hb⟩; refine ⟨_, rfl, ?_⟩; have n0_ := Aside0.mk (below_step (by repeat (first | (with_reducible first | exact HB.out | apply below_alloc | apply pw_below_drewN | apply below_drew1) | exact HB.out)) hb); clear HB; have HB := n0_; clear n0_; (try clear hb); (try clear hb2); (try clear hk); (try clear hi)) | ((with_reducible refine gate_callee (f := 24) rfl ?_); refine goesL_ (some 24) rfl rfl Try.func24 (by kernel_rfl) rfl #[.string (⟨#[49, 46]⟩ : ByteArray), .int .i64 0] rfl (by (try simp only [List.map_toArray, List.map_cons, List.map_nil]); first | done | rfl | (simp only [List.length_drop, List.length_take]; rfl)) ?_; (with_reducible refine (num_Number.calls (⟨#[49, 46]⟩ : ByteArray) 0 t138 t139 t140 _ A3.out).mono ?_); rintro e w54 ⟨rfl, hb⟩; refine ⟨_, rfl, ?_⟩; have n0_ := Aside0.mk (below_step (by repeat (first | (with_reducible first | exact HB.out | apply below_alloc | apply pw_below_drewN | apply below_drew1) | exact HB.out)) hb); clear HB; have HB := n0_; clear n0_; (try clear hb); (try clear hb2); (try clear hk); (try clear hi)) | ((with_reducible refine gate_callee (f := 24) rfl ?_); refine goesL_ (some 29) rfl rfl Try.func24 (by kernel_rfl) rfl #[.string (⟨#[49, 97]⟩ : ByteArray), .int .i64 0] rfl (by (try simp only [List.map_toArray, List.map_cons, List.map_nil]); first | done | rfl | (simp only [List.length_drop, List.length_take]; rfl)) ?_; (with_reducible refine (num_Number.calls (⟨#[49, 97]⟩ : ByteArray) 0 t141 t142 t143 _ A4.out).mono ?_); rintro e w55 ⟨rfl, hb⟩; refine ⟨_, rfl, ?_⟩; have n0_ := Aside0.mk (below_step (by repeat (first | (with_reducible first | exact HB.out | apply below_alloc | apply pw_below_drewN | apply below_drew1) | exact HB.out)) hb); clear HB; have HB := n0_; clear n0_; (try clear hb); (try clear hb2); (try clear hk); (try clear hi)))
        go_ret
        exact ⟨by first | rfl | (simp [errW_none, errW_some] <;> rfl) | (simp [*, errW_none, errW_some] <;> rfl), by repeat (first | (with_reducible first | exact HB.out | apply below_alloc | apply pw_below_drewN | apply below_drew1) | exact HB.out)⟩
    · rw [if_neg c6] at H
      have c6b0 : (t132 == 4) = false := beq_eq_false_iff_ne.mpr c6
      have c6b1 : (t132 != 4) = true := bne_iff_ne.mpr c6
      obtain rfl := Option.some.inj H
      go_enter Try.func23, Try.ntmps23
      go_wp2_with (first | ((with_reducible refine gate_callee (f := 24) rfl ?_); refine goesL_ (some 14) rfl rfl Try.func24 (by kernel_rfl) rfl #[.string (⟨#[45, 49, 50, 46, 53, 101, 51]⟩ : ByteArray), .int .i64 0] rfl (by (try simp only [List.map_toArray, List.map_cons, List.map_nil]); first | done | rfl | (simp only [List.length_drop, List.length_take]; rfl)) ?_; (with_reducible refine (num_Number.calls (⟨#[45, 49, 50, 46, 53, 101, 51]⟩ : ByteArray) 0 t132 t133 true _ A1.out).mono ?_); rintro e w56 ⟨rfl, hb⟩; refine ⟨_, rfl, ?_⟩; have n0_ := Aside0.mk (below_step (by repeat (first | (with_reducible first | exact HB.out | apply below_alloc | apply pw_below_drewN | apply below_drew1) | exact HB.out)) hb); clear HB; have HB := n0_; clear n0_; (try clear hb); (try clear hb2); (try clear hk); (try clear hi)) | ((with_reducible refine gate_callee (f := 24) rfl ?_); refine goesL_ (some 19) rfl rfl Try.func24 (by kernel_rfl) rfl #[.string (⟨#[48, 49]⟩ : ByteArray), .int .i64 0] rfl (by (try simp only [List.map_toArray, List.map_cons, List.map_nil]); first | done | rfl | (simp only [List.length_drop, List.length_take]; rfl)) ?_; (with_reducible refine (num_Number.calls (⟨#[48, 49]⟩ : ByteArray) 0 t135 t136 t137 _ A2.out).mono ?_); rintro e w57 ⟨rfl, hb⟩; refine ⟨_, rfl, ?_⟩; have n0_ := Aside0.mk (below_step (by repeat (first | (with_reducible first | exact HB.out | apply below_alloc | apply pw_below_drewN | apply below_drew1) | exact HB.out)) hb); clear HB; have HB := n0_; clear n0_; (try clear hb); (try clear hb2); (try clear hk); (try clear hi)) | ((with_reducible refine gate_callee (f := 24) rfl ?_); refine goesL_ (some 24) rfl rfl Try.func24 (by kernel_rfl) rfl #[.string (⟨#[49, 46]⟩ : ByteArray), .int .i64 0] rfl (by (try simp only [List.map_toArray, List.map_cons, List.map_nil]); first | done | rfl | (simp only [List.length_drop, List.length_take]; rfl)) ?_; (with_reducible refine (num_Number.calls (⟨#[49, 46]⟩ : ByteArray) 0 t138 t139 t140 _ A3.out).mono ?_); rintro e w58 ⟨rfl, hb⟩; refine ⟨_, rfl, ?_⟩; have n0_ := Aside0.mk (below_step (by repeat (first | (with_reducible first | exact HB.out | apply below_alloc | apply pw_below_drewN | apply below_drew1) | exact HB.out)) hb); clear HB; have HB := n0_; clear n0_; (try clear hb); (try clear hb2); (try clear hk); (try clear hi)) | ((with_reducible refine gate_callee (f := 24) rfl ?_); refine goesL_ (some 29) rfl rfl Try.func24 (by kernel_rfl) rfl #[.string (⟨#[49, 97]⟩ : ByteArray), .int .i64 0] rfl (by (try simp only [List.map_toArray, List.map_cons, List.map_nil]); first | done | rfl | (simp only [List.length_drop, List.length_take]; rfl)) ?_; (with_reducible refine (num_Number.calls (⟨#[49, 97]⟩ : ByteArray) 0 t141 t142 t143 _ A4.out).mono ?_); rintro e w59 ⟨rfl, hb⟩; refine ⟨_, rfl, ?_⟩; have n0_ := Aside0.mk (below_step (by repeat (first | (with_reducible first | exact HB.out | apply below_alloc | apply pw_below_drewN | apply below_drew1) | exact HB.out)) hb); clear HB; have HB := n0_; clear n0_; (try clear hb); (try clear hb2); (try clear hk); (try clear hi)))
      go_ret
      exact ⟨by first | rfl | (simp [errW_none, errW_some] <;> rfl) | (simp [*, errW_none, errW_some] <;> rfl), by repeat (first | (with_reducible first | exact HB.out | apply below_alloc | apply pw_below_drewN | apply below_drew1) | exact HB.out)⟩
  · replace c5 := Bool.eq_false_iff.mpr c5
    subst c5
    have H1 : (some false) = some r := by rw [if_neg (show ¬ (false = true) by decide)] at H; exact H
    clear H
    have H := H1
    clear H1
    obtain rfl := Option.some.inj H
    go_enter Try.func23, Try.ntmps23
    go_wp2_with (first | ((with_reducible refine gate_callee (f := 24) rfl ?_); refine goesL_ (some 14) rfl rfl Try.func24 (by kernel_rfl) rfl #[.string (⟨#[45, 49, 50, 46, 53, 101, 51]⟩ : ByteArray), .int .i64 0] rfl (by (try simp only [List.map_toArray, List.map_cons, List.map_nil]); first | done | rfl | (simp only [List.length_drop, List.length_take]; rfl)) ?_; (with_reducible refine (num_Number.calls (⟨#[45, 49, 50, 46, 53, 101, 51]⟩ : ByteArray) 0 t132 t133 false _ A1.out).mono ?_); rintro e w60 ⟨rfl, hb⟩; refine ⟨_, rfl, ?_⟩; have n0_ := Aside0.mk (below_step (by repeat (first | (with_reducible first | exact HB.out | apply below_alloc | apply pw_below_drewN | apply below_drew1) | exact HB.out)) hb); clear HB; have HB := n0_; clear n0_; (try clear hb); (try clear hb2); (try clear hk); (try clear hi)) | ((with_reducible refine gate_callee (f := 24) rfl ?_); refine goesL_ (some 19) rfl rfl Try.func24 (by kernel_rfl) rfl #[.string (⟨#[48, 49]⟩ : ByteArray), .int .i64 0] rfl (by (try simp only [List.map_toArray, List.map_cons, List.map_nil]); first | done | rfl | (simp only [List.length_drop, List.length_take]; rfl)) ?_; (with_reducible refine (num_Number.calls (⟨#[48, 49]⟩ : ByteArray) 0 t135 t136 t137 _ A2.out).mono ?_); rintro e w61 ⟨rfl, hb⟩; refine ⟨_, rfl, ?_⟩; have n0_ := Aside0.mk (below_step (by repeat (first | (with_reducible first | exact HB.out | apply below_alloc | apply pw_below_drewN | apply below_drew1) | exact HB.out)) hb); clear HB; have HB := n0_; clear n0_; (try clear hb); (try clear hb2); (try clear hk); (try clear hi)) | ((with_reducible refine gate_callee (f := 24) rfl ?_); refine goesL_ (some 24) rfl rfl Try.func24 (by kernel_rfl) rfl #[.string (⟨#[49, 46]⟩ : ByteArray), .int .i64 0] rfl (by (try simp only [List.map_toArray, List.map_cons, List.map_nil]); first | done | rfl | (simp only [List.length_drop, List.length_take]; rfl)) ?_; (with_reducible refine (num_Number.calls (⟨#[49, 46]⟩ : ByteArray) 0 t138 t139 t140 _ A3.out).mono ?_); rintro e w62 ⟨rfl, hb⟩; refine ⟨_, rfl, ?_⟩; have n0_ := Aside0.mk (below_step (by repeat (first | (with_reducible first | exact HB.out | apply below_alloc | apply pw_below_drewN | apply below_drew1) | exact HB.out)) hb); clear HB; have HB := n0_; clear n0_; (try clear hb); (try clear hb2); (try clear hk); (try clear hi)) | ((with_reducible refine gate_callee (f := 24) rfl ?_); refine goesL_ (some 29) rfl rfl Try.func24 (by kernel_rfl) rfl #[.string (⟨#[49, 97]⟩ : ByteArray), .int .i64 0] rfl (by (try simp only [List.map_toArray, List.map_cons, List.map_nil]); first | done | rfl | (simp only [List.length_drop, List.length_take]; rfl)) ?_; (with_reducible refine (num_Number.calls (⟨#[49, 97]⟩ : ByteArray) 0 t141 t142 t143 _ A4.out).mono ?_); rintro e w63 ⟨rfl, hb⟩; refine ⟨_, rfl, ?_⟩; have n0_ := Aside0.mk (below_step (by repeat (first | (with_reducible first | exact HB.out | apply below_alloc | apply pw_below_drewN | apply below_drew1) | exact HB.out)) hb); clear HB; have HB := n0_; clear n0_; (try clear hb); (try clear hb2); (try clear hk); (try clear hi)))
    go_ret
    exact ⟨by first | rfl | (simp [errW_none, errW_some] <;> rfl) | (simp [*, errW_none, errW_some] <;> rfl), by repeat (first | (with_reducible first | exact HB.out | apply below_alloc | apply pw_below_drewN | apply below_drew1) | exact HB.out)⟩

end Go.Proofs.Ytdhncfkbblfokaa.Q
