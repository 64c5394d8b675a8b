-- Printed for this seat by a program of this session (qprint.py), out of the translation; Lean checks it.
import Derived.Test.YthcneciafiaphaaDoorQ0
import Derived.Test.YthcneciafiaphaaDoorQ1
namespace Go.Proofs.YthcneciafiaphaaDoor.Q
open Go.Proofs.YthcneciafiaphaaDoor.G
open Go.RowKit Go.Proofs.YthcneciafiaphaaDoorW.PrintWords Go.Proofs.YthcneciafiaphaaDoorW.PrintLast Go.Proofs.YthcneciafiaphaaDoorW.PrintMore
attribute [local go_sem] max2_int min2_int max_two min_two max_three min_three max_four min_four   -- for this text's walks alone
set_option linter.unusedVariables false
set_option linter.unusedSimpArgs false

/-! ### copperplatelaw07_FoldMoves: function 7 -/
mutual
def copperplatelaw07_FoldMoves.j0 : Nat → List ByteArray → Int → Bool → Bool → Option (Bool)
  | 0, _, _, _, _ => none
  | k + 1, x0, x1, x5, x25 => if x25 = true then (some x5) else (copperplatelaw07_FoldMoves.l0 k x0 x1 (⟨#[]⟩ : ByteArray) (⟨#[]⟩ : ByteArray) 0)
def copperplatelaw07_FoldMoves.l0 : Nat → List ByteArray → Int → ByteArray → ByteArray → Int → Option (Bool)
  | 0, _, _, _, _, _ => none
  | k + 1, x0, x1, x6, x7, x8 => if x8 < (x0.length : Int) then (if (x6.size : Int) > 600 then (copperplatelaw07_FoldMoves.j2 k x0 x1 x6 x7 x8 true) else (if 0 ≤ x8 then ((fold_Lines.f (rdOf ByteArray.empty x0 x8)).bind fun t228 => (copperplatelaw07_FoldMoves.j2 k x0 x1 x6 x7 x8 ((t228.length : Int) != 1))) else (none))) else ((fold_Indent.f x0).bind fun t224 => (if t224 < 0 then (some true) else ((fold_Fold.f x6).bind fun t225 => ((fold_Fold.f x7).bind fun t226 => (some (t225.toList == t226.toList))))))
def copperplatelaw07_FoldMoves.j2 : Nat → List ByteArray → Int → ByteArray → ByteArray → Int → Bool → Option (Bool)
  | 0, _, _, _, _, _, _ => none
  | k + 1, x0, x1, x6, x7, x8, x44 => if x44 = true then (if (x6.size : Int) > 600 then (some true) else (if 0 ≤ x8 then (if x8 < (x0.length : Int) then ((fold_Lines.f (rdOf ByteArray.empty x0 x8)).bind fun t232 => (some (decide ((t232.length : Int) > 1)))) else (none)) else (none))) else (if x8 > 0 then (if x6.size + 1 ≤ 9223372036854775807 then (if x7.size + 1 ≤ 9223372036854775807 then (if 0 ≤ x1 then (if x1 ≤ 20 then (if (x7 ++ (⟨#[10]⟩ : ByteArray)).size + ((⟨#[32, 32, 32, 32, 32, 32, 32, 32, 32, 32, 32, 32, 32, 32, 32, 32, 32, 32, 32, 32]⟩ : ByteArray).extract 0 (x1 : Int).toNat).size ≤ 9223372036854775807 then (if 0 ≤ x8 then (if x8 < (x0.length : Int) then (if (x6 ++ (⟨#[10]⟩ : ByteArray)).size + (rdOf ByteArray.empty x0 x8).size ≤ 9223372036854775807 then (if ((x7 ++ (⟨#[10]⟩ : ByteArray)) ++ ((⟨#[32, 32, 32, 32, 32, 32, 32, 32, 32, 32, 32, 32, 32, 32, 32, 32, 32, 32, 32, 32]⟩ : ByteArray).extract 0 (x1 : Int).toNat)).size + (rdOf ByteArray.empty x0 x8).size ≤ 9223372036854775807 then (copperplatelaw07_FoldMoves.l0 k x0 x1 ((x6 ++ (⟨#[10]⟩ : ByteArray)) ++ (rdOf ByteArray.empty x0 x8)) (((x7 ++ (⟨#[10]⟩ : ByteArray)) ++ ((⟨#[32, 32, 32, 32, 32, 32, 32, 32, 32, 32, 32, 32, 32, 32, 32, 32, 32, 32, 32, 32]⟩ : ByteArray).extract 0 (x1 : Int).toNat)) ++ (rdOf ByteArray.empty x0 x8)) (wrap64 (x8 + 1))) else (none)) else (none)) else (none)) else (none)) else (none)) else (none)) else (none)) else (none)) else (none)) else (if 0 ≤ x8 then (if x8 < (x0.length : Int) then (if x6.size + (rdOf ByteArray.empty x0 x8).size ≤ 9223372036854775807 then (if x7.size + (rdOf ByteArray.empty x0 x8).size ≤ 9223372036854775807 then (copperplatelaw07_FoldMoves.l0 k x0 x1 (x6 ++ (rdOf ByteArray.empty x0 x8)) (x7 ++ (rdOf ByteArray.empty x0 x8)) (wrap64 (x8 + 1))) else (none)) else (none)) else (none)) else (none)))
end
def copperplatelaw07_FoldMoves.f (k : Nat) (l0 : List ByteArray) (a1 : Int) : Option (Bool) := (copperplatelaw07_awake.f).bind fun t223 => (if t223 = true then (if (l0.length : Int) > 60 then (copperplatelaw07_FoldMoves.j0 k l0 a1 t223 true) else (if a1 < 0 then (copperplatelaw07_FoldMoves.j0 k l0 a1 t223 true) else (copperplatelaw07_FoldMoves.j0 k l0 a1 t223 (decide (a1 > 20))))) else (copperplatelaw07_FoldMoves.j0 k l0 a1 t223 true))
theorem copperplatelaw07_FoldMoves.mono_l : ∀ k, (∀ y0 y1 y2 y3, LeO (copperplatelaw07_FoldMoves.j0 k y0 y1 y2 y3) (copperplatelaw07_FoldMoves.j0 (k + 1) y0 y1 y2 y3)) ∧ (∀ y0 y1 y2 y3 y4, LeO (copperplatelaw07_FoldMoves.l0 k y0 y1 y2 y3 y4) (copperplatelaw07_FoldMoves.l0 (k + 1) y0 y1 y2 y3 y4)) ∧ (∀ y0 y1 y2 y3 y4 y5, LeO (copperplatelaw07_FoldMoves.j2 k y0 y1 y2 y3 y4 y5) (copperplatelaw07_FoldMoves.j2 (k + 1) y0 y1 y2 y3 y4 y5))
  | 0 => ⟨fun _ _ _ _ r h => by simp [copperplatelaw07_FoldMoves.j0] at h, fun _ _ _ _ _ r h => by simp [copperplatelaw07_FoldMoves.l0] at h, fun _ _ _ _ _ _ r h => by simp [copperplatelaw07_FoldMoves.j2] at h⟩
  | k + 1 => by
    obtain ⟨ih0, ih1, ih2⟩ := copperplatelaw07_FoldMoves.mono_l k
    refine ⟨?_, ?_, ?_⟩
    · intro y0 y1 y2 y3
      unfold copperplatelaw07_FoldMoves.j0
      repeat' first
      | (with_reducible exact ih0 _ _ _ _)
      | (with_reducible exact ih1 _ _ _ _ _)
      | (with_reducible exact ih2 _ _ _ _ _ _)
      | (with_reducible exact LeO.refl _)
      | (with_reducible exact LeO.none _)
      | (with_reducible refine LeO.ite ?_ ?_)
      | (with_reducible refine LeO.bind ?_ (fun _ => ?_))
      | exact ih0 _ _ _ _
      | exact ih1 _ _ _ _ _
      | exact ih2 _ _ _ _ _ _
      | exact LeO.none _
      | refine LeO.ite ?_ ?_
      | refine LeO.bind ?_ (fun _ => ?_)
    · intro y0 y1 y2 y3 y4
      unfold copperplatelaw07_FoldMoves.l0
      repeat' first
      | (with_reducible exact ih0 _ _ _ _)
      | (with_reducible exact ih1 _ _ _ _ _)
      | (with_reducible exact ih2 _ _ _ _ _ _)
      | (with_reducible exact LeO.refl _)
      | (with_reducible exact LeO.none _)
      | (with_reducible refine LeO.ite ?_ ?_)
      | (with_reducible refine LeO.bind ?_ (fun _ => ?_))
      | exact ih0 _ _ _ _
      | exact ih1 _ _ _ _ _
      | exact ih2 _ _ _ _ _ _
      | exact LeO.none _
      | refine LeO.ite ?_ ?_
      | refine LeO.bind ?_ (fun _ => ?_)
    · intro y0 y1 y2 y3 y4 y5
      unfold copperplatelaw07_FoldMoves.j2
      repeat' first
      | (with_reducible exact ih0 _ _ _ _)
      | (with_reducible exact ih1 _ _ _ _ _)
      | (with_reducible exact ih2 _ _ _ _ _ _)
      | (with_reducible exact LeO.refl _)
      | (with_reducible exact LeO.none _)
      | (with_reducible refine LeO.ite ?_ ?_)
      | (with_reducible refine LeO.bind ?_ (fun _ => ?_))
      | exact ih0 _ _ _ _
      | exact ih1 _ _ _ _ _
      | exact ih2 _ _ _ _ _ _
      | exact LeO.none _
      | refine LeO.ite ?_ ?_
      | refine LeO.bind ?_ (fun _ => ?_)
theorem copperplatelaw07_FoldMoves.mono : ∀ a0 a1 k, LeO (copperplatelaw07_FoldMoves.f k a0 a1) (copperplatelaw07_FoldMoves.f (k + 1) a0 a1) := by
  intro a0 a1 k
  obtain ⟨ih0, ih1, ih2⟩ := copperplatelaw07_FoldMoves.mono_l k
  unfold copperplatelaw07_FoldMoves.f
  repeat' first
      | (with_reducible exact ih0 _ _ _ _)
      | (with_reducible exact ih1 _ _ _ _ _)
      | (with_reducible exact ih2 _ _ _ _ _ _)
      | (with_reducible exact LeO.refl _)
      | (with_reducible exact LeO.none _)
      | (with_reducible refine LeO.ite ?_ ?_)
      | (with_reducible refine LeO.bind ?_ (fun _ => ?_))
      | exact ih0 _ _ _ _
      | exact ih1 _ _ _ _ _
      | exact ih2 _ _ _ _ _ _
      | exact LeO.none _
      | refine LeO.ite ?_ ?_
      | refine LeO.bind ?_ (fun _ => ?_)
set_option maxHeartbeats 8000000 in
set_option maxRecDepth 100000 in
theorem copperplatelaw07_FoldMoves.calls (k : Nat) (A0 : Option Addr) (c0 : Nat) (l0 : List ByteArray) (a1 : Int) (r : Bool) (w : World) (hr0 : Kd.C Kd.string w A0 l0.length l0) (hc0 : l0.length ≤ c0) (h : copperplatelaw07_FoldMoves.f k l0 a1 = some r) :
    Calls Tryd.prog 7 #[.slice A0 l0.length c0, .int .i64 a1] w fun e w' => e = .returned (.bool r) ∧ Below w.heap.size w w' := by
  have HR0 := Aside0.mk hr0
  have HC0 := Aside0.mk hc0
  clear hr0 hc0
  have HB := Aside0.mk (Below.refl w.heap.size w)
  have H : ((copperplatelaw07_awake.f).bind fun t223 => (if t223 = true then (if (l0.length : Int) > 60 then (copperplatelaw07_FoldMoves.j0 k l0 a1 t223 true) else (if a1 < 0 then (copperplatelaw07_FoldMoves.j0 k l0 a1 t223 true) else (copperplatelaw07_FoldMoves.j0 k l0 a1 t223 (decide (a1 > 20))))) else (copperplatelaw07_FoldMoves.j0 k l0 a1 t223 true))) = some r := h
  clear h
  replace H := Option.bind_eq_some_iff.mp H
  obtain ⟨t223, A30, H⟩ := H
  replace H : (if t223 = true then (if (l0.length : Int) > 60 then (copperplatelaw07_FoldMoves.j0 k l0 a1 t223 true) else (if a1 < 0 then (copperplatelaw07_FoldMoves.j0 k l0 a1 t223 true) else (copperplatelaw07_FoldMoves.j0 k l0 a1 t223 (decide (a1 > 20))))) else (copperplatelaw07_FoldMoves.j0 k l0 a1 t223 true)) = some r := H
  have A3 := Aside0.mk A30
  clear A30
  have HC4 := Aside0.mk H
  clear H
  go_enter Tryd.func7, Tryd.ntmps7
  go_upto_region 2 with (first | ((with_reducible refine gate_callee (f := 10) rfl ?_); refine goesL_ (some 10) rfl rfl Tryd.func10 (by kernel_rfl) rfl #[] rfl (by (try simp only [List.map_toArray, List.map_cons, List.map_nil]); first | done | rfl | (simp only [List.length_drop, List.length_take]; rfl)) ?_; (with_reducible refine (copperplatelaw07_awake.calls  t223 _ A3.out).mono ?_); rintro e w5 ⟨rfl, hb⟩; refine ⟨_, rfl, ?_⟩; have n0_ := Aside0.mk (below_step (by repeat (first | (with_reducible first | exact HB.out | apply below_alloc | apply pw_below_drewN | apply below_drew1) | exact HB.out)) hb); clear HB; have HB := n0_; clear n0_; (try clear hb); (try clear hb2); (try clear hk); (try clear hi)))
  (try simp only [Act.put, List.setIfInBounds_toArray, List.set_cons_zero, List.set_cons_succ])
  go_cut [25] (fun v25 wc => ∃ (kq : Nat) (x25_3 : Bool), v25 = .bool x25_3 ∧ Aside0 (copperplatelaw07_FoldMoves.j0 kq l0 a1 t223 x25_3 = some r) ∧ Aside0 (kq ≤ k) ∧ Aside0 (Below w.heap.size w wc))
  case first =>
    have H := HC4.out
    clear HC4
    by_cases c6 : t223 = true
    · subst c6
      have H1 : (if (l0.length : Int) > 60 then (copperplatelaw07_FoldMoves.j0 k l0 a1 true true) else (if a1 < 0 then (copperplatelaw07_FoldMoves.j0 k l0 a1 true true) else (copperplatelaw07_FoldMoves.j0 k l0 a1 true (decide (a1 > 20))))) = some r := by rw [if_pos rfl] at H; exact H
      clear H
      have H := H1
      clear H1
      by_cases c7 : (l0.length : Int) > 60
      · rw [if_pos c7] at H
        have c7b0 : decide (60 < (l0.length : Int)) = true := decide_eq_true c7
        have c7b1 : decide (60 < l0.length) = true := decide_eq_true (by omega)
        clear c7
        (first | rw [c7b0] | (simp only [i64_w, i32_w]; rw [c7b0]) | skip)
        have H' := Aside0.mk H
        clear H
        go_wp2
        go_meet
        case rel => exact ⟨_, (true), (by first | rfl | (simp; done) | (simp [*]; done)), H', ⟨by first | omega | exact Nat.le_refl _⟩, ⟨by repeat (first | (with_reducible first | exact HB.out | apply below_alloc | apply pw_below_drewN | apply below_drew1) | exact HB.out)⟩⟩
      · rw [if_neg c7] at H
        have c7b0 : decide (60 < (l0.length : Int)) = false := decide_eq_false c7
        have c7b1 : decide (60 < l0.length) = false := decide_eq_false (by omega)
        clear c7
        (first | rw [c7b0] | (simp only [i64_w, i32_w]; rw [c7b0]) | skip)
        by_cases c8 : a1 < 0
        · rw [if_pos c8] at H
          have c8b0 : decide (a1 < 0) = true := decide_eq_true c8
          clear c8
          have H' := Aside0.mk H
          clear H
          go_wp2
          go_meet
          case rel => exact ⟨_, (true), (by first | rfl | (simp; done) | (simp [*]; done)), H', ⟨by first | omega | exact Nat.le_refl _⟩, ⟨by repeat (first | (with_reducible first | exact HB.out | apply below_alloc | apply pw_below_drewN | apply below_drew1) | exact HB.out)⟩⟩
        · rw [if_neg c8] at H
          have c8b0 : decide (a1 < 0) = false := decide_eq_false c8
          clear c8
          have H' := Aside0.mk H
          clear H
          go_wp2
          go_meet
          case rel => exact ⟨_, (decide (a1 > 20)), (by first | rfl | (simp; done) | (simp [*]; done)), H', ⟨by first | omega | exact Nat.le_refl _⟩, ⟨by repeat (first | (with_reducible first | exact HB.out | apply below_alloc | apply pw_below_drewN | apply below_drew1) | exact HB.out)⟩⟩
    · replace c6 := Bool.eq_false_iff.mpr c6
      subst c6
      have H1 : (copperplatelaw07_FoldMoves.j0 k l0 a1 false true) = some r := by rw [if_neg (show ¬ (false = true) by decide)] at H; exact H
      clear H
      have H := H1
      clear H1
      have H' := Aside0.mk H
      clear H
      go_wp2
      go_meet
      case rel => exact ⟨_, (true), (by first | rfl | (simp; done) | (simp [*]; done)), H', ⟨by first | omega | exact Nat.le_refl _⟩, ⟨by repeat (first | (with_reducible first | exact HB.out | apply below_alloc | apply pw_below_drewN | apply below_drew1) | exact HB.out)⟩⟩
  case rest =>
    clear HC4
    try clear c1
    try clear p2
    try clear c6
    try clear c7
    try clear c7b0
    try clear c7b1
    try clear c8
    try clear c8b0
    obtain ⟨kq, x25_3, rfl, HA, HJ3, HB⟩ := hcut
    cases kq with
    | zero => exact absurd HA.out (by simp [copperplatelaw07_FoldMoves.j0])
    | succ kj3 =>
      have H := HA.out
      clear HA
      simp only [copperplatelaw07_FoldMoves.j0] at H
      by_cases c9 : x25_3 = true
      · subst c9
        have H1 : (some t223) = some r := by rw [if_pos rfl] at H; exact H
        clear H
        have H := H1
        clear H1
        obtain rfl := Option.some.inj H
        go_wp2
        go_ret
        exact ⟨by first | rfl | (simp [errW_none, errW_some] <;> rfl) | (simp [*, errW_none, errW_some] <;> rfl), by repeat (first | (with_reducible first | exact HB.out | apply below_alloc | apply pw_below_drewN | apply below_drew1) | exact HB.out)⟩
      · replace c9 := Bool.eq_false_iff.mpr c9
        subst c9
        have H1 : (copperplatelaw07_FoldMoves.l0 kj3 l0 a1 (⟨#[]⟩ : ByteArray) (⟨#[]⟩ : ByteArray) 0) = some r := by rw [if_neg (show ¬ (false = true) by decide)] at H; exact H
        clear H
        have H := H1
        clear H1
        have H' := Aside0.mk H
        clear H
        go_wp2
        go_loopg [6, 7, 8] kj3 (fun kq v6 v7 v8 w' => ∃ (x6_2 : ByteArray) (x7_2 : ByteArray) (x8_2 : Int), v6 = .string x6_2 ∧ v7 = .string x7_2 ∧ v8 = .int .i64 x8_2 ∧ Aside0 (copperplatelaw07_FoldMoves.l0 kq l0 a1 x6_2 x7_2 x8_2 = some r) ∧ Aside0 (kq ≤ kj3) ∧ Aside0 (Below w.heap.size w w'))
        case atStart => exact ⟨((⟨#[]⟩ : ByteArray)), ((⟨#[]⟩ : ByteArray)), (0), (by first | rfl | (simp; done) | (simp [*]; done)), (by first | rfl | (simp; done) | (simp [*]; done)), (by first | rfl | (simp; done) | (simp [*]; done)), H', ⟨Nat.le_refl _⟩, ⟨by repeat (first | (with_reducible first | exact HB.out | apply below_alloc | apply pw_below_drewN | apply below_drew1) | exact HB.out)⟩⟩
        case round =>
          clear H'
          try clear c1
          try clear p2
          try clear c6
          try clear c7
          try clear c7b0
          try clear c7b1
          try clear c8
          try clear c8b0
          try clear c9
          try clear p2
          obtain ⟨x6_2, x7_2, x8_2, rfl, rfl, rfl, HA, HK2, HB⟩ := hrel
          cases gk with
          | zero => exact absurd HA.out (by simp [copperplatelaw07_FoldMoves.l0])
          | succ k2 =>
            have H := HA.out
            clear HA
            simp only [copperplatelaw07_FoldMoves.l0] at H
            by_cases c10 : x8_2 < (l0.length : Int)
            · rw [if_pos c10] at H
              have c10b0 : decide (x8_2 < (l0.length : Int)) = true := decide_eq_true c10
              clear c10
              have HC11 := Aside0.mk H
              clear H
              go_upto_region 9 with (fail)
              go_cut [44] (fun v44 wc => ∃ (kq : Nat) (x44_10 : Bool), v44 = .bool x44_10 ∧ Aside0 (copperplatelaw07_FoldMoves.j2 kq l0 a1 x6_2 x7_2 x8_2 x44_10 = some r) ∧ Aside0 (kq ≤ k2) ∧ Aside0 (Below w.heap.size w wc))
              case first =>
                have H := HC11.out
                clear HC11
                by_cases c12 : (x6_2.size : Int) > 600
                · rw [if_pos c12] at H
                  have c12b0 : decide (600 < (x6_2.size : Int)) = true := decide_eq_true c12
                  have c12b1 : decide (600 < x6_2.size) = true := decide_eq_true (by omega)
                  clear c12
                  (first | rw [c12b0] | (simp only [i64_w, i32_w]; rw [c12b0]) | skip)
                  have H' := Aside0.mk H
                  clear H
                  go_wp2
                  go_meet
                  case rel => exact ⟨_, (true), (by first | rfl | (simp; done) | (simp [*]; done)), H', ⟨by have := HJ3.out; have := HK2.out; first | omega | exact Nat.le_refl _⟩, ⟨by repeat (first | (with_reducible first | exact HB.out | apply below_alloc | apply pw_below_drewN | apply below_drew1) | exact HB.out)⟩⟩
                · rw [if_neg c12] at H
                  have c12b0 : decide (600 < (x6_2.size : Int)) = false := decide_eq_false c12
                  have c12b1 : decide (600 < x6_2.size) = false := decide_eq_false (by omega)
                  clear c12
                  (first | rw [c12b0] | (simp only [i64_w, i32_w]; rw [c12b0]) | skip)
                  by_cases c13 : 0 ≤ x8_2
                  · rw [if_pos c13] at H
                    have c13b0 : decide (0 ≤ x8_2) = true := decide_eq_true c13
                    clear c13
                    replace H := Option.bind_eq_some_iff.mp H
                    obtain ⟨t228, A140, H⟩ := H
                    replace H : (copperplatelaw07_FoldMoves.j2 k2 l0 a1 x6_2 x7_2 x8_2 ((t228.length : Int) != 1)) = some r := H
                    have A14 := Aside0.mk A140
                    clear A140
                    have H' := Aside0.mk H
                    clear H
                    have p227 : 0 ≤ (x8_2 : Int) := of_decide_eq_true (by first | (with_reducible assumption) | assumption)
                    have q227 : x8_2 < (l0.length : Int) := of_decide_eq_true (by first | (with_reducible assumption) | assumption)
                    obtain ⟨ad227, e227, hx227_0⟩ := Kd.at_string HR0.out x8_2 p227 q227
                    cases e227
                    replace hx227_0 := (HB.out.cell (World.block_lt_of_cell? w _ hx227_0)).trans hx227_0
                    replace p227 := eq_true p227
                    replace q227 := eq_true q227
                    go_wp2_with (first | (go_at_call 14; (with_reducible refine (fold_Lines.calls (rdOf ByteArray.empty l0 x8_2) t228 _ A14.out).mono ?_); rintro e w15 ⟨v229, rfl, ho0, hb⟩; have n0_ := Aside0.mk (Kd.R_lower ho0 (below_size (by repeat (first | (with_reducible first | exact HB.out | apply below_alloc | apply pw_below_drewN | apply below_drew1) | exact HB.out)))); have n1_ := Aside0.mk (below_step (by repeat (first | (with_reducible first | exact HB.out | apply below_alloc | apply pw_below_drewN | apply below_drew1) | exact HB.out)) hb); clear HB; have HO230 := n0_; have HB := n1_; clear n0_ n1_; (try clear hb); (try clear hb2); (try clear hk); (try clear hi); (try clear ho0); obtain ⟨Ao16, co16, eo16⟩ := Kd.R_slice HO230.out; subst eo16))
                    go_meet
                    case rel => exact ⟨_, (((t228.length : Int) != 1)), (by first | rfl | (simp; done) | (simp [*]; done)), H', ⟨by have := HJ3.out; have := HK2.out; first | omega | exact Nat.le_refl _⟩, ⟨by repeat (first | (with_reducible first | exact HB.out | apply below_alloc | apply pw_below_drewN | apply below_drew1) | exact HB.out)⟩⟩
                  · rw [if_neg c13] at H
                    exact absurd H (by simp)
              case rest =>
                clear HC11
                try clear c1
                try clear p2
                try clear q2
                try clear hx2
                try clear c6
                try clear c7
                try clear c7b0
                try clear c7b1
                try clear c8
                try clear c8b0
                try clear c9
                try clear c10
                try clear c10b0
                try clear c12
                try clear c12b0
                try clear c12b1
                try clear c13
                try clear c13b0
                try clear hx227_0
                try clear p2
                try clear p227
                try clear q227
                obtain ⟨kq, x44_10, rfl, HA, HJ10, HB⟩ := hcut
                cases kq with
                | zero => exact absurd HA.out (by simp [copperplatelaw07_FoldMoves.j2])
                | succ kj10 =>
                  have H := HA.out
                  clear HA
                  simp only [copperplatelaw07_FoldMoves.j2] at H
                  by_cases c17 : x44_10 = true
                  · subst c17
                    have H1 : (if (x6_2.size : Int) > 600 then (some true) else (if 0 ≤ x8_2 then (if x8_2 < (l0.length : Int) then ((fold_Lines.f (rdOf ByteArray.empty l0 x8_2)).bind fun t232 => (some (decide ((t232.length : Int) > 1)))) else (none)) else (none))) = some r := by rw [if_pos rfl] at H; exact H
                    clear H
                    have H := H1
                    clear H1
                    by_cases c18 : (x6_2.size : Int) > 600
                    · rw [if_pos c18] at H
                      have c18b0 : decide (600 < (x6_2.size : Int)) = true := decide_eq_true c18
                      have c18b1 : decide (600 < x6_2.size) = true := decide_eq_true (by omega)
                      clear c18
                      obtain rfl := Option.some.inj H
                      go_wp2
                      go_ret
                      exact ⟨by first | rfl | (simp [errW_none, errW_some] <;> rfl) | (simp [*, errW_none, errW_some] <;> rfl), by repeat (first | (with_reducible first | exact HB.out | apply below_alloc | apply pw_below_drewN | apply below_drew1) | exact HB.out)⟩
                    · rw [if_neg c18] at H
                      have c18b0 : decide (600 < (x6_2.size : Int)) = false := decide_eq_false c18
                      have c18b1 : decide (600 < x6_2.size) = false := decide_eq_false (by omega)
                      clear c18
                      by_cases c19 : 0 ≤ x8_2
                      · rw [if_pos c19] at H
                        have c19b0 : decide (0 ≤ x8_2) = true := decide_eq_true c19
                        clear c19
                        by_cases c20 : x8_2 < (l0.length : Int)
                        · rw [if_pos c20] at H
                          have c20b0 : decide (x8_2 < (l0.length : Int)) = true := decide_eq_true c20
                          clear c20
                          replace H := Option.bind_eq_some_iff.mp H
                          obtain ⟨t232, A210, H⟩ := H
                          replace H : (some (decide ((t232.length : Int) > 1))) = some r := H
                          have A21 := Aside0.mk A210
                          clear A210
                          obtain rfl := Option.some.inj H
                          have p231 : 0 ≤ (x8_2 : Int) := of_decide_eq_true (by first | (with_reducible assumption) | assumption)
                          have q231 : x8_2 < (l0.length : Int) := of_decide_eq_true (by first | (with_reducible assumption) | assumption)
                          obtain ⟨ad231, e231, hx231_0⟩ := Kd.at_string HR0.out x8_2 p231 q231
                          cases e231
                          replace hx231_0 := (HB.out.cell (World.block_lt_of_cell? w _ hx231_0)).trans hx231_0
                          replace p231 := eq_true p231
                          replace q231 := eq_true q231
                          go_wp2_with (first | (go_at_call 14; (with_reducible refine (fold_Lines.calls (rdOf ByteArray.empty l0 x8_2) t232 _ A21.out).mono ?_); rintro e w22 ⟨v233, rfl, ho0, hb⟩; have n0_ := Aside0.mk (Kd.R_lower ho0 (below_size (by repeat (first | (with_reducible first | exact HB.out | apply below_alloc | apply pw_below_drewN | apply below_drew1) | exact HB.out)))); have n1_ := Aside0.mk (below_step (by repeat (first | (with_reducible first | exact HB.out | apply below_alloc | apply pw_below_drewN | apply below_drew1) | exact HB.out)) hb); clear HB; have HO234 := n0_; have HB := n1_; clear n0_ n1_; (try clear hb); (try clear hb2); (try clear hk); (try clear hi); (try clear ho0); obtain ⟨Ao23, co23, eo23⟩ := Kd.R_slice HO234.out; subst eo23))
                          go_ret
                          exact ⟨by first | rfl | (simp [errW_none, errW_some] <;> rfl) | (simp [*, errW_none, errW_some] <;> rfl), by repeat (first | (with_reducible first | exact HB.out | apply below_alloc | apply pw_below_drewN | apply below_drew1) | exact HB.out)⟩
                        · rw [if_neg c20] at H
                          exact absurd H (by simp)
                      · rw [if_neg c19] at H
                        exact absurd H (by simp)
                  · replace c17 := Bool.eq_false_iff.mpr c17
                    subst c17
                    have H1 : (if x8_2 > 0 then (if x6_2.size + 1 ≤ 9223372036854775807 then (if x7_2.size + 1 ≤ 9223372036854775807 then (if 0 ≤ a1 then (if a1 ≤ 20 then (if (x7_2 ++ (⟨#[10]⟩ : ByteArray)).size + ((⟨#[32, 32, 32, 32, 32, 32, 32, 32, 32, 32, 32, 32, 32, 32, 32, 32, 32, 32, 32, 32]⟩ : ByteArray).extract 0 (a1 : Int).toNat).size ≤ 9223372036854775807 then (if 0 ≤ x8_2 then (if x8_2 < (l0.length : Int) then (if (x6_2 ++ (⟨#[10]⟩ : ByteArray)).size + (rdOf ByteArray.empty l0 x8_2).size ≤ 9223372036854775807 then (if ((x7_2 ++ (⟨#[10]⟩ : ByteArray)) ++ ((⟨#[32, 32, 32, 32, 32, 32, 32, 32, 32, 32, 32, 32, 32, 32, 32, 32, 32, 32, 32, 32]⟩ : ByteArray).extract 0 (a1 : Int).toNat)).size + (rdOf ByteArray.empty l0 x8_2).size ≤ 9223372036854775807 then (copperplatelaw07_FoldMoves.l0 kj10 l0 a1 ((x6_2 ++ (⟨#[10]⟩ : ByteArray)) ++ (rdOf ByteArray.empty l0 x8_2)) (((x7_2 ++ (⟨#[10]⟩ : ByteArray)) ++ ((⟨#[32, 32, 32, 32, 32, 32, 32, 32, 32, 32, 32, 32, 32, 32, 32, 32, 32, 32, 32, 32]⟩ : ByteArray).extract 0 (a1 : Int).toNat)) ++ (rdOf ByteArray.empty l0 x8_2)) (wrap64 (x8_2 + 1))) else (none)) else (none)) else (none)) else (none)) else (none)) else (none)) else (none)) else (none)) else (none)) else (if 0 ≤ x8_2 then (if x8_2 < (l0.length : Int) then (if x6_2.size + (rdOf ByteArray.empty l0 x8_2).size ≤ 9223372036854775807 then (if x7_2.size + (rdOf ByteArray.empty l0 x8_2).size ≤ 9223372036854775807 then (copperplatelaw07_FoldMoves.l0 kj10 l0 a1 (x6_2 ++ (rdOf ByteArray.empty l0 x8_2)) (x7_2 ++ (rdOf ByteArray.empty l0 x8_2)) (wrap64 (x8_2 + 1))) else (none)) else (none)) else (none)) else (none))) = some r := by rw [if_neg (show ¬ (false = true) by decide)] at H; exact H
                    clear H
                    have H := H1
                    clear H1
                    by_cases c24 : x8_2 > 0
                    · rw [if_pos c24] at H
                      have c24b0 : decide (0 < x8_2) = true := decide_eq_true c24
                      clear c24
                      by_cases c25 : x6_2.size + 1 ≤ 9223372036854775807
                      · rw [if_pos c25] at H
                        have c25b0 := eq_true c25
                        have c25b1 : decide (x6_2.size + 1 ≤ 9223372036854775807) = true := decide_eq_true c25
                        try have c25b2 : (9223372036854775807 < x6_2.size + 1) = False := eq_false (Nat.not_lt.2 c25)
                        by_cases c26 : x7_2.size + 1 ≤ 9223372036854775807
                        · rw [if_pos c26] at H
                          have c26b0 := eq_true c26
                          have c26b1 : decide (x7_2.size + 1 ≤ 9223372036854775807) = true := decide_eq_true c26
                          try have c26b2 : (9223372036854775807 < x7_2.size + 1) = False := eq_false (Nat.not_lt.2 c26)
                          by_cases c27 : 0 ≤ a1
                          · rw [if_pos c27] at H
                            have c27b0 := eq_true c27
                            have c27b1 : decide (0 ≤ a1) = true := decide_eq_true c27
                            clear c27
                            by_cases c28 : a1 ≤ 20
                            · rw [if_pos c28] at H
                              have c28b0 := eq_true c28
                              have c28b1 : decide (a1 ≤ 20) = true := decide_eq_true c28
                              clear c28
                              by_cases c29 : (x7_2 ++ (⟨#[10]⟩ : ByteArray)).size + ((⟨#[32, 32, 32, 32, 32, 32, 32, 32, 32, 32, 32, 32, 32, 32, 32, 32, 32, 32, 32, 32]⟩ : ByteArray).extract 0 (a1 : Int).toNat).size ≤ 9223372036854775807
                              · rw [if_pos c29] at H
                                have c29b0 := eq_true c29
                                have c29b1 : decide ((x7_2 ++ (⟨#[10]⟩ : ByteArray)).size + ((⟨#[32, 32, 32, 32, 32, 32, 32, 32, 32, 32, 32, 32, 32, 32, 32, 32, 32, 32, 32, 32]⟩ : ByteArray).extract 0 (a1 : Int).toNat).size ≤ 9223372036854775807) = true := decide_eq_true c29
                                try have c29b2 : (9223372036854775807 < (x7_2 ++ (⟨#[10]⟩ : ByteArray)).size + ((⟨#[32, 32, 32, 32, 32, 32, 32, 32, 32, 32, 32, 32, 32, 32, 32, 32, 32, 32, 32, 32]⟩ : ByteArray).extract 0 (a1 : Int).toNat).size) = False := eq_false (Nat.not_lt.2 c29)
                                by_cases c30 : 0 ≤ x8_2
                                · rw [if_pos c30] at H
                                  have c30b0 : decide (0 ≤ x8_2) = true := decide_eq_true c30
                                  clear c30
                                  by_cases c31 : x8_2 < (l0.length : Int)
                                  · rw [if_pos c31] at H
                                    have c31b0 : decide (x8_2 < (l0.length : Int)) = true := decide_eq_true c31
                                    clear c31
                                    by_cases c32 : (x6_2 ++ (⟨#[10]⟩ : ByteArray)).size + (rdOf ByteArray.empty l0 x8_2).size ≤ 9223372036854775807
                                    · rw [if_pos c32] at H
                                      have c32b0 := eq_true c32
                                      have c32b1 : decide ((x6_2 ++ (⟨#[10]⟩ : ByteArray)).size + (rdOf ByteArray.empty l0 x8_2).size ≤ 9223372036854775807) = true := decide_eq_true c32
                                      try have c32b2 : (9223372036854775807 < (x6_2 ++ (⟨#[10]⟩ : ByteArray)).size + (rdOf ByteArray.empty l0 x8_2).size) = False := eq_false (Nat.not_lt.2 c32)
                                      by_cases c33 : ((x7_2 ++ (⟨#[10]⟩ : ByteArray)) ++ ((⟨#[32, 32, 32, 32, 32, 32, 32, 32, 32, 32, 32, 32, 32, 32, 32, 32, 32, 32, 32, 32]⟩ : ByteArray).extract 0 (a1 : Int).toNat)).size + (rdOf ByteArray.empty l0 x8_2).size ≤ 9223372036854775807
                                      · rw [if_pos c33] at H
                                        have c33b0 := eq_true c33
                                        have c33b1 : decide (((x7_2 ++ (⟨#[10]⟩ : ByteArray)) ++ ((⟨#[32, 32, 32, 32, 32, 32, 32, 32, 32, 32, 32, 32, 32, 32, 32, 32, 32, 32, 32, 32]⟩ : ByteArray).extract 0 (a1 : Int).toNat)).size + (rdOf ByteArray.empty l0 x8_2).size ≤ 9223372036854775807) = true := decide_eq_true c33
                                        try have c33b2 : (9223372036854775807 < ((x7_2 ++ (⟨#[10]⟩ : ByteArray)) ++ ((⟨#[32, 32, 32, 32, 32, 32, 32, 32, 32, 32, 32, 32, 32, 32, 32, 32, 32, 32, 32, 32]⟩ : ByteArray).extract 0 (a1 : Int).toNat)).size + (rdOf ByteArray.empty l0 x8_2).size) = False := eq_false (Nat.not_lt.2 c33)
                                        have H' := Aside0.mk H
                                        clear H
                                        have p235 : 0 ≤ (x8_2 : Int) := of_decide_eq_true (by first | (with_reducible assumption) | assumption)
                                        have q235 : x8_2 < (l0.length : Int) := of_decide_eq_true (by first | (with_reducible assumption) | assumption)
                                        obtain ⟨ad235, e235, hx235_0⟩ := Kd.at_string HR0.out x8_2 p235 q235
                                        cases e235
                                        replace hx235_0 := (HB.out.cell (World.block_lt_of_cell? w _ hx235_0)).trans hx235_0
                                        replace p235 := eq_true p235
                                        replace q235 := eq_true q235
                                        have p236 : 0 ≤ (x8_2 : Int) := of_decide_eq_true (by first | (with_reducible assumption) | assumption)
                                        have q236 : x8_2 < (l0.length : Int) := of_decide_eq_true (by first | (with_reducible assumption) | assumption)
                                        obtain ⟨ad236, e236, hx236_0⟩ := Kd.at_string HR0.out x8_2 p236 q236
                                        obtain rfl : ad235 = ad236 := (by injection e236)
                                        replace hx236_0 := (HB.out.cell (World.block_lt_of_cell? w _ hx236_0)).trans hx236_0
                                        replace p236 := eq_true p236
                                        replace q236 := eq_true q236
                                        go_wp2
                                        go_roundg kj10
                                        case measure => have := HJ3.out; have := HK2.out; have := HJ10.out; omega
                                        case rel => exact ⟨((x6_2 ++ (⟨#[10]⟩ : ByteArray)) ++ (rdOf ByteArray.empty l0 x8_2)), (((x7_2 ++ (⟨#[10]⟩ : ByteArray)) ++ ((⟨#[32, 32, 32, 32, 32, 32, 32, 32, 32, 32, 32, 32, 32, 32, 32, 32, 32, 32, 32, 32]⟩ : ByteArray).extract 0 (a1 : Int).toNat)) ++ (rdOf ByteArray.empty l0 x8_2)), (wrap64 (x8_2 + 1)), (by first | rfl | (simp; done) | (simp [*]; done)), (by first | rfl | (simp; done) | (simp [*]; done)), (by first | rfl | (simp; done) | (simp [*]; done)), H', ⟨by have := HJ3.out; have := HK2.out; have := HJ10.out; omega⟩, ⟨by repeat (first | (with_reducible first | exact HB.out | apply below_alloc | apply pw_below_drewN | apply below_drew1) | exact HB.out)⟩⟩
                                      · rw [if_neg c33] at H
                                        exact absurd H (by simp)
                                    · rw [if_neg c32] at H
                                      exact absurd H (by simp)
                                  · rw [if_neg c31] at H
                                    exact absurd H (by simp)
                                · rw [if_neg c30] at H
                                  exact absurd H (by simp)
                              · rw [if_neg c29] at H
                                exact absurd H (by simp)
                            · rw [if_neg c28] at H
                              exact absurd H (by simp)
                          · rw [if_neg c27] at H
                            exact absurd H (by simp)
                        · rw [if_neg c26] at H
                          exact absurd H (by simp)
                      · rw [if_neg c25] at H
                        exact absurd H (by simp)
                    · rw [if_neg c24] at H
                      have c24b0 : decide (0 < x8_2) = false := decide_eq_false c24
                      clear c24
                      by_cases c34 : 0 ≤ x8_2
                      · rw [if_pos c34] at H
                        have c34b0 : decide (0 ≤ x8_2) = true := decide_eq_true c34
                        clear c34
                        by_cases c35 : x8_2 < (l0.length : Int)
                        · rw [if_pos c35] at H
                          have c35b0 : decide (x8_2 < (l0.length : Int)) = true := decide_eq_true c35
                          clear c35
                          by_cases c36 : x6_2.size + (rdOf ByteArray.empty l0 x8_2).size ≤ 9223372036854775807
                          · rw [if_pos c36] at H
                            have c36b0 := eq_true c36
                            have c36b1 : decide (x6_2.size + (rdOf ByteArray.empty l0 x8_2).size ≤ 9223372036854775807) = true := decide_eq_true c36
                            try have c36b2 : (9223372036854775807 < x6_2.size + (rdOf ByteArray.empty l0 x8_2).size) = False := eq_false (Nat.not_lt.2 c36)
                            by_cases c37 : x7_2.size + (rdOf ByteArray.empty l0 x8_2).size ≤ 9223372036854775807
                            · rw [if_pos c37] at H
                              have c37b0 := eq_true c37
                              have c37b1 : decide (x7_2.size + (rdOf ByteArray.empty l0 x8_2).size ≤ 9223372036854775807) = true := decide_eq_true c37
                              try have c37b2 : (9223372036854775807 < x7_2.size + (rdOf ByteArray.empty l0 x8_2).size) = False := eq_false (Nat.not_lt.2 c37)
                              have H' := Aside0.mk H
                              clear H
                              have p237 : 0 ≤ (x8_2 : Int) := of_decide_eq_true (by first | (with_reducible assumption) | assumption)
                              have q237 : x8_2 < (l0.length : Int) := of_decide_eq_true (by first | (with_reducible assumption) | assumption)
                              obtain ⟨ad237, e237, hx237_0⟩ := Kd.at_string HR0.out x8_2 p237 q237
                              cases e237
                              replace hx237_0 := (HB.out.cell (World.block_lt_of_cell? w _ hx237_0)).trans hx237_0
                              replace p237 := eq_true p237
                              replace q237 := eq_true q237
                              have p238 : 0 ≤ (x8_2 : Int) := of_decide_eq_true (by first | (with_reducible assumption) | assumption)
                              have q238 : x8_2 < (l0.length : Int) := of_decide_eq_true (by first | (with_reducible assumption) | assumption)
                              obtain ⟨ad238, e238, hx238_0⟩ := Kd.at_string HR0.out x8_2 p238 q238
                              obtain rfl : ad237 = ad238 := (by injection e238)
                              replace hx238_0 := (HB.out.cell (World.block_lt_of_cell? w _ hx238_0)).trans hx238_0
                              replace p238 := eq_true p238
                              replace q238 := eq_true q238
                              go_wp2
                              go_roundg kj10
                              case measure => have := HJ3.out; have := HK2.out; have := HJ10.out; omega
                              case rel => exact ⟨(x6_2 ++ (rdOf ByteArray.empty l0 x8_2)), (x7_2 ++ (rdOf ByteArray.empty l0 x8_2)), (wrap64 (x8_2 + 1)), (by first | rfl | (simp; done) | (simp [*]; done)), (by first | rfl | (simp; done) | (simp [*]; done)), (by first | rfl | (simp; done) | (simp [*]; done)), H', ⟨by have := HJ3.out; have := HK2.out; have := HJ10.out; omega⟩, ⟨by repeat (first | (with_reducible first | exact HB.out | apply below_alloc | apply pw_below_drewN | apply below_drew1) | exact HB.out)⟩⟩
                            · rw [if_neg c37] at H
                              exact absurd H (by simp)
                          · rw [if_neg c36] at H
                            exact absurd H (by simp)
                        · rw [if_neg c35] at H
                          exact absurd H (by simp)
                      · rw [if_neg c34] at H
                        exact absurd H (by simp)
            · rw [if_neg c10] at H
              have c10b0 : decide (x8_2 < (l0.length : Int)) = false := decide_eq_false c10
              clear c10
              replace H := Option.bind_eq_some_iff.mp H
              obtain ⟨t224, A380, H⟩ := H
              replace H : (if t224 < 0 then (some true) else ((fold_Fold.f x6_2).bind fun t225 => ((fold_Fold.f x7_2).bind fun t226 => (some (t225.toList == t226.toList))))) = some r := H
              have A38 := Aside0.mk A380
              clear A380
              by_cases c39 : t224 < 0
              · rw [if_pos c39] at H
                have c39b0 : decide (t224 < 0) = true := decide_eq_true c39
                clear c39
                obtain rfl := Option.some.inj H
                go_wp2_with (first | ((with_reducible refine gate_callee (f := 16) rfl ?_); refine goesL_ (some 79) rfl rfl Tryd.func16 (by kernel_rfl) rfl #[.slice A0 l0.length c0] rfl (by (try simp only [List.map_toArray, List.map_cons, List.map_nil]); first | done | rfl | (simp only [List.length_drop, List.length_take]; rfl)) ?_; (with_reducible refine (fold_Indent.calls _ _ l0 t224 _ ?side1 ?side2 A38.out).mono ?_); (case side1 => repeat (first | exact (Kd.C_below HR0.out HB.out) | (with_reducible refine Kd.C_alloc ?_ _) | (with_reducible refine Kd.C_drewN ?_ _) | (with_reducible refine Kd.C_drew ?_))); (case side2 => exact HC0.out); rintro e w40 ⟨rfl, hb⟩; refine ⟨_, rfl, ?_⟩; have n0_ := Aside0.mk (below_step (by repeat (first | (with_reducible first | exact HB.out | apply below_alloc | apply pw_below_drewN | apply below_drew1) | exact HB.out)) hb); clear HB; have HB := n0_; clear n0_; (try clear hb); (try clear hb2); (try clear hk); (try clear hi)))
                go_ret
                exact ⟨by first | rfl | (simp [errW_none, errW_some] <;> rfl) | (simp [*, errW_none, errW_some] <;> rfl), by repeat (first | (with_reducible first | exact HB.out | apply below_alloc | apply pw_below_drewN | apply below_drew1) | exact HB.out)⟩
              · rw [if_neg c39] at H
                have c39b0 : decide (t224 < 0) = false := decide_eq_false c39
                clear c39
                replace H := Option.bind_eq_some_iff.mp H
                obtain ⟨t225, A410, H⟩ := H
                replace H : ((fold_Fold.f x7_2).bind fun t226 => (some (t225.toList == t226.toList))) = some r := H
                have A41 := Aside0.mk A410
                clear A410
                replace H := Option.bind_eq_some_iff.mp H
                obtain ⟨t226, A420, H⟩ := H
                replace H : (some (t225.toList == t226.toList)) = some r := H
                have A42 := Aside0.mk A420
                clear A420
                obtain rfl := Option.some.inj H
                go_wp2_with (first | ((with_reducible refine gate_callee (f := 16) rfl ?_); refine goesL_ (some 79) rfl rfl Tryd.func16 (by kernel_rfl) rfl #[.slice A0 l0.length c0] rfl (by (try simp only [List.map_toArray, List.map_cons, List.map_nil]); first | done | rfl | (simp only [List.length_drop, List.length_take]; rfl)) ?_; (with_reducible refine (fold_Indent.calls _ _ l0 t224 _ ?side1 ?side2 A38.out).mono ?_); (case side1 => repeat (first | exact (Kd.C_below HR0.out HB.out) | (with_reducible refine Kd.C_alloc ?_ _) | (with_reducible refine Kd.C_drewN ?_ _) | (with_reducible refine Kd.C_drew ?_))); (case side2 => exact HC0.out); rintro e w43 ⟨rfl, hb⟩; refine ⟨_, rfl, ?_⟩; have n0_ := Aside0.mk (below_step (by repeat (first | (with_reducible first | exact HB.out | apply below_alloc | apply pw_below_drewN | apply below_drew1) | exact HB.out)) hb); clear HB; have HB := n0_; clear n0_; (try clear hb); (try clear hb2); (try clear hk); (try clear hi)) | (go_at_call 18; (with_reducible refine (fold_Fold.calls x6_2 t225 _ A41.out).mono ?_); rintro e w44 ⟨rfl, hb⟩; have n0_ := Aside0.mk (below_step (by repeat (first | (with_reducible first | exact HB.out | apply below_alloc | apply pw_below_drewN | apply below_drew1) | exact HB.out)) hb); clear HB; have HB := n0_; clear n0_; (try clear hb); (try clear hb2); (try clear hk); (try clear hi)) | (go_at_call 18; (with_reducible refine (fold_Fold.calls x7_2 t226 _ A42.out).mono ?_); rintro e w45 ⟨rfl, hb⟩; have n0_ := Aside0.mk (below_step (by repeat (first | (with_reducible first | exact HB.out | apply below_alloc | apply pw_below_drewN | apply below_drew1) | exact HB.out)) hb); clear HB; have HB := n0_; clear n0_; (try clear hb); (try clear hb2); (try clear hk); (try clear hi)))
                go_ret
                exact ⟨by first | rfl | (simp [errW_none, errW_some] <;> rfl) | (simp [*, errW_none, errW_some] <;> rfl), by repeat (first | (with_reducible first | exact HB.out | apply below_alloc | apply pw_below_drewN | apply below_drew1) | exact HB.out)⟩

end Go.Proofs.YthcneciafiaphaaDoor.Q
