/-
  Texts of this seat, put together by bundle.py.
-/
import Derived.Test.YtjgpmfjkcioinaaGreatDoorPLGG9
import Derived.Test.YtjgpmfjkcioinaaGreatDoorPLQ4
namespace Go.Proofs.YtjgpmfjkcioinaaGreatDoor.Q
open Go.Proofs.YtjgpmfjkcioinaaGreatDoor.G
open Go.RowKit Go.Proofs.YtjgpmfjkcioinaaGreatDoorW.PrintWords Go.Proofs.YtjgpmfjkcioinaaGreatDoorW.PrintLast Go.Proofs.YtjgpmfjkcioinaaGreatDoorW.PrintMore
attribute [local go_sem] max2_int min2_int max_two min_two max_three min_three max_four min_four
set_option linter.unusedVariables false
set_option linter.unusedSimpArgs false
mutual
def copperplateref02_Next.j0 : Nat → ByteArray → Int → Bool → Option (Int × Int)
 | 0, _, _, _ => none
 | k + 1, x0, x1, x15 => if x15 = true then (some (0, 0)) else (copperplateref02_Next.l0 k x0 x1 1)
def copperplateref02_Next.l0 : Nat → ByteArray → Int → Int → Option (Int × Int)
 | 0, _, _, _ => none
 | k + 1, x0, x1, x6 => if x6 ≤ 4 then (copperplateref02_Next.j2 k x0 x1 x6 (decide (x6 ≤ (wrap64 ((x0.size : Int) - x1))))) else (copperplateref02_Next.j2 k x0 x1 x6 false)
def copperplateref02_Next.j2 : Nat → ByteArray → Int → Int → Bool → Option (Int × Int)
 | 0, _, _, _, _ => none
 | k + 1, x0, x1, x6, x25 => if x25 = true then (if 0 ≤ x1 then (if x1 ≤ (x0.size : Int) then ((copperplateref02_guess.f k (x0.extract (x1 : Int).toNat x0.size) x6).bind fun t130 => ((copperplateref02_Put.f t130).bind fun t131 => (if x1 ≤ (wrap64 (x1 + x6)) then (if (wrap64 (x1 + x6)) ≤ (x0.size : Int) then (if t131.toList = (x0.extract (x1 : Int).toNat ((wrap64 (x1 + x6)) : Int).toNat).toList then (some (t130, x6)) else (copperplateref02_Next.l0 k x0 x1 (wrap64 (x6 + 1)))) else (none)) else (none)))) else (none)) else (none)) else (some (0, 0))
end
def copperplateref02_Next.f (k : Nat) (a0 : ByteArray) (a1 : Int) : Option (Int × Int) := if a1 < 0 then (copperplateref02_Next.j0 k a0 a1 true) else (copperplateref02_Next.j0 k a0 a1 (decide (a1 ≥ (a0.size : Int))))
theorem copperplateref02_Next.mono_l : ∀ k, (∀ y0 y1 y2, LeO (copperplateref02_Next.j0 k y0 y1 y2) (copperplateref02_Next.j0 (k + 1) y0 y1 y2)) ∧ (∀ y0 y1 y2, LeO (copperplateref02_Next.l0 k y0 y1 y2) (copperplateref02_Next.l0 (k + 1) y0 y1 y2)) ∧ (∀ y0 y1 y2 y3, LeO (copperplateref02_Next.j2 k y0 y1 y2 y3) (copperplateref02_Next.j2 (k + 1) y0 y1 y2 y3))
 | 0 => ⟨fun _ _ _ r h => by simp [copperplateref02_Next.j0] at h, fun _ _ _ r h => by simp [copperplateref02_Next.l0] at h, fun _ _ _ _ r h => by simp [copperplateref02_Next.j2] at h⟩
 | k + 1 => by
  obtain ⟨ih0, ih1, ih2⟩ := copperplateref02_Next.mono_l k
  refine ⟨?_, ?_, ?_⟩
  ·intro y0 y1 y2
   unfold copperplateref02_Next.j0
   repeat' first
   | (with_reducible exact ih0 _ _ _)
   | (with_reducible exact ih1 _ _ _)
   | (with_reducible exact ih2 _ _ _ _)
   | (with_reducible exact copperplateref02_guess.mono _ _ _)
   | (with_reducible exact LeO.refl _)
   | (with_reducible exact LeO.none _)
   | (with_reducible refine LeO.ite ?_ ?_)
   | (with_reducible refine LeO.bind ?_ (fun _ => ?_))
   | exact ih0 _ _ _
   | exact ih1 _ _ _
   | exact ih2 _ _ _ _
   | exact copperplateref02_guess.mono _ _ _
   | exact LeO.none _
   | refine LeO.ite ?_ ?_
   | refine LeO.bind ?_ (fun _ => ?_)
  ·intro y0 y1 y2
   unfold copperplateref02_Next.l0
   repeat' first
   | (with_reducible exact ih0 _ _ _)
   | (with_reducible exact ih1 _ _ _)
   | (with_reducible exact ih2 _ _ _ _)
   | (with_reducible exact copperplateref02_guess.mono _ _ _)
   | (with_reducible exact LeO.refl _)
   | (with_reducible exact LeO.none _)
   | (with_reducible refine LeO.ite ?_ ?_)
   | (with_reducible refine LeO.bind ?_ (fun _ => ?_))
   | exact ih0 _ _ _
   | exact ih1 _ _ _
   | exact ih2 _ _ _ _
   | exact copperplateref02_guess.mono _ _ _
   | exact LeO.none _
   | refine LeO.ite ?_ ?_
   | refine LeO.bind ?_ (fun _ => ?_)
  ·intro y0 y1 y2 y3
   unfold copperplateref02_Next.j2
   repeat' first
   | (with_reducible exact ih0 _ _ _)
   | (with_reducible exact ih1 _ _ _)
   | (with_reducible exact ih2 _ _ _ _)
   | (with_reducible exact copperplateref02_guess.mono _ _ _)
   | (with_reducible exact LeO.refl _)
   | (with_reducible exact LeO.none _)
   | (with_reducible refine LeO.ite ?_ ?_)
   | (with_reducible refine LeO.bind ?_ (fun _ => ?_))
   | exact ih0 _ _ _
   | exact ih1 _ _ _
   | exact ih2 _ _ _ _
   | exact copperplateref02_guess.mono _ _ _
   | exact LeO.none _
   | refine LeO.ite ?_ ?_
   | refine LeO.bind ?_ (fun _ => ?_)
theorem copperplateref02_Next.mono : ∀ a0 a1 k, LeO (copperplateref02_Next.f k a0 a1) (copperplateref02_Next.f (k + 1) a0 a1) := by
 intro a0 a1 k
 obtain ⟨ih0, ih1, ih2⟩ := copperplateref02_Next.mono_l k
 unfold copperplateref02_Next.f
 repeat' first
   | (with_reducible exact ih0 _ _ _)
   | (with_reducible exact ih1 _ _ _)
   | (with_reducible exact ih2 _ _ _ _)
   | (with_reducible exact copperplateref02_guess.mono _ _ _)
   | (with_reducible exact LeO.refl _)
   | (with_reducible exact LeO.none _)
   | (with_reducible refine LeO.ite ?_ ?_)
   | (with_reducible refine LeO.bind ?_ (fun _ => ?_))
   | exact ih0 _ _ _
   | exact ih1 _ _ _
   | exact ih2 _ _ _ _
   | exact copperplateref02_guess.mono _ _ _
   | exact LeO.none _
   | refine LeO.ite ?_ ?_
   | refine LeO.bind ?_ (fun _ => ?_)
def copperplateref02_Next.T7 : Bool × List (List Nat × List Nat) := (true, [([], []), ([0], [0]), ([], []), ([], []), ([], []), ([], []), ([4, 5], [4, 5]), ([2, 3, 6], [2, 3, 6]), ([1, 7], [1, 7])])
def copperplateref02_Next.B7 : List Nat := [0, 1, 0, 0, 0, 0, 48, 124, 255]
theorem copperplateref02_Next.tab7 : rtab .any (opsOf Tryz.f66 7) = copperplateref02_Next.T7 := by kernel_rfl
theorem copperplateref02_Next.bits7 : waitsOk copperplateref02_Next.T7.2 copperplateref02_Next.B7 = true := by kernel_rfl
set_option maxHeartbeats 8000000 in
set_option maxRecDepth 100000 in
theorem copperplateref02_Next.calls (k : Nat) (a0 : ByteArray) (a1 : Int) (r1 : Int) (r2 : Int) (w : World) (h : copperplateref02_Next.f k a0 a1 = some (r1, r2)) :
  Calls Tryz.prog 66 #[.string a0, .int .i64 a1] w fun e w' => e = .returned (.tuple #[.int .i64 r1, .int .i64 r2]) ∧ Below w.heap.size w w' := by
 have HB := Aside0.mk (Below.refl w.heap.size w)
 have H : (if a1 < 0 then (copperplateref02_Next.j0 k a0 a1 true) else (copperplateref02_Next.j0 k a0 a1 (decide (a1 ≥ (a0.size : Int))))) = some (r1, r2) := h
 clear h
 have HC3 := Aside0.mk H
 clear H
 go_enter Tryz.func66, Tryz.ntmps66
 go_upto_region 1 with (fail)
 go_cut [15] (fun v15 wc => ∃ (kq : Nat) (x15_2 : Bool), v15 = .bool x15_2 ∧ Aside0 (copperplateref02_Next.j0 kq a0 a1 x15_2 = some (r1, r2)) ∧ Aside0 (kq ≤ k) ∧ Aside0 (Below w.heap.size w wc))
 case first =>
  have H := HC3.out
  clear HC3
  by_cases c4 : a1 < 0
  ·rw [if_pos c4] at H
   have c4b0 : decide (a1 < 0) = true := decide_eq_true c4
   clear c4
   (first | rw [c4b0] | (simp only [i64_w, i32_w]; rw [c4b0]) | skip)
   have H' := Aside0.mk H
   clear H
   go_wp2
   go_meet
   case rel => exact ⟨_, (true), (by first | rfl | (simp; done) | (simp [*]; done)), H', ⟨by first | omega | exact Nat.le_refl _⟩, ⟨hbz⟩⟩
  ·rw [if_neg c4] at H
   have c4b0 : decide (a1 < 0) = false := decide_eq_false c4
   clear c4
   (first | rw [c4b0] | (simp only [i64_w, i32_w]; rw [c4b0]) | skip)
   have H' := Aside0.mk H
   clear H
   go_wp2
   go_meet
   case rel => exact ⟨_, (decide (a1 ≥ (a0.size : Int))), (by first | rfl | (simp; done) | (simp [*]; done)), H', ⟨by first | omega | exact Nat.le_refl _⟩, ⟨hbz⟩⟩
 case rest =>
  clear HC3
  try clear p2
  try clear c4
  try clear c4b0
  obtain ⟨kq, x15_2, rfl, HA, HJ2, HB⟩ := hcut
  cases kq with
  | zero => exact absurd HA.out (by simp [copperplateref02_Next.j0])
  | succ kj2 =>
   have H := HA.out
   clear HA
   simp only [copperplateref02_Next.j0] at H
   by_cases c5 : x15_2 = true
   ·subst c5
    have H1 : (some (0, 0)) = some (r1, r2) := by rw [if_pos rfl] at H; exact H
    clear H
    have H := H1
    clear H1
    simp only [Option.some.injEq, Prod.mk.injEq] at H
    obtain ⟨rfl, rfl⟩ := H
    go_wp2
    go_ret2
    exact ⟨by first | rfl | (simp [errW_none, errW_some] <;> rfl) | (simp [*, errW_none, errW_some] <;> rfl), hbz⟩
   ·replace c5 := Bool.eq_false_iff.mpr c5
    subst c5
    have H1 : (copperplateref02_Next.l0 kj2 a0 a1 1) = some (r1, r2) := by rw [if_neg (show ¬ (false = true) by decide)] at H; exact H
    clear H
    have H := H1
    clear H1
    have H' := Aside0.mk H
    clear H
    go_wp2
    go_loopg [6] kj2 (fun kq v6 w' => ∃ (x6_2 : Int), v6 = .int .i64 x6_2 ∧ Aside0 (copperplateref02_Next.l0 kq a0 a1 x6_2 = some (r1, r2)) ∧ Aside0 (kq ≤ kj2) ∧ Aside0 (Below w.heap.size w w'))
    case atStart => exact ⟨(1), (by first | rfl | (simp; done) | (simp [*]; done)), H', ⟨Nat.le_refl _⟩, ⟨hbz⟩⟩
    case round =>
     clear H'
     try clear p2
     try clear c4
     try clear c4b0
     try clear c5
     try clear p2
     obtain ⟨x6_2, rfl, HA, HK2, HB⟩ := hrel
     cases gk with
     | zero => exact absurd HA.out (by simp [copperplateref02_Next.l0])
     | succ k2 =>
      have H := HA.out
      clear HA
      simp only [copperplateref02_Next.l0] at H
      have HC6 := Aside0.mk H
      clear H
      go_upto_region 4 with (fail)
      go_cut [25] (fun v25 wc => ∃ (kq : Nat) (x25_5 : Bool), v25 = .bool x25_5 ∧ Aside0 (copperplateref02_Next.j2 kq a0 a1 x6_2 x25_5 = some (r1, r2)) ∧ Aside0 (kq ≤ k2) ∧ Aside0 (Below w.heap.size w wc))
      case first =>
       have H := HC6.out
       clear HC6
       by_cases c7 : x6_2 ≤ 4
       ·rw [if_pos c7] at H
        have c7b0 : decide (x6_2 ≤ 4) = true := decide_eq_true c7
        clear c7
        (first | rw [c7b0] | (simp only [i64_w, i32_w]; rw [c7b0]) | skip)
        have H' := Aside0.mk H
        clear H
        go_wp2
        go_meet
        case rel => exact ⟨_, (decide (x6_2 ≤ (wrap64 ((a0.size : Int) - a1)))), (by first | rfl | (simp; done) | (simp [*]; done)), H', ⟨by have := HJ2.out; have := HK2.out; first | omega | exact Nat.le_refl _⟩, ⟨hbz⟩⟩
       ·rw [if_neg c7] at H
        have c7b0 : decide (x6_2 ≤ 4) = false := decide_eq_false c7
        clear c7
        (first | rw [c7b0] | (simp only [i64_w, i32_w]; rw [c7b0]) | skip)
        have H' := Aside0.mk H
        clear H
        go_wp2
        go_meet
        case rel => exact ⟨_, (false), (by first | rfl | (simp; done) | (simp [*]; done)), H', ⟨by have := HJ2.out; have := HK2.out; first | omega | exact Nat.le_refl _⟩, ⟨hbz⟩⟩
      case rest =>
       clear HC6
       try clear p2
       try clear c4
       try clear c4b0
       try clear c5
       try clear c6
       try clear p6
       try clear c7
       try clear c7b0
       try clear p2
       obtain ⟨kq, x25_5, rfl, HA, HJ5, HB⟩ := hcut
       cases kq with
       | zero => exact absurd HA.out (by simp [copperplateref02_Next.j2])
       | succ kj5 =>
        have H := HA.out
        clear HA
        simp only [copperplateref02_Next.j2] at H
        by_cases c8 : x25_5 = true
        ·subst c8
         have H1 : (if 0 ≤ a1 then (if a1 ≤ (a0.size : Int) then ((copperplateref02_guess.f kj5 (a0.extract (a1 : Int).toNat a0.size) x6_2).bind fun t130 => ((copperplateref02_Put.f t130).bind fun t131 => (if a1 ≤ (wrap64 (a1 + x6_2)) then (if (wrap64 (a1 + x6_2)) ≤ (a0.size : Int) then (if t131.toList = (a0.extract (a1 : Int).toNat ((wrap64 (a1 + x6_2)) : Int).toNat).toList then (some (t130, x6_2)) else (copperplateref02_Next.l0 kj5 a0 a1 (wrap64 (x6_2 + 1)))) else (none)) else (none)))) else (none)) else (none)) = some (r1, r2) := by rw [if_pos rfl] at H; exact H
         clear H
         have H := H1
         clear H1
         by_cases c9 : 0 ≤ a1
         ·rw [if_pos c9] at H
          have c9b0 := eq_true c9
          have c9b1 : decide (0 ≤ a1) = true := decide_eq_true c9
          clear c9
          by_cases c10 : a1 ≤ (a0.size : Int)
          ·rw [if_pos c10] at H
           have c10b0 := eq_true c10
           have c10b1 : decide (a1 ≤ (a0.size : Int)) = true := decide_eq_true c10
           clear c10
           replace H := Option.bind_eq_some_iff.mp H
           obtain ⟨t130, A110, H⟩ := H
           replace H : ((copperplateref02_Put.f t130).bind fun t131 => (if a1 ≤ (wrap64 (a1 + x6_2)) then (if (wrap64 (a1 + x6_2)) ≤ (a0.size : Int) then (if t131.toList = (a0.extract (a1 : Int).toNat ((wrap64 (a1 + x6_2)) : Int).toNat).toList then (some (t130, x6_2)) else (copperplateref02_Next.l0 kj5 a0 a1 (wrap64 (x6_2 + 1)))) else (none)) else (none))) = some (r1, r2) := H
           have A11 := Aside0.mk A110
           clear A110
           replace H := Option.bind_eq_some_iff.mp H
           obtain ⟨t131, A120, H⟩ := H
           replace H : (if a1 ≤ (wrap64 (a1 + x6_2)) then (if (wrap64 (a1 + x6_2)) ≤ (a0.size : Int) then (if t131.toList = (a0.extract (a1 : Int).toNat ((wrap64 (a1 + x6_2)) : Int).toNat).toList then (some (t130, x6_2)) else (copperplateref02_Next.l0 kj5 a0 a1 (wrap64 (x6_2 + 1)))) else (none)) else (none)) = some (r1, r2) := H
           have A12 := Aside0.mk A120
           clear A120
           have c13b0 := eq_true (of_decide_eq_true (by first | (with_reducible assumption) | assumption) : 0 ≤ a1)
           by_cases c14 : a1 ≤ (wrap64 (a1 + x6_2))
           ·rw [if_pos c14] at H
            have c14b0 := eq_true c14
            have c14b1 : decide (a1 ≤ (wrap64 (a1 + x6_2))) = true := decide_eq_true c14
            by_cases c15 : (wrap64 (a1 + x6_2)) ≤ (a0.size : Int)
            ·rw [if_pos c15] at H
             have c15b0 := eq_true c15
             have c15b1 : decide ((wrap64 (a1 + x6_2)) ≤ (a0.size : Int)) = true := decide_eq_true c15
             by_cases c16 : t131.toList = (a0.extract (a1 : Int).toNat ((wrap64 (a1 + x6_2)) : Int).toNat).toList
             ·rw [if_pos c16] at H
              have c16b0 : (t131.toList == (a0.extract (a1 : Int).toNat ((wrap64 (a1 + x6_2)) : Int).toNat).toList) = true := beq_iff_eq.mpr c16
              have c16b1 : (t131.toList != (a0.extract (a1 : Int).toNat ((wrap64 (a1 + x6_2)) : Int).toNat).toList) = false := bne_eq_false_iff_eq.mpr c16
              clear c16
              simp only [Option.some.injEq, Prod.mk.injEq] at H
              obtain ⟨rfl, rfl⟩ := H
              try go_wp2_with (first | ((with_reducible refine gate_callee (f := 87) rfl ?_); refine goesL_ (some 32) rfl rfl Tryz.func87 (by kernel_rfl) rfl #[.string (a0.extract (a1 : Int).toNat a0.size), .int .i64 x6_2] rfl gz ?_; (with_reducible refine (copperplateref02_guess.calls kj5 (a0.extract (a1 : Int).toNat a0.size) x6_2 t130 _ A11.out).mono ?_); rintro e w' ⟨rfl, ⟨nd, rfl⟩⟩; refine ⟨_, rfl, ?_⟩))
              (try (rw [drewN_self wc]; generalize hq_ : World.drewN wc _ = wc; have n0_ : Aside0 (Below w.heap.size w wc) := ⟨by rw [← hq_]; exact hbz⟩; clear HB hq_; have HB := n0_; clear n0_))
              have n0_ := Aside0.mk (below_drew1 HB.out)
              clear HB
              have HB := n0_
              clear n0_
              refine start_ (n := 9) (S := fun w' => True) (ds := []) #[false, false, false, false, false, false, false, false, false] (by kernel_rfl) rfl rfl trivial (fun hHeld => ?_); refine with_tabW copperplateref02_Next.tab7 copperplateref02_Next.bits7 (fun HT_ HW_ => ?_)
              generalize wc.drew = w17 at HB hHeld ⊢
              refine pure_ (i := 0) (N := some 33) (v := ?_) (a' := ?_) #[true, false, false, false, false, false, false, false, false] rfl rfl (any_of HT_.out (by kernel_rfl)) (fun _ _ _ h => h) (Or.inl ⟨by rfl, ?_⟩) ?_ ?_
              rotate_left
              ·intro w'
               go_simp
               with_reducible rfl
              rotate_left
              ·simp only [Act.put, List.setIfInBounds_toArray, List.set_cons_zero, List.set_cons_succ, i64_w, i32_w]
               rfl
              refine pure_ (i := 2) (N := some 35) (v := ?_) (a' := ?_) #[true, false, true, false, false, false, false, false, false] rfl rfl (any_of HT_.out (by kernel_rfl)) (fun _ _ _ h => h) (Or.inl ⟨by rfl, ?_⟩) ?_ ?_
              rotate_left
              ·intro w'
               go_simp
               with_reducible rfl
              rotate_left
              ·simp only [Act.put, List.setIfInBounds_toArray, List.set_cons_zero, List.set_cons_succ, i64_w, i32_w]
               rfl
              refine pure_ (i := 3) (N := some 36) (v := ?_) (a' := ?_) #[true, false, true, true, false, false, false, false, false] rfl rfl (any_of HT_.out (by kernel_rfl)) (fun _ _ _ h => h) (Or.inl ⟨by rfl, ?_⟩) ?_ ?_
              rotate_left
              ·intro w'
               go_simp
               with_reducible rfl
              rotate_left
              ·simp only [Act.put, List.setIfInBounds_toArray, List.set_cons_zero, List.set_cons_succ, i64_w, i32_w]
               rfl
              refine pure_ (i := 4) (N := some 37) (v := ?_) (a' := ?_) #[true, false, true, true, true, false, false, false, false] rfl rfl (any_of HT_.out (by kernel_rfl)) (fun _ _ _ h => h) (Or.inl ⟨by rfl, ?_⟩) ?_ ?_
              rotate_left
              ·intro w'
               go_simp
               with_reducible rfl
              rotate_left
              ·simp only [Act.put, List.setIfInBounds_toArray, List.set_cons_zero, List.set_cons_succ, i64_w, i32_w]
               rfl
              refine pure_ (i := 5) (N := some 38) (v := ?_) (a' := ?_) #[true, false, true, true, true, true, false, false, false] rfl rfl (any_of HT_.out (by kernel_rfl)) (fun _ _ _ h => h) (Or.inl ⟨by rfl, ?_⟩) ?_ ?_
              rotate_left
              ·intro w'
               go_simp
               with_reducible rfl
              rotate_left
              ·simp only [Act.put, List.setIfInBounds_toArray, List.set_cons_zero, List.set_cons_succ, i64_w, i32_w]
               rfl
              refine pure_ (i := 6) (N := some 39) (v := ?_) (a' := ?_) #[true, false, true, true, true, true, true, false, false] rfl rfl (any_of HT_.out (by kernel_rfl)) (fun _ _ _ h => h) (Or.inl ⟨by rfl, ?_⟩) ?_ ?_
              rotate_left
              ·intro w'
               go_simp
               with_reducible rfl
              rotate_left
              ·simp only [Act.put, List.setIfInBounds_toArray, List.set_cons_zero, List.set_cons_succ, i64_w, i32_w]
               rfl
              refine pure_ (i := 7) (N := some 40) (v := ?_) (a' := ?_) #[true, false, true, true, true, true, true, true, false] rfl rfl (any_of HT_.out (by kernel_rfl)) (fun _ _ _ h => h) (Or.inl ⟨by rfl, ?_⟩) ?_ ?_
              rotate_left
              ·intro w'
               go_simp
               with_reducible rfl
              rotate_left
              ·simp only [Act.put, List.setIfInBounds_toArray, List.set_cons_zero, List.set_cons_succ, i64_w, i32_w]
               rfl
              refine one_ (i := 1) (N := some 34) #[true, true, true, true, true, true, true, true, false] rfl rfl (one_of HT_.out (by kernel_rfl)) (by decide) (fun K hK => ?_)
              refine goes_ Tryz.func88 (by kernel_rfl) rfl #[.int .i64 t130] (by rfl) rfl rfl gz ?_
              with_reducible refine (copperplateref02_Put.calls t130 t131 _ A12.out).mono ?_
              rintro e w18 ⟨rfl, hb⟩
              refine ⟨_, rfl, ?_⟩
              have n0_ := Aside0.mk (below_step hbz hb)
              clear HB
              have HB := n0_
              clear n0_
              (try clear hb)
              (try clear hb2)
              (try clear hk)
              (try clear hi)
              refine hK.out _ _ trivial (fun hHeld => ?_)
              clear hK K
              refine norm_ (a' := ?_) ?_ ?_
              rotate_left
              ·show Act.put _ (some 34) _ = _
               simp only [Act.put, List.setIfInBounds_toArray, List.set_cons_zero, List.set_cons_succ, i64_w, i32_w]
               rfl
              refine pure_ (i := 8) (N := some 41) (v := ?_) (a' := ?_) #[true, true, true, true, true, true, true, true, true] rfl rfl (any_of HT_.out (by kernel_rfl)) (fun _ _ _ h => h) (Or.inl ⟨by rfl, ?_⟩) ?_ ?_
              rotate_left
              ·intro w'
               go_simp
               with_reducible rfl
              rotate_left
              ·simp only [Act.put, List.setIfInBounds_toArray, List.set_cons_zero, List.set_cons_succ, i64_w, i32_w]
               rfl
              refine done_ (done_of HT_.out (by kernel_rfl)) ?_
              try go_wp2
              go_ret2
              exact ⟨by first | rfl | (simp [errW_none, errW_some] <;> rfl) | (simp [*, errW_none, errW_some] <;> rfl), hbz⟩
             ·rw [if_neg c16] at H
              have c16b0 : (t131.toList == (a0.extract (a1 : Int).toNat ((wrap64 (a1 + x6_2)) : Int).toNat).toList) = false := beq_eq_false_iff_ne.mpr c16
              have c16b1 : (t131.toList != (a0.extract (a1 : Int).toNat ((wrap64 (a1 + x6_2)) : Int).toNat).toList) = true := bne_iff_ne.mpr c16
              have H' := Aside0.mk H
              clear H
              try go_wp2_with (first | ((with_reducible refine gate_callee (f := 87) rfl ?_); refine goesL_ (some 32) rfl rfl Tryz.func87 (by kernel_rfl) rfl #[.string (a0.extract (a1 : Int).toNat a0.size), .int .i64 x6_2] rfl gz ?_; (with_reducible refine (copperplateref02_guess.calls kj5 (a0.extract (a1 : Int).toNat a0.size) x6_2 t130 _ A11.out).mono ?_); rintro e w' ⟨rfl, ⟨nd, rfl⟩⟩; refine ⟨_, rfl, ?_⟩))
              (try (rw [drewN_self wc]; generalize hq_ : World.drewN wc _ = wc; have n0_ : Aside0 (Below w.heap.size w wc) := ⟨by rw [← hq_]; exact hbz⟩; clear HB hq_; have HB := n0_; clear n0_))
              have n0_ := Aside0.mk (below_drew1 HB.out)
              clear HB
              have HB := n0_
              clear n0_
              refine start_ (n := 9) (S := fun w' => True) (ds := []) #[false, false, false, false, false, false, false, false, false] (by kernel_rfl) rfl rfl trivial (fun hHeld => ?_); refine with_tabW copperplateref02_Next.tab7 copperplateref02_Next.bits7 (fun HT_ HW_ => ?_)
              generalize wc.drew = w19 at HB hHeld ⊢
              refine pure_ (i := 0) (N := some 33) (v := ?_) (a' := ?_) #[true, false, false, false, false, false, false, false, false] rfl rfl (any_of HT_.out (by kernel_rfl)) (fun _ _ _ h => h) (Or.inl ⟨by rfl, ?_⟩) ?_ ?_
              rotate_left
              ·intro w'
               go_simp
               with_reducible rfl
              rotate_left
              ·simp only [Act.put, List.setIfInBounds_toArray, List.set_cons_zero, List.set_cons_succ, i64_w, i32_w]
               rfl
              refine pure_ (i := 2) (N := some 35) (v := ?_) (a' := ?_) #[true, false, true, false, false, false, false, false, false] rfl rfl (any_of HT_.out (by kernel_rfl)) (fun _ _ _ h => h) (Or.inl ⟨by rfl, ?_⟩) ?_ ?_
              rotate_left
              ·intro w'
               go_simp
               with_reducible rfl
              rotate_left
              ·simp only [Act.put, List.setIfInBounds_toArray, List.set_cons_zero, List.set_cons_succ, i64_w, i32_w]
               rfl
              refine pure_ (i := 3) (N := some 36) (v := ?_) (a' := ?_) #[true, false, true, true, false, false, false, false, false] rfl rfl (any_of HT_.out (by kernel_rfl)) (fun _ _ _ h => h) (Or.inl ⟨by rfl, ?_⟩) ?_ ?_
              rotate_left
              ·intro w'
               go_simp
               with_reducible rfl
              rotate_left
              ·simp only [Act.put, List.setIfInBounds_toArray, List.set_cons_zero, List.set_cons_succ, i64_w, i32_w]
               rfl
              refine pure_ (i := 4) (N := some 37) (v := ?_) (a' := ?_) #[true, false, true, true, true, false, false, false, false] rfl rfl (any_of HT_.out (by kernel_rfl)) (fun _ _ _ h => h) (Or.inl ⟨by rfl, ?_⟩) ?_ ?_
              rotate_left
              ·intro w'
               go_simp
               with_reducible rfl
              rotate_left
              ·simp only [Act.put, List.setIfInBounds_toArray, List.set_cons_zero, List.set_cons_succ, i64_w, i32_w]
               rfl
              refine pure_ (i := 5) (N := some 38) (v := ?_) (a' := ?_) #[true, false, true, true, true, true, false, false, false] rfl rfl (any_of HT_.out (by kernel_rfl)) (fun _ _ _ h => h) (Or.inl ⟨by rfl, ?_⟩) ?_ ?_
              rotate_left
              ·intro w'
               go_simp
               with_reducible rfl
              rotate_left
              ·simp only [Act.put, List.setIfInBounds_toArray, List.set_cons_zero, List.set_cons_succ, i64_w, i32_w]
               rfl
              refine pure_ (i := 6) (N := some 39) (v := ?_) (a' := ?_) #[true, false, true, true, true, true, true, false, false] rfl rfl (any_of HT_.out (by kernel_rfl)) (fun _ _ _ h => h) (Or.inl ⟨by rfl, ?_⟩) ?_ ?_
              rotate_left
              ·intro w'
               go_simp
               with_reducible rfl
              rotate_left
              ·simp only [Act.put, List.setIfInBounds_toArray, List.set_cons_zero, List.set_cons_succ, i64_w, i32_w]
               rfl
              refine pure_ (i := 7) (N := some 40) (v := ?_) (a' := ?_) #[true, false, true, true, true, true, true, true, false] rfl rfl (any_of HT_.out (by kernel_rfl)) (fun _ _ _ h => h) (Or.inl ⟨by rfl, ?_⟩) ?_ ?_
              rotate_left
              ·intro w'
               go_simp
               with_reducible rfl
              rotate_left
              ·simp only [Act.put, List.setIfInBounds_toArray, List.set_cons_zero, List.set_cons_succ, i64_w, i32_w]
               rfl
              refine one_ (i := 1) (N := some 34) #[true, true, true, true, true, true, true, true, false] rfl rfl (one_of HT_.out (by kernel_rfl)) (by decide) (fun K hK => ?_)
              refine goes_ Tryz.func88 (by kernel_rfl) rfl #[.int .i64 t130] (by rfl) rfl rfl gz ?_
              with_reducible refine (copperplateref02_Put.calls t130 t131 _ A12.out).mono ?_
              rintro e w20 ⟨rfl, hb⟩
              refine ⟨_, rfl, ?_⟩
              have n0_ := Aside0.mk (below_step hbz hb)
              clear HB
              have HB := n0_
              clear n0_
              (try clear hb)
              (try clear hb2)
              (try clear hk)
              (try clear hi)
              refine hK.out _ _ trivial (fun hHeld => ?_)
              clear hK K
              refine norm_ (a' := ?_) ?_ ?_
              rotate_left
              ·show Act.put _ (some 34) _ = _
               simp only [Act.put, List.setIfInBounds_toArray, List.set_cons_zero, List.set_cons_succ, i64_w, i32_w]
               rfl
              refine pure_ (i := 8) (N := some 41) (v := ?_) (a' := ?_) #[true, true, true, true, true, true, true, true, true] rfl rfl (any_of HT_.out (by kernel_rfl)) (fun _ _ _ h => h) (Or.inl ⟨by rfl, ?_⟩) ?_ ?_
              rotate_left
              ·intro w'
               go_simp
               with_reducible rfl
              rotate_left
              ·simp only [Act.put, List.setIfInBounds_toArray, List.set_cons_zero, List.set_cons_succ, i64_w, i32_w]
               rfl
              refine done_ (done_of HT_.out (by kernel_rfl)) ?_
              try go_wp2
              go_roundg kj5
              case measure => have := HJ2.out; have := HK2.out; have := HJ5.out; omega
              case rel => exact ⟨(wrap64 (x6_2 + 1)), (by first | rfl | (simp; done) | (simp [*]; done)), H', ⟨by have := HJ2.out; have := HK2.out; have := HJ5.out; omega⟩, ⟨hbz⟩⟩
            ·rw [if_neg c15] at H
             exact absurd H (by simp)
           ·rw [if_neg c14] at H
            exact absurd H (by simp)
          ·rw [if_neg c10] at H
           exact absurd H (by simp)
         ·rw [if_neg c9] at H
          exact absurd H (by simp)
        ·replace c8 := Bool.eq_false_iff.mpr c8
         subst c8
         have H1 : (some (0, 0)) = some (r1, r2) := by rw [if_neg (show ¬ (false = true) by decide)] at H; exact H
         clear H
         have H := H1
         clear H1
         simp only [Option.some.injEq, Prod.mk.injEq] at H
         obtain ⟨rfl, rfl⟩ := H
         go_wp2
         go_ret2
         exact ⟨by first | rfl | (simp [errW_none, errW_some] <;> rfl) | (simp [*, errW_none, errW_some] <;> rfl), hbz⟩
def copperplateref07_three.f (a0 : ByteArray) (a1 : Int) : Option (Bool) := if a1 ≥ 0 then (if a1 < (a0.size : Int) then (if (wrap64 ((a0.size : Int) - a1)) ≥ 3 then (if 0 ≤ a1 then (if a1 ≤ (wrap64 (a1 + 3)) then (if (wrap64 (a1 + 3)) ≤ (a0.size : Int) then (some ((a0.extract (a1 : Int).toNat ((wrap64 (a1 + 3)) : Int).toNat).toList == ([34, 34, 34] : List UInt8))) else (none)) else (none)) else (none)) else (some false)) else (some false)) else (some false)
set_option maxHeartbeats 8000000 in
set_option maxRecDepth 100000 in
theorem copperplateref07_three.calls (a0 : ByteArray) (a1 : Int) (r : Bool) (w : World) (h : copperplateref07_three.f a0 a1 = some r) :
  Calls Tryz.prog 79 #[.string a0, .int .i64 a1] w fun e w' => e = .returned (.bool r) ∧ Drawn0 w w' := by
 have H : (if a1 ≥ 0 then (if a1 < (a0.size : Int) then (if (wrap64 ((a0.size : Int) - a1)) ≥ 3 then (if 0 ≤ a1 then (if a1 ≤ (wrap64 (a1 + 3)) then (if (wrap64 (a1 + 3)) ≤ (a0.size : Int) then (some ((a0.extract (a1 : Int).toNat ((wrap64 (a1 + 3)) : Int).toNat).toList == ([34, 34, 34] : List UInt8))) else (none)) else (none)) else (none)) else (some false)) else (some false)) else (some false)) = some r := h
 clear h
 by_cases c3 : a1 ≥ 0
 ·rw [if_pos c3] at H
  have c3b0 : decide (0 ≤ a1) = true := decide_eq_true c3
  clear c3
  by_cases c4 : a1 < (a0.size : Int)
  ·rw [if_pos c4] at H
   have c4b0 : decide (a1 < (a0.size : Int)) = true := decide_eq_true c4
   clear c4
   by_cases c5 : (wrap64 ((a0.size : Int) - a1)) ≥ 3
   ·rw [if_pos c5] at H
    have c5b0 : decide (3 ≤ (wrap64 ((a0.size : Int) - a1))) = true := decide_eq_true c5
    clear c5
    by_cases c6 : 0 ≤ a1
    ·rw [if_pos c6] at H
     have c6b0 := eq_true c6
     have c6b1 : decide (0 ≤ a1) = true := decide_eq_true c6
     clear c6
     by_cases c7 : a1 ≤ (wrap64 (a1 + 3))
     ·rw [if_pos c7] at H
      have c7b0 := eq_true c7
      have c7b1 : decide (a1 ≤ (wrap64 (a1 + 3))) = true := decide_eq_true c7
      by_cases c8 : (wrap64 (a1 + 3)) ≤ (a0.size : Int)
      ·rw [if_pos c8] at H
       have c8b0 := eq_true c8
       have c8b1 : decide ((wrap64 (a1 + 3)) ≤ (a0.size : Int)) = true := decide_eq_true c8
       obtain rfl := Option.some.inj H
       go_enter Tryz.func79, Tryz.ntmps79
       go_wp2
       go_ret
       exact ⟨by first | rfl | (simp; done) | (simp [*]; done), by repeat (first | exact Drawn0.refl _ | apply Drawn0.step)⟩
      ·rw [if_neg c8] at H
       exact absurd H (by simp)
     ·rw [if_neg c7] at H
      exact absurd H (by simp)
    ·rw [if_neg c6] at H
     exact absurd H (by simp)
   ·rw [if_neg c5] at H
    have c5b0 : decide (3 ≤ (wrap64 ((a0.size : Int) - a1))) = false := decide_eq_false c5
    clear c5
    obtain rfl := Option.some.inj H
    go_enter Tryz.func79, Tryz.ntmps79
    go_wp2
    go_ret
    exact ⟨by first | rfl | (simp; done) | (simp [*]; done), by repeat (first | exact Drawn0.refl _ | apply Drawn0.step)⟩
  ·rw [if_neg c4] at H
   have c4b0 : decide (a1 < (a0.size : Int)) = false := decide_eq_false c4
   clear c4
   obtain rfl := Option.some.inj H
   go_enter Tryz.func79, Tryz.ntmps79
   go_wp2
   go_ret
   exact ⟨by first | rfl | (simp; done) | (simp [*]; done), by repeat (first | exact Drawn0.refl _ | apply Drawn0.step)⟩
 ·rw [if_neg c3] at H
  have c3b0 : decide (0 ≤ a1) = false := decide_eq_false c3
  clear c3
  obtain rfl := Option.some.inj H
  go_enter Tryz.func79, Tryz.ntmps79
  go_wp2
  go_ret
  exact ⟨by first | rfl | (simp; done) | (simp [*]; done), by repeat (first | exact Drawn0.refl _ | apply Drawn0.step)⟩
mutual
def copperplateref07_Raw.l0 : Nat → ByteArray → ByteArray → Int → Option (ByteArray × Int × Bool)
 | 0, _, _, _ => none
 | k + 1, x0, x8, x9 => if x9 < (x0.size : Int) then ((copperplateref07_three.f x0 x9).bind fun t133 => ((copperplateref07_three.f x0 (wrap64 (x9 + 1))).bind fun t134 => (if t133 = true then (some (x8, wrap64 (x9 + 3), true)) else (if 0 ≤ x9 then (if (bt x0 x9) = 92 then (copperplateref07_Raw.j1 k x0 x8 x9 t134) else (copperplateref07_Raw.j1 k x0 x8 x9 false)) else (none))))) else (some ((⟨#[]⟩ : ByteArray), x9, false))
def copperplateref07_Raw.j1 : Nat → ByteArray → ByteArray → Int → Bool → Option (ByteArray × Int × Bool)
 | 0, _, _, _, _ => none
 | k + 1, x0, x8, x9, x43 => if x43 = true then (if x8.size + 3 ≤ 9223372036854775807 then (copperplateref07_Raw.l0 k x0 (x8 ++ (⟨#[34, 34, 34]⟩ : ByteArray)) (wrap64 (x9 + 4))) else (none)) else ((copperplateref02_Next.f k x0 x9).bind fun bt135 => (if bt135.2 = 0 then (some ((⟨#[]⟩ : ByteArray), x9, false)) else (if 0 ≤ x9 then (if x9 ≤ (wrap64 (x9 + bt135.2)) then (if (wrap64 (x9 + bt135.2)) ≤ (x0.size : Int) then (if x8.size + (x0.extract (x9 : Int).toNat ((wrap64 (x9 + bt135.2)) : Int).toNat).size ≤ 9223372036854775807 then (copperplateref07_Raw.l0 k x0 (x8 ++ (x0.extract (x9 : Int).toNat ((wrap64 (x9 + bt135.2)) : Int).toNat)) (wrap64 (x9 + bt135.2))) else (none)) else (none)) else (none)) else (none))))
end
def copperplateref07_Raw.f (k : Nat) (a0 : ByteArray) (a1 : Int) : Option (ByteArray × Int × Bool) := (copperplateref07_three.f a0 a1).bind fun t132 => (if t132 = true then (copperplateref07_Raw.l0 k a0 (⟨#[]⟩ : ByteArray) (wrap64 (a1 + 3))) else (some ((⟨#[]⟩ : ByteArray), a1, false)))
theorem copperplateref07_Raw.mono_l : ∀ k, (∀ y0 y1 y2, LeO (copperplateref07_Raw.l0 k y0 y1 y2) (copperplateref07_Raw.l0 (k + 1) y0 y1 y2)) ∧ (∀ y0 y1 y2 y3, LeO (copperplateref07_Raw.j1 k y0 y1 y2 y3) (copperplateref07_Raw.j1 (k + 1) y0 y1 y2 y3))
 | 0 => ⟨fun _ _ _ r h => by simp [copperplateref07_Raw.l0] at h, fun _ _ _ _ r h => by simp [copperplateref07_Raw.j1] at h⟩
 | k + 1 => by
  obtain ⟨ih0, ih1⟩ := copperplateref07_Raw.mono_l k
  refine ⟨?_, ?_⟩
  ·intro y0 y1 y2
   unfold copperplateref07_Raw.l0
   repeat' first
   | (with_reducible exact ih0 _ _ _)
   | (with_reducible exact ih1 _ _ _ _)
   | (with_reducible exact copperplateref02_Next.mono _ _ _)
   | (with_reducible exact LeO.refl _)
   | (with_reducible exact LeO.none _)
   | (with_reducible refine LeO.ite ?_ ?_)
   | (with_reducible refine LeO.bind ?_ (fun _ => ?_))
   | exact ih0 _ _ _
   | exact ih1 _ _ _ _
   | exact copperplateref02_Next.mono _ _ _
   | exact LeO.none _
   | refine LeO.ite ?_ ?_
   | refine LeO.bind ?_ (fun _ => ?_)
  ·intro y0 y1 y2 y3
   unfold copperplateref07_Raw.j1
   repeat' first
   | (with_reducible exact ih0 _ _ _)
   | (with_reducible exact ih1 _ _ _ _)
   | (with_reducible exact copperplateref02_Next.mono _ _ _)
   | (with_reducible exact LeO.refl _)
   | (with_reducible exact LeO.none _)
   | (with_reducible refine LeO.ite ?_ ?_)
   | (with_reducible refine LeO.bind ?_ (fun _ => ?_))
   | exact ih0 _ _ _
   | exact ih1 _ _ _ _
   | exact copperplateref02_Next.mono _ _ _
   | exact LeO.none _
   | refine LeO.ite ?_ ?_
   | refine LeO.bind ?_ (fun _ => ?_)
theorem copperplateref07_Raw.mono : ∀ a0 a1 k, LeO (copperplateref07_Raw.f k a0 a1) (copperplateref07_Raw.f (k + 1) a0 a1) := by
 intro a0 a1 k
 obtain ⟨ih0, ih1⟩ := copperplateref07_Raw.mono_l k
 unfold copperplateref07_Raw.f
 repeat' first
   | (with_reducible exact ih0 _ _ _)
   | (with_reducible exact ih1 _ _ _ _)
   | (with_reducible exact copperplateref02_Next.mono _ _ _)
   | (with_reducible exact LeO.refl _)
   | (with_reducible exact LeO.none _)
   | (with_reducible refine LeO.ite ?_ ?_)
   | (with_reducible refine LeO.bind ?_ (fun _ => ?_))
   | exact ih0 _ _ _
   | exact ih1 _ _ _ _
   | exact copperplateref02_Next.mono _ _ _
   | exact LeO.none _
   | refine LeO.ite ?_ ?_
   | refine LeO.bind ?_ (fun _ => ?_)
set_option maxHeartbeats 8000000 in
set_option maxRecDepth 100000 in
theorem copperplateref07_Raw.calls (k : Nat) (a0 : ByteArray) (a1 : Int) (r1 : ByteArray) (r2 : Int) (r3 : Bool) (w : World) (h : copperplateref07_Raw.f k a0 a1 = some (r1, r2, r3)) :
  Calls Tryz.prog 60 #[.string a0, .int .i64 a1] w fun e w' => e = .returned (.tuple #[.string r1, .int .i64 r2, .bool r3]) ∧ Below w.heap.size w w' := by
 have HB := Aside0.mk (Below.refl w.heap.size w)
 have H : ((copperplateref07_three.f a0 a1).bind fun t132 => (if t132 = true then (copperplateref07_Raw.l0 k a0 (⟨#[]⟩ : ByteArray) (wrap64 (a1 + 3))) else (some ((⟨#[]⟩ : ByteArray), a1, false)))) = some (r1, r2, r3) := h
 clear h
 replace H := Option.bind_eq_some_iff.mp H
 obtain ⟨t132, A30, H⟩ := H
 replace H : (if t132 = true then (copperplateref07_Raw.l0 k a0 (⟨#[]⟩ : ByteArray) (wrap64 (a1 + 3))) else (some ((⟨#[]⟩ : ByteArray), a1, false))) = some (r1, r2, r3) := H
 have A3 := Aside0.mk A30
 clear A30
 by_cases c4 : t132 = true
 ·subst c4
  have H1 : (copperplateref07_Raw.l0 k a0 (⟨#[]⟩ : ByteArray) (wrap64 (a1 + 3))) = some (r1, r2, r3) := by rw [if_pos rfl] at H; exact H
  clear H
  have H := H1
  clear H1
  have H' := Aside0.mk H
  clear H
  go_enter Tryz.func60, Tryz.ntmps60
  go_wp2_with (first | ((with_reducible refine gate_callee (f := 79) rfl ?_); refine goesL_ (some 16) rfl rfl Tryz.func79 (by kernel_rfl) rfl #[.string a0, .int .i64 a1] rfl gz ?_; (with_reducible refine (copperplateref07_three.calls a0 a1 true _ A3.out).mono ?_); rintro e w' ⟨rfl, ⟨nd, rfl⟩⟩; refine ⟨_, rfl, ?_⟩))
  go_loopg [8, 9] k (fun kq v8 v9 w' => ∃ (x8_1 : ByteArray) (x9_1 : Int), v8 = .string x8_1 ∧ v9 = .int .i64 x9_1 ∧ Aside0 (copperplateref07_Raw.l0 kq a0 x8_1 x9_1 = some (r1, r2, r3)) ∧ Aside0 (kq ≤ k) ∧ Aside0 (Below w.heap.size w w'))
  case atStart => exact ⟨((⟨#[]⟩ : ByteArray)), (wrap64 (a1 + 3)), (by first | rfl | (simp; done) | (simp [*]; done)), (by first | rfl | (simp; done) | (simp [*]; done)), H', ⟨Nat.le_refl _⟩, ⟨hbz⟩⟩
  case round =>
   clear H'
   try clear p2
   try clear c4
   obtain ⟨x8_1, x9_1, rfl, rfl, HA, HK1, HB⟩ := hrel
   cases gk with
   | zero => exact absurd HA.out (by simp [copperplateref07_Raw.l0])
   | succ k1 =>
    have H := HA.out
    clear HA
    simp only [copperplateref07_Raw.l0] at H
    by_cases c5 : x9_1 < (a0.size : Int)
    ·rw [if_pos c5] at H
     have c5b0 : decide (x9_1 < (a0.size : Int)) = true := decide_eq_true c5
     clear c5
     replace H := Option.bind_eq_some_iff.mp H
     obtain ⟨t133, A60, H⟩ := H
     replace H : ((copperplateref07_three.f a0 (wrap64 (x9_1 + 1))).bind fun t134 => (if t133 = true then (some (x8_1, wrap64 (x9_1 + 3), true)) else (if 0 ≤ x9_1 then (if (bt a0 x9_1) = 92 then (copperplateref07_Raw.j1 k1 a0 x8_1 x9_1 t134) else (copperplateref07_Raw.j1 k1 a0 x8_1 x9_1 false)) else (none)))) = some (r1, r2, r3) := H
     have A6 := Aside0.mk A60
     clear A60
     replace H := Option.bind_eq_some_iff.mp H
     obtain ⟨t134, A70, H⟩ := H
     replace H : (if t133 = true then (some (x8_1, wrap64 (x9_1 + 3), true)) else (if 0 ≤ x9_1 then (if (bt a0 x9_1) = 92 then (copperplateref07_Raw.j1 k1 a0 x8_1 x9_1 t134) else (copperplateref07_Raw.j1 k1 a0 x8_1 x9_1 false)) else (none))) = some (r1, r2, r3) := H
     have A7 := Aside0.mk A70
     clear A70
     by_cases c8 : t133 = true
     ·subst c8
      have H1 : (some (x8_1, wrap64 (x9_1 + 3), true)) = some (r1, r2, r3) := by rw [if_pos rfl] at H; exact H
      clear H
      have H := H1
      clear H1
      simp only [Option.some.injEq, Prod.mk.injEq] at H
      obtain ⟨rfl, rfl, rfl⟩ := H
      go_wp2_with (first | ((with_reducible refine gate_callee (f := 79) rfl ?_); refine goesL_ (some 28) rfl rfl Tryz.func79 (by kernel_rfl) rfl #[.string a0, .int .i64 x9_1] rfl gz ?_; (with_reducible refine (copperplateref07_three.calls a0 x9_1 true _ A6.out).mono ?_); rintro e w' ⟨rfl, ⟨nd, rfl⟩⟩; refine ⟨_, rfl, ?_⟩) | ((with_reducible refine gate_callee (f := 79) rfl ?_); refine goesL_ (some 32) rfl rfl Tryz.func79 (by kernel_rfl) rfl #[.string a0, .int .i64 (wrap64 (x9_1 + 1))] rfl gz ?_; (with_reducible refine (copperplateref07_three.calls a0 (wrap64 (x9_1 + 1)) t134 _ A7.out).mono ?_); rintro e w' ⟨rfl, ⟨nd, rfl⟩⟩; refine ⟨_, rfl, ?_⟩))
      go_ret3
      exact ⟨by first | rfl | (simp [errW_none, errW_some] <;> rfl) | (simp [*, errW_none, errW_some] <;> rfl), hbz⟩
     ·replace c8 := Bool.eq_false_iff.mpr c8
      subst c8
      have H1 : (if 0 ≤ x9_1 then (if (bt a0 x9_1) = 92 then (copperplateref07_Raw.j1 k1 a0 x8_1 x9_1 t134) else (copperplateref07_Raw.j1 k1 a0 x8_1 x9_1 false)) else (none)) = some (r1, r2, r3) := by rw [if_neg (show ¬ (false = true) by decide)] at H; exact H
      clear H
      have H := H1
      clear H1
      have HC9 := Aside0.mk H
      clear H
      go_upto_region 11 with (first | ((with_reducible refine gate_callee (f := 79) rfl ?_); refine goesL_ (some 28) rfl rfl Tryz.func79 (by kernel_rfl) rfl #[.string a0, .int .i64 x9_1] rfl gz ?_; (with_reducible refine (copperplateref07_three.calls a0 x9_1 false _ A6.out).mono ?_); rintro e w' ⟨rfl, ⟨nd, rfl⟩⟩; refine ⟨_, rfl, ?_⟩) | ((with_reducible refine gate_callee (f := 79) rfl ?_); refine goesL_ (some 32) rfl rfl Tryz.func79 (by kernel_rfl) rfl #[.string a0, .int .i64 (wrap64 (x9_1 + 1))] rfl gz ?_; (with_reducible refine (copperplateref07_three.calls a0 (wrap64 (x9_1 + 1)) t134 _ A7.out).mono ?_); rintro e w' ⟨rfl, ⟨nd, rfl⟩⟩; refine ⟨_, rfl, ?_⟩))
      (try simp only [Act.put, List.setIfInBounds_toArray, List.set_cons_zero, List.set_cons_succ])
      go_cut [43] (fun v43 wc => ∃ (kq : Nat) (x43_8 : Bool), v43 = .bool x43_8 ∧ Aside0 (copperplateref07_Raw.j1 kq a0 x8_1 x9_1 x43_8 = some (r1, r2, r3)) ∧ Aside0 (kq ≤ k1) ∧ Aside0 (Below w.heap.size w wc))
      case first =>
       have H := HC9.out
       clear HC9
       by_cases c10 : 0 ≤ x9_1
       ·rw [if_pos c10] at H
        have c10b0 : decide (0 ≤ x9_1) = true := decide_eq_true c10
        clear c10
        (first | rw [c10b0] | (simp only [i64_w, i32_w]; rw [c10b0]) | skip)
        by_cases c12 : (bt a0 x9_1) = 92
        ·rw [if_pos c12] at H
         have c12b0 : ((bt a0 x9_1) == 92) = true := beq_iff_eq.mpr c12
         have c12b1 : ((bt a0 x9_1) != 92) = false := bne_eq_false_iff_eq.mpr c12
         clear c12
         have H' := Aside0.mk H
         clear H
         have p11 : 0 ≤ (x9_1 : Int) := of_decide_eq_true (by first | (with_reducible assumption) | assumption)
         have q11 : x9_1 < (a0.size : Int) := of_decide_eq_true (by first | (with_reducible assumption) | assumption)
         have hx11 := bt_at a0 x9_1
         replace p11 := eq_true p11
         replace q11 := eq_true q11
         go_wp2
         go_meet
         case rel => exact ⟨_, (t134), (by first | rfl | (simp; done) | (simp [*]; done)), H', ⟨by have := HK1.out; first | omega | exact Nat.le_refl _⟩, ⟨hbz⟩⟩
        ·rw [if_neg c12] at H
         have c12b0 : ((bt a0 x9_1) == 92) = false := beq_eq_false_iff_ne.mpr c12
         have c12b1 : ((bt a0 x9_1) != 92) = true := bne_iff_ne.mpr c12
         have H' := Aside0.mk H
         clear H
         have p11 : 0 ≤ (x9_1 : Int) := of_decide_eq_true (by first | (with_reducible assumption) | assumption)
         have q11 : x9_1 < (a0.size : Int) := of_decide_eq_true (by first | (with_reducible assumption) | assumption)
         have hx11 := bt_at a0 x9_1
         replace p11 := eq_true p11
         replace q11 := eq_true q11
         go_wp2
         go_meet
         case rel => exact ⟨_, (false), (by first | rfl | (simp; done) | (simp [*]; done)), H', ⟨by have := HK1.out; first | omega | exact Nat.le_refl _⟩, ⟨hbz⟩⟩
       ·rw [if_neg c10] at H
        exact absurd H (by simp)
      case rest =>
       clear HC9
       try clear c1
       try clear p1
       try clear q1
       try clear hx1
       try clear p2
       try clear c4
       try clear c5
       try clear c5b0
       try clear c6
       try clear p6
       try clear c7
       try clear c8
       try clear c10
       try clear c10b0
       try clear p11
       try clear q11
       try clear hx11
       try clear c12
       try clear c12b0
       try clear c12b1
       try clear p11
       try clear p2
       try clear q11
       obtain ⟨kq, x43_8, rfl, HA, HJ8, HB⟩ := hcut
       cases kq with
       | zero => exact absurd HA.out (by simp [copperplateref07_Raw.j1])
       | succ kj8 =>
        have H := HA.out
        clear HA
        simp only [copperplateref07_Raw.j1] at H
        by_cases c13 : x43_8 = true
        ·subst c13
         have H1 : (if x8_1.size + 3 ≤ 9223372036854775807 then (copperplateref07_Raw.l0 kj8 a0 (x8_1 ++ (⟨#[34, 34, 34]⟩ : ByteArray)) (wrap64 (x9_1 + 4))) else (none)) = some (r1, r2, r3) := by rw [if_pos rfl] at H; exact H
         clear H
         have H := H1
         clear H1
         by_cases c14 : x8_1.size + 3 ≤ 9223372036854775807
         ·rw [if_pos c14] at H
          have c14b0 := eq_true c14
          have c14b1 : decide (x8_1.size + 3 ≤ 9223372036854775807) = true := decide_eq_true c14
          try have c14b2 : (9223372036854775807 < x8_1.size + 3) = False := eq_false (Nat.not_lt.2 c14)
          have H' := Aside0.mk H
          clear H
          go_wp2
          go_roundg kj8
          case measure => have := HK1.out; have := HJ8.out; omega
          case rel => exact ⟨(x8_1 ++ (⟨#[34, 34, 34]⟩ : ByteArray)), (wrap64 (x9_1 + 4)), (by first | rfl | (simp; done) | (simp [*]; done)), (by first | rfl | (simp; done) | (simp [*]; done)), H', ⟨by have := HK1.out; have := HJ8.out; omega⟩, ⟨hbz⟩⟩
         ·rw [if_neg c14] at H
          exact absurd H (by simp)
        ·replace c13 := Bool.eq_false_iff.mpr c13
         subst c13
         have H1 : ((copperplateref02_Next.f kj8 a0 x9_1).bind fun bt135 => (if bt135.2 = 0 then (some ((⟨#[]⟩ : ByteArray), x9_1, false)) else (if 0 ≤ x9_1 then (if x9_1 ≤ (wrap64 (x9_1 + bt135.2)) then (if (wrap64 (x9_1 + bt135.2)) ≤ (a0.size : Int) then (if x8_1.size + (a0.extract (x9_1 : Int).toNat ((wrap64 (x9_1 + bt135.2)) : Int).toNat).size ≤ 9223372036854775807 then (copperplateref07_Raw.l0 kj8 a0 (x8_1 ++ (a0.extract (x9_1 : Int).toNat ((wrap64 (x9_1 + bt135.2)) : Int).toNat)) (wrap64 (x9_1 + bt135.2))) else (none)) else (none)) else (none)) else (none)))) = some (r1, r2, r3) := by rw [if_neg (show ¬ (false = true) by decide)] at H; exact H
         clear H
         have H := H1
         clear H1
         replace H := Option.bind_eq_some_iff.mp H
         obtain ⟨⟨t135, t136⟩, A150, H⟩ := H
         replace H : (if t136 = 0 then (some ((⟨#[]⟩ : ByteArray), x9_1, false)) else (if 0 ≤ x9_1 then (if x9_1 ≤ (wrap64 (x9_1 + t136)) then (if (wrap64 (x9_1 + t136)) ≤ (a0.size : Int) then (if x8_1.size + (a0.extract (x9_1 : Int).toNat ((wrap64 (x9_1 + t136)) : Int).toNat).size ≤ 9223372036854775807 then (copperplateref07_Raw.l0 kj8 a0 (x8_1 ++ (a0.extract (x9_1 : Int).toNat ((wrap64 (x9_1 + t136)) : Int).toNat)) (wrap64 (x9_1 + t136))) else (none)) else (none)) else (none)) else (none))) = some (r1, r2, r3) := H
         have A15 := Aside0.mk A150
         clear A150
         by_cases c16 : t136 = 0
         ·rw [if_pos c16] at H
          have c16b0 : (t136 == 0) = true := beq_iff_eq.mpr c16
          have c16b1 : (t136 != 0) = false := bne_eq_false_iff_eq.mpr c16
          clear c16
          simp only [Option.some.injEq, Prod.mk.injEq] at H
          obtain ⟨rfl, rfl, rfl⟩ := H
          go_wp2_with (first | ((with_reducible refine gate_callee (f := 66) rfl ?_); refine goesL_ (some 51) rfl rfl Tryz.func66 (by kernel_rfl) rfl #[.string a0, .int .i64 x9_1] rfl gz ?_; (with_reducible refine (copperplateref02_Next.calls kj8 a0 x9_1 t135 t136 _ A15.out).mono ?_); rintro e w17 ⟨rfl, hb⟩; refine ⟨_, rfl, ?_⟩; have n0_ := Aside0.mk (below_step hbz hb); clear HB; have HB := n0_; clear n0_; (try clear hb); (try clear hb2); (try clear hk); (try clear hi)))
          go_ret3
          exact ⟨by first | rfl | (simp [errW_none, errW_some] <;> rfl) | (simp [*, errW_none, errW_some] <;> rfl), hbz⟩
         ·rw [if_neg c16] at H
          have c16b0 : (t136 == 0) = false := beq_eq_false_iff_ne.mpr c16
          have c16b1 : (t136 != 0) = true := bne_iff_ne.mpr c16
          by_cases c18 : 0 ≤ x9_1
          ·rw [if_pos c18] at H
           have c18b0 := eq_true c18
           have c18b1 : decide (0 ≤ x9_1) = true := decide_eq_true c18
           clear c18
           by_cases c19 : x9_1 ≤ (wrap64 (x9_1 + t136))
           ·rw [if_pos c19] at H
            have c19b0 := eq_true c19
            have c19b1 : decide (x9_1 ≤ (wrap64 (x9_1 + t136))) = true := decide_eq_true c19
            by_cases c20 : (wrap64 (x9_1 + t136)) ≤ (a0.size : Int)
            ·rw [if_pos c20] at H
             have c20b0 := eq_true c20
             have c20b1 : decide ((wrap64 (x9_1 + t136)) ≤ (a0.size : Int)) = true := decide_eq_true c20
             by_cases c21 : x8_1.size + (a0.extract (x9_1 : Int).toNat ((wrap64 (x9_1 + t136)) : Int).toNat).size ≤ 9223372036854775807
             ·rw [if_pos c21] at H
              have c21b0 := eq_true c21
              have c21b1 : decide (x8_1.size + (a0.extract (x9_1 : Int).toNat ((wrap64 (x9_1 + t136)) : Int).toNat).size ≤ 9223372036854775807) = true := decide_eq_true c21
              try have c21b2 : (9223372036854775807 < x8_1.size + (a0.extract (x9_1 : Int).toNat ((wrap64 (x9_1 + t136)) : Int).toNat).size) = False := eq_false (Nat.not_lt.2 c21)
              have H' := Aside0.mk H
              clear H
              go_wp2_with (first | ((with_reducible refine gate_callee (f := 66) rfl ?_); refine goesL_ (some 51) rfl rfl Tryz.func66 (by kernel_rfl) rfl #[.string a0, .int .i64 x9_1] rfl gz ?_; (with_reducible refine (copperplateref02_Next.calls kj8 a0 x9_1 t135 t136 _ A15.out).mono ?_); rintro e w22 ⟨rfl, hb⟩; refine ⟨_, rfl, ?_⟩; have n0_ := Aside0.mk (below_step hbz hb); clear HB; have HB := n0_; clear n0_; (try clear hb); (try clear hb2); (try clear hk); (try clear hi)))
              go_roundg kj8
              case measure => have := HK1.out; have := HJ8.out; omega
              case rel => exact ⟨(x8_1 ++ (a0.extract (x9_1 : Int).toNat ((wrap64 (x9_1 + t136)) : Int).toNat)), (wrap64 (x9_1 + t136)), (by first | rfl | (simp; done) | (simp [*]; done)), (by first | rfl | (simp; done) | (simp [*]; done)), H', ⟨by have := HK1.out; have := HJ8.out; omega⟩, ⟨hbz⟩⟩
             ·rw [if_neg c21] at H
              exact absurd H (by simp)
            ·rw [if_neg c20] at H
             exact absurd H (by simp)
           ·rw [if_neg c19] at H
            exact absurd H (by simp)
          ·rw [if_neg c18] at H
           exact absurd H (by simp)
    ·rw [if_neg c5] at H
     have c5b0 : decide (x9_1 < (a0.size : Int)) = false := decide_eq_false c5
     clear c5
     simp only [Option.some.injEq, Prod.mk.injEq] at H
     obtain ⟨rfl, rfl, rfl⟩ := H
     go_wp2
     go_ret3
     exact ⟨by first | rfl | (simp [errW_none, errW_some] <;> rfl) | (simp [*, errW_none, errW_some] <;> rfl), hbz⟩
 ·replace c4 := Bool.eq_false_iff.mpr c4
  subst c4
  have H1 : (some ((⟨#[]⟩ : ByteArray), a1, false)) = some (r1, r2, r3) := by rw [if_neg (show ¬ (false = true) by decide)] at H; exact H
  clear H
  have H := H1
  clear H1
  simp only [Option.some.injEq, Prod.mk.injEq] at H
  obtain ⟨rfl, rfl, rfl⟩ := H
  go_enter Tryz.func60, Tryz.ntmps60
  go_wp2_with (first | ((with_reducible refine gate_callee (f := 79) rfl ?_); refine goesL_ (some 16) rfl rfl Tryz.func79 (by kernel_rfl) rfl #[.string a0, .int .i64 a1] rfl gz ?_; (with_reducible refine (copperplateref07_three.calls a0 a1 false _ A3.out).mono ?_); rintro e w' ⟨rfl, ⟨nd, rfl⟩⟩; refine ⟨_, rfl, ?_⟩))
  go_ret3
  exact ⟨by first | rfl | (simp [errW_none, errW_some] <;> rfl) | (simp [*, errW_none, errW_some] <;> rfl), hbz⟩
end Go.Proofs.YtjgpmfjkcioinaaGreatDoor.Q
