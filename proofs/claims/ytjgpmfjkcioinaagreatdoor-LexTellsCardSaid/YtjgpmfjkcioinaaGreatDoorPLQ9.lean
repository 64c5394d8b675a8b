/-
  Texts of this seat, put together by bundle.py.
-/
import Derived.Test.YtjgpmfjkcioinaaGreatDoorPLGG9
import Derived.Test.YtjgpmfjkcioinaaGreatDoorPLQ8
namespace Go.Proofs.YtjgpmfjkcioinaaGreatDoor.Q
open Go.Proofs.YtjgpmfjkcioinaaGreatDoor.G
open Go.RowKit Go.Proofs.YtjgpmfjkcioinaaGreatDoorW.PrintWords Go.Proofs.YtjgpmfjkcioinaaGreatDoorW.PrintLast Go.Proofs.YtjgpmfjkcioinaaGreatDoorW.PrintMore
attribute [local go_sem] max2_int min2_int max_two min_two max_three min_three max_four min_four
set_option linter.unusedVariables false
set_option linter.unusedSimpArgs false
mutual
def copperplateref06_Escape.j0 : Nat → ByteArray → Int → Bool → Option (ByteArray × Int × Bool)
 | 0, _, _, _ => none
 | k + 1, x0, x1, x26 => if x26 = true then (some ((⟨#[]⟩ : ByteArray), x1, false)) else (if 0 ≤ (wrap64 (x1 + 1)) then (if (wrap64 (x1 + 1)) < (x0.size : Int) then ((copperplateref06_short.f k (bt x0 (wrap64 (x1 + 1)))).bind fun t183 => (if t183 ≥ 0 then (some (strOfNums (([(t183) % 256] : List Int)), wrap64 (x1 + 2), true)) else ((copperplateref06_Hex.f k x0 (wrap64 (x1 + 2))).bind fun bt187 => (if (bt x0 (wrap64 (x1 + 1))) = 117 then (copperplateref06_Escape.j1 k x0 x1 bt187.1 (!bt187.2)) else (copperplateref06_Escape.j1 k x0 x1 bt187.1 true))))) else (none)) else (none))
def copperplateref06_Escape.j1 : Nat → ByteArray → Int → Int → Bool → Option (ByteArray × Int × Bool)
 | 0, _, _, _, _ => none
 | k + 1, x0, x1, x8, x56 => if x56 = true then (some ((⟨#[]⟩ : ByteArray), x1, false)) else (if x8 < 55296 then (copperplateref06_Escape.j2 k x0 x1 x8 true) else (copperplateref06_Escape.j2 k x0 x1 x8 (decide (x8 > 57343))))
def copperplateref06_Escape.j2 : Nat → ByteArray → Int → Int → Bool → Option (ByteArray × Int × Bool)
 | 0, _, _, _, _ => none
 | k + 1, x0, x1, x8, x63 => if x63 = true then ((copperplateref06_put.f x8).bind fun t189 => (some (t189, wrap64 (x1 + 6), true))) else ((copperplateref06_Hex.f k x0 (wrap64 (x1 + 8))).bind fun bt190 => (if x8 > 56319 then (some ((⟨#[]⟩ : ByteArray), x1, false)) else (if bt190.2 = true then (if 0 ≤ (wrap64 (x1 + 6)) then (if (wrap64 (x1 + 6)) < (x0.size : Int) then (if (bt x0 (wrap64 (x1 + 6))) = 92 then (if 0 ≤ (wrap64 (x1 + 7)) then (if (wrap64 (x1 + 7)) < (x0.size : Int) then (if (bt x0 (wrap64 (x1 + 7))) = 117 then (if bt190.1 < 56320 then (some ((⟨#[]⟩ : ByteArray), x1, false)) else (if bt190.1 > 57343 then (some ((⟨#[]⟩ : ByteArray), x1, false)) else ((copperplateref06_put.f (wrap64 ((wrap64 ((wrap64 (65536 + (wrap64 (1024 * (wrap64 (x8 - 55296)))))) + bt190.1)) - 56320))).bind fun t192 => (some (t192, wrap64 (x1 + 12), true))))) else (some ((⟨#[]⟩ : ByteArray), x1, false))) else (none)) else (none)) else (some ((⟨#[]⟩ : ByteArray), x1, false))) else (none)) else (none)) else (some ((⟨#[]⟩ : ByteArray), x1, false)))))
end
def copperplateref06_Escape.f (k : Nat) (a0 : ByteArray) (a1 : Int) : Option (ByteArray × Int × Bool) := if a1 < 0 then (copperplateref06_Escape.j0 k a0 a1 true) else (if a1 ≥ (wrap64 ((a0.size : Int) - 1)) then (copperplateref06_Escape.j0 k a0 a1 true) else (if 0 ≤ a1 then (if a1 < (a0.size : Int) then (copperplateref06_Escape.j0 k a0 a1 ((bt a0 a1) != 92)) else (none)) else (none)))
theorem copperplateref06_Escape.mono_l : ∀ k, (∀ y0 y1 y2, LeO (copperplateref06_Escape.j0 k y0 y1 y2) (copperplateref06_Escape.j0 (k + 1) y0 y1 y2)) ∧ (∀ y0 y1 y2 y3, LeO (copperplateref06_Escape.j1 k y0 y1 y2 y3) (copperplateref06_Escape.j1 (k + 1) y0 y1 y2 y3)) ∧ (∀ y0 y1 y2 y3, LeO (copperplateref06_Escape.j2 k y0 y1 y2 y3) (copperplateref06_Escape.j2 (k + 1) y0 y1 y2 y3))
 | 0 => ⟨fun _ _ _ r h => by simp [copperplateref06_Escape.j0] at h, fun _ _ _ _ r h => by simp [copperplateref06_Escape.j1] at h, fun _ _ _ _ r h => by simp [copperplateref06_Escape.j2] at h⟩
 | k + 1 => by
  obtain ⟨ih0, ih1, ih2⟩ := copperplateref06_Escape.mono_l k
  refine ⟨?_, ?_, ?_⟩
  ·intro y0 y1 y2
   unfold copperplateref06_Escape.j0
   repeat' first
   | (with_reducible exact ih0 _ _ _)
   | (with_reducible exact ih1 _ _ _ _)
   | (with_reducible exact ih2 _ _ _ _)
   | (with_reducible exact copperplateref06_Hex.mono _ _ _)
   | (with_reducible exact copperplateref06_short.mono _ _)
   | (with_reducible exact LeO.refl _)
   | (with_reducible exact LeO.none _)
   | (with_reducible refine LeO.ite ?_ ?_)
   | (with_reducible refine LeO.bind ?_ (fun _ => ?_))
   | exact ih0 _ _ _
   | exact ih1 _ _ _ _
   | exact ih2 _ _ _ _
   | exact copperplateref06_Hex.mono _ _ _
   | exact copperplateref06_short.mono _ _
   | exact LeO.none _
   | refine LeO.ite ?_ ?_
   | refine LeO.bind ?_ (fun _ => ?_)
  ·intro y0 y1 y2 y3
   unfold copperplateref06_Escape.j1
   repeat' first
   | (with_reducible exact ih0 _ _ _)
   | (with_reducible exact ih1 _ _ _ _)
   | (with_reducible exact ih2 _ _ _ _)
   | (with_reducible exact copperplateref06_Hex.mono _ _ _)
   | (with_reducible exact copperplateref06_short.mono _ _)
   | (with_reducible exact LeO.refl _)
   | (with_reducible exact LeO.none _)
   | (with_reducible refine LeO.ite ?_ ?_)
   | (with_reducible refine LeO.bind ?_ (fun _ => ?_))
   | exact ih0 _ _ _
   | exact ih1 _ _ _ _
   | exact ih2 _ _ _ _
   | exact copperplateref06_Hex.mono _ _ _
   | exact copperplateref06_short.mono _ _
   | exact LeO.none _
   | refine LeO.ite ?_ ?_
   | refine LeO.bind ?_ (fun _ => ?_)
  ·intro y0 y1 y2 y3
   unfold copperplateref06_Escape.j2
   repeat' first
   | (with_reducible exact ih0 _ _ _)
   | (with_reducible exact ih1 _ _ _ _)
   | (with_reducible exact ih2 _ _ _ _)
   | (with_reducible exact copperplateref06_Hex.mono _ _ _)
   | (with_reducible exact copperplateref06_short.mono _ _)
   | (with_reducible exact LeO.refl _)
   | (with_reducible exact LeO.none _)
   | (with_reducible refine LeO.ite ?_ ?_)
   | (with_reducible refine LeO.bind ?_ (fun _ => ?_))
   | exact ih0 _ _ _
   | exact ih1 _ _ _ _
   | exact ih2 _ _ _ _
   | exact copperplateref06_Hex.mono _ _ _
   | exact copperplateref06_short.mono _ _
   | exact LeO.none _
   | refine LeO.ite ?_ ?_
   | refine LeO.bind ?_ (fun _ => ?_)
theorem copperplateref06_Escape.mono : ∀ a0 a1 k, LeO (copperplateref06_Escape.f k a0 a1) (copperplateref06_Escape.f (k + 1) a0 a1) := by
 intro a0 a1 k
 obtain ⟨ih0, ih1, ih2⟩ := copperplateref06_Escape.mono_l k
 unfold copperplateref06_Escape.f
 repeat' first
   | (with_reducible exact ih0 _ _ _)
   | (with_reducible exact ih1 _ _ _ _)
   | (with_reducible exact ih2 _ _ _ _)
   | (with_reducible exact copperplateref06_Hex.mono _ _ _)
   | (with_reducible exact copperplateref06_short.mono _ _)
   | (with_reducible exact LeO.refl _)
   | (with_reducible exact LeO.none _)
   | (with_reducible refine LeO.ite ?_ ?_)
   | (with_reducible refine LeO.bind ?_ (fun _ => ?_))
   | exact ih0 _ _ _
   | exact ih1 _ _ _ _
   | exact ih2 _ _ _ _
   | exact copperplateref06_Hex.mono _ _ _
   | exact copperplateref06_short.mono _ _
   | exact LeO.none _
   | refine LeO.ite ?_ ?_
   | refine LeO.bind ?_ (fun _ => ?_)
set_option maxHeartbeats 8000000 in
set_option maxRecDepth 100000 in
theorem copperplateref06_Escape.calls (k : Nat) (a0 : ByteArray) (a1 : Int) (r1 : ByteArray) (r2 : Int) (r3 : Bool) (w : World) (h : copperplateref06_Escape.f k a0 a1 = some (r1, r2, r3)) :
  Calls Tryz.prog 84 #[.string a0, .int .i64 a1] w fun e w' => e = .returned (.tuple #[.string r1, .int .i64 r2, .bool r3]) ∧ Below w.heap.size w w' := by
 have HB := Aside0.mk (Below.refl w.heap.size w)
 have H : (if a1 < 0 then (copperplateref06_Escape.j0 k a0 a1 true) else (if a1 ≥ (wrap64 ((a0.size : Int) - 1)) then (copperplateref06_Escape.j0 k a0 a1 true) else (if 0 ≤ a1 then (if a1 < (a0.size : Int) then (copperplateref06_Escape.j0 k a0 a1 ((bt a0 a1) != 92)) else (none)) else (none)))) = some (r1, r2, r3) := h
 clear h
 have HC3 := Aside0.mk H
 clear H
 go_enter Tryz.func84, Tryz.ntmps84
 go_upto_region 1 with (fail)
 go_cut [26] (fun v26 wc => ∃ (kq : Nat) (x26_2 : Bool), v26 = .bool x26_2 ∧ Aside0 (copperplateref06_Escape.j0 kq a0 a1 x26_2 = some (r1, r2, r3)) ∧ Aside0 (kq ≤ k) ∧ Aside0 (Below w.heap.size w wc))
 case first =>
  have H := HC3.out
  clear HC3
  by_cases c4 : a1 < 0
  ·rw [if_pos c4] at H
   have c4b0 : decide (a1 < 0) = true := decide_eq_true c4
   clear c4
   (first | rw [c4b0] | (simp only [i64_w, i32_w]; rw [c4b0]) | skip)
   have H' := Aside0.mk H
   clear H
   go_wp2
   go_meet
   case rel => exact ⟨_, (true), (by first | rfl | (simp; done) | (simp [*]; done)), H', ⟨by first | omega | exact Nat.le_refl _⟩, ⟨hbz⟩⟩
  ·rw [if_neg c4] at H
   have c4b0 : decide (a1 < 0) = false := decide_eq_false c4
   clear c4
   (first | rw [c4b0] | (simp only [i64_w, i32_w]; rw [c4b0]) | skip)
   by_cases c5 : a1 ≥ (wrap64 ((a0.size : Int) - 1))
   ·rw [if_pos c5] at H
    have c5b0 : decide ((wrap64 ((a0.size : Int) - 1)) ≤ a1) = true := decide_eq_true c5
    clear c5
    have H' := Aside0.mk H
    clear H
    go_wp2
    go_meet
    case rel => exact ⟨_, (true), (by first | rfl | (simp; done) | (simp [*]; done)), H', ⟨by first | omega | exact Nat.le_refl _⟩, ⟨hbz⟩⟩
   ·rw [if_neg c5] at H
    have c5b0 : decide ((wrap64 ((a0.size : Int) - 1)) ≤ a1) = false := decide_eq_false c5
    clear c5
    by_cases c6 : 0 ≤ a1
    ·rw [if_pos c6] at H
     have c6b0 : decide (0 ≤ a1) = true := decide_eq_true c6
     clear c6
     by_cases c7 : a1 < (a0.size : Int)
     ·rw [if_pos c7] at H
      have c7b0 : decide (a1 < (a0.size : Int)) = true := decide_eq_true c7
      clear c7
      have H' := Aside0.mk H
      clear H
      have p8 : 0 ≤ (a1 : Int) := of_decide_eq_true (by first | (with_reducible assumption) | assumption)
      have q8 : a1 < (a0.size : Int) := of_decide_eq_true (by first | (with_reducible assumption) | assumption)
      have hx8 := bt_at a0 a1
      replace p8 := eq_true p8
      replace q8 := eq_true q8
      go_wp2
      go_meet
      case rel => exact ⟨_, (((bt a0 a1) != 92)), (by first | rfl | (simp; done) | (simp [*]; done)), H', ⟨by first | omega | exact Nat.le_refl _⟩, ⟨hbz⟩⟩
     ·rw [if_neg c7] at H
      exact absurd H (by simp)
    ·rw [if_neg c6] at H
     exact absurd H (by simp)
 case rest =>
  clear HC3
  try clear p2
  try clear c4
  try clear c4b0
  try clear c5
  try clear c5b0
  try clear c6
  try clear c6b0
  try clear p6
  try clear c7
  try clear c7b0
  try clear c8
  try clear p8
  try clear q8
  try clear hx8
  try clear p8
  try clear q8
  obtain ⟨kq, x26_2, rfl, HA, HJ2, HB⟩ := hcut
  cases kq with
  | zero => exact absurd HA.out (by simp [copperplateref06_Escape.j0])
  | succ kj2 =>
   have H := HA.out
   clear HA
   simp only [copperplateref06_Escape.j0] at H
   by_cases c9 : x26_2 = true
   ·subst c9
    have H1 : (some ((⟨#[]⟩ : ByteArray), a1, false)) = some (r1, r2, r3) := by rw [if_pos rfl] at H; exact H
    clear H
    have H := H1
    clear H1
    simp only [Option.some.injEq, Prod.mk.injEq] at H
    obtain ⟨rfl, rfl, rfl⟩ := H
    go_wp2
    go_ret3
    exact ⟨by first | rfl | (simp [errW_none, errW_some] <;> rfl) | (simp [*, errW_none, errW_some] <;> rfl), hbz⟩
   ·replace c9 := Bool.eq_false_iff.mpr c9
    subst c9
    have H1 : (if 0 ≤ (wrap64 (a1 + 1)) then (if (wrap64 (a1 + 1)) < (a0.size : Int) then ((copperplateref06_short.f kj2 (bt a0 (wrap64 (a1 + 1)))).bind fun t183 => (if t183 ≥ 0 then (some (strOfNums (([(t183) % 256] : List Int)), wrap64 (a1 + 2), true)) else ((copperplateref06_Hex.f kj2 a0 (wrap64 (a1 + 2))).bind fun bt187 => (if (bt a0 (wrap64 (a1 + 1))) = 117 then (copperplateref06_Escape.j1 kj2 a0 a1 bt187.1 (!bt187.2)) else (copperplateref06_Escape.j1 kj2 a0 a1 bt187.1 true))))) else (none)) else (none)) = some (r1, r2, r3) := by rw [if_neg (show ¬ (false = true) by decide)] at H; exact H
    clear H
    have H := H1
    clear H1
    obtain ⟨ji10, hji10⟩ : ∃ j_ : Int, (wrap64 (a1 + 1)) = j_ := ⟨_, rfl⟩
    replace H : (if 0 ≤ (ji10) then (if (ji10) < (a0.size : Int) then ((copperplateref06_short.f kj2 (bt a0 (ji10))).bind fun t183 => (if t183 ≥ 0 then (some (strOfNums (([(t183) % 256] : List Int)), wrap64 (a1 + 2), true)) else ((copperplateref06_Hex.f kj2 a0 (wrap64 (a1 + 2))).bind fun bt187 => (if (bt a0 (ji10)) = 117 then (copperplateref06_Escape.j1 kj2 a0 a1 bt187.1 (!bt187.2)) else (copperplateref06_Escape.j1 kj2 a0 a1 bt187.1 true))))) else (none)) else (none)) = some (r1, r2, r3) := by first | (rw [hji10] at H; exact H) | (simp only [hji10] at H ⊢; exact H)
    have hji10w : (IntKind.i64.wrap (a1 + 1)) = ji10 := (i64_w _).trans hji10
    by_cases c11 : 0 ≤ (ji10)
    ·rw [if_pos c11] at H
     have c11b0 : decide (0 ≤ (ji10)) = true := decide_eq_true c11
     clear c11
     by_cases c12 : (ji10) < (a0.size : Int)
     ·rw [if_pos c12] at H
      have c12b0 : decide ((ji10) < (a0.size : Int)) = true := decide_eq_true c12
      clear c12
      replace H := Option.bind_eq_some_iff.mp H
      obtain ⟨t183, A140, H⟩ := H
      replace H : (if t183 ≥ 0 then (some (strOfNums (([(t183) % 256] : List Int)), wrap64 (a1 + 2), true)) else ((copperplateref06_Hex.f kj2 a0 (wrap64 (a1 + 2))).bind fun bt187 => (if (bt a0 (ji10)) = 117 then (copperplateref06_Escape.j1 kj2 a0 a1 bt187.1 (!bt187.2)) else (copperplateref06_Escape.j1 kj2 a0 a1 bt187.1 true)))) = some (r1, r2, r3) := H
      have A14 := Aside0.mk A140
      clear A140
      by_cases c15 : t183 ≥ 0
      ·rw [if_pos c15] at H
       have c15b0 : decide (0 ≤ t183) = true := decide_eq_true c15
       clear c15
       obtain ⟨y184, hy184⟩ : ∃ y_ : List Int, y_ = (([(t183) % 256] : List Int)) := ⟨_, rfl⟩
       replace H : (some (strOfNums y184, wrap64 (a1 + 2), true)) = some (r1, r2, r3) := by first | (rw [hy184]; with_reducible exact H) | (have H2_ := (Option.bind_some _ _).symm.trans H; rw [hy184]; with_reducible exact H2_) | (have H2_ := (Option.bind_some _ _).symm.trans H; with_reducible exact H2_) | with_reducible exact H | (rw [hy184]; exact H) | exact H
       have Ny184 := Aside0.mk hy184
       clear hy184
       simp only [Option.some.injEq, Prod.mk.injEq] at H
       obtain ⟨rfl, rfl, rfl⟩ := H
       have p13 : 0 ≤ ((ji10) : Int) := of_decide_eq_true (by first | (with_reducible assumption) | assumption)
       have q13 : (ji10) < (a0.size : Int) := of_decide_eq_true (by first | (with_reducible assumption) | assumption)
       have hx13 := bt_at a0 (ji10)
       replace p13 := eq_true p13
       replace q13 := eq_true q13
       go_wp2_with (first | ((with_reducible refine gate_callee (f := 96) rfl ?_); refine goesL_ (some 32) rfl rfl Tryz.func96 (by kernel_rfl) rfl #[.int .u8 (bt a0 (ji10))] rfl (by (try simp only [List.map_toArray, List.map_cons, List.map_nil]); first | done | (simp only [hji10]; rfl) | rfl | (simp only [List.length_drop, List.length_take]; rfl)) ?_; (with_reducible refine (copperplateref06_short.calls kj2 (bt a0 (ji10)) t183 _ A14.out).mono ?_); rintro e w' ⟨rfl, ⟨nd, rfl⟩⟩; refine ⟨_, rfl, ?_⟩) | ((with_reducible refine gate_dst (N := 37) rfl ?_); (try (refine gate_guard (by rfl) ?_; dsimp only)); refine Kd.R_lit (Kd.int .u8) _ 5 ?hg (N := 37) ?hd (xs := ([(t183) % 256] : List Int)) (inner := [.int .u8 ((t183) % 256)]) (ok := fun _ => True) (okp := fun _ => True) ?hr ?hp (fun _ hk => hk) trivial (Below.refl _ _) (Nat.le_refl _) (by simp) ?_; (case hd => rfl); (case hg => rfl); (case hr => first | (go_simp; done) | (go_simp; rfl)); (case hp => exact (Reps.one (show Kd.M (Kd.int .u8) _ _ _ ((t183) % 256) [.int .u8 ((t183) % 256)] from rfl) (Reps.none _ _))); intro v185 w16 ho17 hb hg_ hnew_; clear hg_ hnew_; (first | rw [← Ny184.out] at ho17 | (simp only [Int.reduceToNat] at ho17; rw [← Ny184.out] at ho17)); have n0_ := Aside0.mk (Kd.R_lower ho17 (below_size hbz)); have n1_ := Aside0.mk (below_step hbz hb); clear HB; have HO186 := n0_; have HB := n1_; clear n0_ n1_; clear hb ho17; have hcv18 := own_string (P := Tryz.prog) Tryz.underlying55 Tryz.underlying5 Tryz.underlying9 (Kd.own_of_R HO186.out)))
       go_ret3
       exact ⟨by first | rfl | (simp [errW_none, errW_some] <;> rfl) | (simp only [← hji10]; first | rfl | (simp [errW_none, errW_some] <;> rfl)) | (simp [*, errW_none, errW_some] <;> rfl), hbz⟩
      ·rw [if_neg c15] at H
       have c15b0 : decide (0 ≤ t183) = false := decide_eq_false c15
       clear c15
       replace H := Option.bind_eq_some_iff.mp H
       obtain ⟨⟨t187, t188⟩, A190, H⟩ := H
       replace H : (if (bt a0 (ji10)) = 117 then (copperplateref06_Escape.j1 kj2 a0 a1 t187 (!t188)) else (copperplateref06_Escape.j1 kj2 a0 a1 t187 true)) = some (r1, r2, r3) := H
       have A19 := Aside0.mk A190
       clear A190
       have HC20 := Aside0.mk H
       clear H
       have p13 : 0 ≤ ((ji10) : Int) := of_decide_eq_true (by first | (with_reducible assumption) | assumption)
       have q13 : (ji10) < (a0.size : Int) := of_decide_eq_true (by first | (with_reducible assumption) | assumption)
       have hx13 := bt_at a0 (ji10)
       replace p13 := eq_true p13
       replace q13 := eq_true q13
       go_upto_region 7 with (first | ((with_reducible refine gate_callee (f := 96) rfl ?_); refine goesL_ (some 32) rfl rfl Tryz.func96 (by kernel_rfl) rfl #[.int .u8 (bt a0 (ji10))] rfl (by (try simp only [List.map_toArray, List.map_cons, List.map_nil]); first | done | (simp only [hji10]; rfl) | rfl | (simp only [List.length_drop, List.length_take]; rfl)) ?_; (with_reducible refine (copperplateref06_short.calls kj2 (bt a0 (ji10)) t183 _ A14.out).mono ?_); rintro e w' ⟨rfl, ⟨nd, rfl⟩⟩; refine ⟨_, rfl, ?_⟩) | ((with_reducible refine gate_callee (f := 97) rfl ?_); refine goesL_ (some 45) rfl rfl Tryz.func97 (by kernel_rfl) rfl #[.string a0, .int .i64 (wrap64 (a1 + 2))] rfl gz ?_; (with_reducible refine (copperplateref06_Hex.calls kj2 a0 (wrap64 (a1 + 2)) t187 t188 _ A19.out).mono ?_); rintro e w' ⟨rfl, ⟨nd, rfl⟩⟩; refine ⟨_, rfl, ?_⟩))
       (try simp only [Act.put, List.setIfInBounds_toArray, List.set_cons_zero, List.set_cons_succ])
       go_cut [56] (fun v56 wc => ∃ (kq : Nat) (x56_19 : Bool), v56 = .bool x56_19 ∧ Aside0 (copperplateref06_Escape.j1 kq a0 a1 t187 x56_19 = some (r1, r2, r3)) ∧ Aside0 (kq ≤ kj2) ∧ Aside0 (Below w.heap.size w wc))
       case first =>
        have H := HC20.out
        clear HC20
        by_cases c22 : (bt a0 (ji10)) = 117
        ·rw [if_pos c22] at H
         have c22b0 : ((bt a0 (ji10)) == 117) = true := beq_iff_eq.mpr c22
         have c22b1 : ((bt a0 (ji10)) != 117) = false := bne_eq_false_iff_eq.mpr c22
         clear c22
         (first | rw [c22b0] | (simp only [i64_w, i32_w]; rw [c22b0]) | skip)
         have H' := Aside0.mk H
         clear H
         have p21 : 0 ≤ ((ji10) : Int) := of_decide_eq_true (by first | (with_reducible assumption) | assumption)
         have q21 : (ji10) < (a0.size : Int) := of_decide_eq_true (by first | (with_reducible assumption) | assumption)
         have hx21 := bt_at a0 (ji10)
         replace p21 := eq_true p21
         replace q21 := eq_true q21
         go_wp2
         go_meet
         case rel => exact ⟨_, (!t188), (by first | rfl | (simp; done) | (simp [*]; done)), H', ⟨by have := HJ2.out; first | omega | exact Nat.le_refl _⟩, ⟨hbz⟩⟩
        ·rw [if_neg c22] at H
         have c22b0 : ((bt a0 (ji10)) == 117) = false := beq_eq_false_iff_ne.mpr c22
         have c22b1 : ((bt a0 (ji10)) != 117) = true := bne_iff_ne.mpr c22
         (first | rw [c22b0] | (simp only [i64_w, i32_w]; rw [c22b0]) | skip)
         have H' := Aside0.mk H
         clear H
         have p21 : 0 ≤ ((ji10) : Int) := of_decide_eq_true (by first | (with_reducible assumption) | assumption)
         have q21 : (ji10) < (a0.size : Int) := of_decide_eq_true (by first | (with_reducible assumption) | assumption)
         have hx21 := bt_at a0 (ji10)
         replace p21 := eq_true p21
         replace q21 := eq_true q21
         go_wp2
         go_meet
         case rel => exact ⟨_, (true), (by first | rfl | (simp; done) | (simp [*]; done)), H', ⟨by have := HJ2.out; first | omega | exact Nat.le_refl _⟩, ⟨hbz⟩⟩
       case rest =>
        clear HC20
        try clear c1
        try clear p1
        try clear q1
        try clear hx1
        try clear hcv1
        try clear c2
        try clear p2
        try clear q2
        try clear hx2
        try clear c4
        try clear c4b0
        try clear c5
        try clear c5b0
        try clear c6
        try clear c6b0
        try clear p6
        try clear c7
        try clear c7b0
        try clear c8
        try clear p8
        try clear q8
        try clear hx8
        try clear c9
        try clear c11
        try clear c11b0
        try clear c12
        try clear c12b0
        try clear p13
        try clear q13
        try clear hx13
        try clear c15
        try clear c15b0
        try clear hcv18
        try clear p21
        try clear q21
        try clear hx21
        try clear c22
        try clear c22b0
        try clear c22b1
        try clear p13
        try clear p2
        try clear p21
        try clear p6
        try clear p8
        try clear q13
        try clear q21
        try clear q8
        obtain ⟨kq, x56_19, rfl, HA, HJ19, HB⟩ := hcut
        cases kq with
        | zero => exact absurd HA.out (by simp [copperplateref06_Escape.j1])
        | succ kj19 =>
         have H := HA.out
         clear HA
         simp only [copperplateref06_Escape.j1] at H
         by_cases c23 : x56_19 = true
         ·subst c23
          have H1 : (some ((⟨#[]⟩ : ByteArray), a1, false)) = some (r1, r2, r3) := by rw [if_pos rfl] at H; exact H
          clear H
          have H := H1
          clear H1
          simp only [Option.some.injEq, Prod.mk.injEq] at H
          obtain ⟨rfl, rfl, rfl⟩ := H
          go_wp2
          go_ret3
          exact ⟨by first | rfl | (simp [errW_none, errW_some] <;> rfl) | (simp only [← hji10]; first | rfl | (simp [errW_none, errW_some] <;> rfl)) | (simp [*, errW_none, errW_some] <;> rfl), hbz⟩
         ·replace c23 := Bool.eq_false_iff.mpr c23
          subst c23
          have H1 : (if t187 < 55296 then (copperplateref06_Escape.j2 kj19 a0 a1 t187 true) else (copperplateref06_Escape.j2 kj19 a0 a1 t187 (decide (t187 > 57343)))) = some (r1, r2, r3) := by rw [if_neg (show ¬ (false = true) by decide)] at H; exact H
          clear H
          have H := H1
          clear H1
          have HC24 := Aside0.mk H
          clear H
          go_upto_region 9 with (fail)
          go_cut [63] (fun v63 wc => ∃ (kq : Nat) (x63_23 : Bool), v63 = .bool x63_23 ∧ Aside0 (copperplateref06_Escape.j2 kq a0 a1 t187 x63_23 = some (r1, r2, r3)) ∧ Aside0 (kq ≤ kj19) ∧ Aside0 (Below w.heap.size w wc))
          case first =>
           have H := HC24.out
           clear HC24
           by_cases c25 : t187 < 55296
           ·rw [if_pos c25] at H
            have c25b0 : decide (t187 < 55296) = true := decide_eq_true c25
            clear c25
            (first | rw [c25b0] | (simp only [i64_w, i32_w]; rw [c25b0]) | skip)
            have H' := Aside0.mk H
            clear H
            go_wp2
            go_meet
            case rel => exact ⟨_, (true), (by first | rfl | (simp; done) | (simp [*]; done)), H', ⟨by have := HJ2.out; have := HJ19.out; first | omega | exact Nat.le_refl _⟩, ⟨hbz⟩⟩
           ·rw [if_neg c25] at H
            have c25b0 : decide (t187 < 55296) = false := decide_eq_false c25
            clear c25
            (first | rw [c25b0] | (simp only [i64_w, i32_w]; rw [c25b0]) | skip)
            have H' := Aside0.mk H
            clear H
            go_wp2
            go_meet
            case rel => exact ⟨_, (decide (t187 > 57343)), (by first | rfl | (simp; done) | (simp [*]; done)), H', ⟨by have := HJ2.out; have := HJ19.out; first | omega | exact Nat.le_refl _⟩, ⟨hbz⟩⟩
          case rest =>
           clear HC24
           try clear c1
           try clear p1
           try clear q1
           try clear hx1
           try clear hcv1
           try clear c2
           try clear p2
           try clear q2
           try clear hx2
           try clear c4
           try clear c4b0
           try clear c5
           try clear c5b0
           try clear c6
           try clear c6b0
           try clear p6
           try clear c7
           try clear c7b0
           try clear c8
           try clear p8
           try clear q8
           try clear hx8
           try clear c9
           try clear c11
           try clear c11b0
           try clear c12
           try clear c12b0
           try clear p13
           try clear q13
           try clear hx13
           try clear c15
           try clear c15b0
           try clear hcv18
           try clear p21
           try clear q21
           try clear hx21
           try clear c22
           try clear c22b0
           try clear c22b1
           try clear c23
           try clear c25
           try clear c25b0
           try clear p1
           try clear p13
           try clear p2
           try clear p21
           try clear p6
           try clear p8
           try clear q1
           try clear q13
           try clear q2
           try clear q21
           try clear q8
           obtain ⟨kq, x63_23, rfl, HA, HJ23, HB⟩ := hcut
           cases kq with
           | zero => exact absurd HA.out (by simp [copperplateref06_Escape.j2])
           | succ kj23 =>
            have H := HA.out
            clear HA
            simp only [copperplateref06_Escape.j2] at H
            by_cases c26 : x63_23 = true
            ·subst c26
             have H1 : ((copperplateref06_put.f t187).bind fun t189 => (some (t189, wrap64 (a1 + 6), true))) = some (r1, r2, r3) := by rw [if_pos rfl] at H; exact H
             clear H
             have H := H1
             clear H1
             replace H := Option.bind_eq_some_iff.mp H
             obtain ⟨t189, A270, H⟩ := H
             replace H : (some (t189, wrap64 (a1 + 6), true)) = some (r1, r2, r3) := H
             have A27 := Aside0.mk A270
             clear A270
             simp only [Option.some.injEq, Prod.mk.injEq] at H
             obtain ⟨rfl, rfl, rfl⟩ := H
             go_wp2_with (first | ((with_reducible refine gate_callee (f := 98) rfl ?_); refine goesL_ (some 65) rfl rfl Tryz.func98 (by kernel_rfl) rfl #[.int .i64 t187] rfl gz ?_; (with_reducible refine (copperplateref06_put.calls t187 t189 _ A27.out).mono ?_); rintro e w28 ⟨rfl, hb⟩; refine ⟨_, rfl, ?_⟩; have n0_ := Aside0.mk (below_step hbz hb); clear HB; have HB := n0_; clear n0_; (try clear hb); (try clear hb2); (try clear hk); (try clear hi)))
             go_ret3
             exact ⟨by first | rfl | (simp [errW_none, errW_some] <;> rfl) | (simp only [← hji10]; first | rfl | (simp [errW_none, errW_some] <;> rfl)) | (simp [*, errW_none, errW_some] <;> rfl), hbz⟩
            ·replace c26 := Bool.eq_false_iff.mpr c26
             subst c26
             have H1 : ((copperplateref06_Hex.f kj23 a0 (wrap64 (a1 + 8))).bind fun bt190 => (if t187 > 56319 then (some ((⟨#[]⟩ : ByteArray), a1, false)) else (if bt190.2 = true then (if 0 ≤ (wrap64 (a1 + 6)) then (if (wrap64 (a1 + 6)) < (a0.size : Int) then (if (bt a0 (wrap64 (a1 + 6))) = 92 then (if 0 ≤ (wrap64 (a1 + 7)) then (if (wrap64 (a1 + 7)) < (a0.size : Int) then (if (bt a0 (wrap64 (a1 + 7))) = 117 then (if bt190.1 < 56320 then (some ((⟨#[]⟩ : ByteArray), a1, false)) else (if bt190.1 > 57343 then (some ((⟨#[]⟩ : ByteArray), a1, false)) else ((copperplateref06_put.f (wrap64 ((wrap64 ((wrap64 (65536 + (wrap64 (1024 * (wrap64 (t187 - 55296)))))) + bt190.1)) - 56320))).bind fun t192 => (some (t192, wrap64 (a1 + 12), true))))) else (some ((⟨#[]⟩ : ByteArray), a1, false))) else (none)) else (none)) else (some ((⟨#[]⟩ : ByteArray), a1, false))) else (none)) else (none)) else (some ((⟨#[]⟩ : ByteArray), a1, false))))) = some (r1, r2, r3) := by rw [if_neg (show ¬ (false = true) by decide)] at H; exact H
             clear H
             have H := H1
             clear H1
             replace H := Option.bind_eq_some_iff.mp H
             obtain ⟨⟨t190, t191⟩, A290, H⟩ := H
             replace H : (if t187 > 56319 then (some ((⟨#[]⟩ : ByteArray), a1, false)) else (if t191 = true then (if 0 ≤ (wrap64 (a1 + 6)) then (if (wrap64 (a1 + 6)) < (a0.size : Int) then (if (bt a0 (wrap64 (a1 + 6))) = 92 then (if 0 ≤ (wrap64 (a1 + 7)) then (if (wrap64 (a1 + 7)) < (a0.size : Int) then (if (bt a0 (wrap64 (a1 + 7))) = 117 then (if t190 < 56320 then (some ((⟨#[]⟩ : ByteArray), a1, false)) else (if t190 > 57343 then (some ((⟨#[]⟩ : ByteArray), a1, false)) else ((copperplateref06_put.f (wrap64 ((wrap64 ((wrap64 (65536 + (wrap64 (1024 * (wrap64 (t187 - 55296)))))) + t190)) - 56320))).bind fun t192 => (some (t192, wrap64 (a1 + 12), true))))) else (some ((⟨#[]⟩ : ByteArray), a1, false))) else (none)) else (none)) else (some ((⟨#[]⟩ : ByteArray), a1, false))) else (none)) else (none)) else (some ((⟨#[]⟩ : ByteArray), a1, false)))) = some (r1, r2, r3) := H
             have A29 := Aside0.mk A290
             clear A290
             by_cases c30 : t187 > 56319
             ·rw [if_pos c30] at H
              have c30b0 : decide (56319 < t187) = true := decide_eq_true c30
              clear c30
              simp only [Option.some.injEq, Prod.mk.injEq] at H
              obtain ⟨rfl, rfl, rfl⟩ := H
              go_wp2_with (first | ((with_reducible refine gate_callee (f := 97) rfl ?_); refine goesL_ (some 72) rfl rfl Tryz.func97 (by kernel_rfl) rfl #[.string a0, .int .i64 (wrap64 (a1 + 8))] rfl gz ?_; (with_reducible refine (copperplateref06_Hex.calls kj23 a0 (wrap64 (a1 + 8)) t190 t191 _ A29.out).mono ?_); rintro e w' ⟨rfl, ⟨nd, rfl⟩⟩; refine ⟨_, rfl, ?_⟩))
              go_ret3
              exact ⟨by first | rfl | (simp [errW_none, errW_some] <;> rfl) | (simp only [← hji10]; first | rfl | (simp [errW_none, errW_some] <;> rfl)) | (simp [*, errW_none, errW_some] <;> rfl), hbz⟩
             ·rw [if_neg c30] at H
              have c30b0 : decide (56319 < t187) = false := decide_eq_false c30
              clear c30
              by_cases c31 : t191 = true
              ·subst c31
               have H1 : (if 0 ≤ (wrap64 (a1 + 6)) then (if (wrap64 (a1 + 6)) < (a0.size : Int) then (if (bt a0 (wrap64 (a1 + 6))) = 92 then (if 0 ≤ (wrap64 (a1 + 7)) then (if (wrap64 (a1 + 7)) < (a0.size : Int) then (if (bt a0 (wrap64 (a1 + 7))) = 117 then (if t190 < 56320 then (some ((⟨#[]⟩ : ByteArray), a1, false)) else (if t190 > 57343 then (some ((⟨#[]⟩ : ByteArray), a1, false)) else ((copperplateref06_put.f (wrap64 ((wrap64 ((wrap64 (65536 + (wrap64 (1024 * (wrap64 (t187 - 55296)))))) + t190)) - 56320))).bind fun t192 => (some (t192, wrap64 (a1 + 12), true))))) else (some ((⟨#[]⟩ : ByteArray), a1, false))) else (none)) else (none)) else (some ((⟨#[]⟩ : ByteArray), a1, false))) else (none)) else (none)) = some (r1, r2, r3) := by rw [if_pos rfl] at H; exact H
               clear H
               have H := H1
               clear H1
               obtain ⟨ji32, hji32⟩ : ∃ j_ : Int, (wrap64 (a1 + 6)) = j_ := ⟨_, rfl⟩
               replace H : (if 0 ≤ (ji32) then (if (ji32) < (a0.size : Int) then (if (bt a0 (ji32)) = 92 then (if 0 ≤ (wrap64 (a1 + 7)) then (if (wrap64 (a1 + 7)) < (a0.size : Int) then (if (bt a0 (wrap64 (a1 + 7))) = 117 then (if t190 < 56320 then (some ((⟨#[]⟩ : ByteArray), a1, false)) else (if t190 > 57343 then (some ((⟨#[]⟩ : ByteArray), a1, false)) else ((copperplateref06_put.f (wrap64 ((wrap64 ((wrap64 (65536 + (wrap64 (1024 * (wrap64 (t187 - 55296)))))) + t190)) - 56320))).bind fun t192 => (some (t192, wrap64 (a1 + 12), true))))) else (some ((⟨#[]⟩ : ByteArray), a1, false))) else (none)) else (none)) else (some ((⟨#[]⟩ : ByteArray), a1, false))) else (none)) else (none)) = some (r1, r2, r3) := by first | (rw [hji32] at H; exact H) | (simp only [hji32] at H ⊢; exact H)
               (try rw [hji32] at A29)
               have hji32w : (IntKind.i64.wrap (a1 + 6)) = ji32 := (i64_w _).trans hji32
               by_cases c33 : 0 ≤ (ji32)
               ·rw [if_pos c33] at H
                have c33b0 : decide (0 ≤ (ji32)) = true := decide_eq_true c33
                clear c33
                by_cases c34 : (ji32) < (a0.size : Int)
                ·rw [if_pos c34] at H
                 have c34b0 : decide ((ji32) < (a0.size : Int)) = true := decide_eq_true c34
                 clear c34
                 by_cases c36 : (bt a0 (ji32)) = 92
                 ·rw [if_pos c36] at H
                  have c36b0 : ((bt a0 (ji32)) == 92) = true := beq_iff_eq.mpr c36
                  have c36b1 : ((bt a0 (ji32)) != 92) = false := bne_eq_false_iff_eq.mpr c36
                  clear c36
                  obtain ⟨ji37, hji37⟩ : ∃ j_ : Int, (wrap64 (a1 + 7)) = j_ := ⟨_, rfl⟩
                  replace H : (if 0 ≤ (ji37) then (if (ji37) < (a0.size : Int) then (if (bt a0 (ji37)) = 117 then (if t190 < 56320 then (some ((⟨#[]⟩ : ByteArray), a1, false)) else (if t190 > 57343 then (some ((⟨#[]⟩ : ByteArray), a1, false)) else ((copperplateref06_put.f (wrap64 ((wrap64 ((wrap64 (65536 + (wrap64 (1024 * (wrap64 (t187 - 55296)))))) + t190)) - 56320))).bind fun t192 => (some (t192, wrap64 (a1 + 12), true))))) else (some ((⟨#[]⟩ : ByteArray), a1, false))) else (none)) else (none)) = some (r1, r2, r3) := by first | (rw [hji37] at H; exact H) | (simp only [hji37] at H ⊢; exact H)
                  (try rw [hji37] at A29)
                  have hji37w : (IntKind.i64.wrap (a1 + 7)) = ji37 := (i64_w _).trans hji37
                  by_cases c38 : 0 ≤ (ji37)
                  ·rw [if_pos c38] at H
                   have c38b0 : decide (0 ≤ (ji37)) = true := decide_eq_true c38
                   clear c38
                   by_cases c39 : (ji37) < (a0.size : Int)
                   ·rw [if_pos c39] at H
                    have c39b0 : decide ((ji37) < (a0.size : Int)) = true := decide_eq_true c39
                    clear c39
                    by_cases c41 : (bt a0 (ji37)) = 117
                    ·rw [if_pos c41] at H
                     have c41b0 : ((bt a0 (ji37)) == 117) = true := beq_iff_eq.mpr c41
                     have c41b1 : ((bt a0 (ji37)) != 117) = false := bne_eq_false_iff_eq.mpr c41
                     clear c41
                     by_cases c42 : t190 < 56320
                     ·rw [if_pos c42] at H
                      have c42b0 : decide (t190 < 56320) = true := decide_eq_true c42
                      clear c42
                      simp only [Option.some.injEq, Prod.mk.injEq] at H
                      obtain ⟨rfl, rfl, rfl⟩ := H
                      go_wp2_with (first | ((with_reducible refine gate_callee (f := 97) rfl ?_); refine goesL_ (some 72) rfl rfl Tryz.func97 (by kernel_rfl) rfl #[.string a0, .int .i64 (wrap64 (a1 + 8))] rfl gz ?_; (with_reducible refine (copperplateref06_Hex.calls kj23 a0 (wrap64 (a1 + 8)) t190 true _ A29.out).mono ?_); rintro e w' ⟨rfl, ⟨nd, rfl⟩⟩; refine ⟨_, rfl, ?_⟩; have p35 : 0 ≤ ((ji32) : Int) := of_decide_eq_true (by first | (with_reducible assumption) | assumption); have q35 : (ji32) < (a0.size : Int) := of_decide_eq_true (by first | (with_reducible assumption) | assumption); have hx35 := bt_at a0 (ji32); replace p35 := eq_true p35; replace q35 := eq_true q35; have p40 : 0 ≤ ((ji37) : Int) := of_decide_eq_true (by first | (with_reducible assumption) | assumption); have q40 : (ji37) < (a0.size : Int) := of_decide_eq_true (by first | (with_reducible assumption) | assumption); have hx40 := bt_at a0 (ji37); replace p40 := eq_true p40; replace q40 := eq_true q40))
                      go_ret3
                      exact ⟨by first | rfl | (simp [errW_none, errW_some] <;> rfl) | (simp only [← hji10, ← hji32, ← hji37]; first | rfl | (simp [errW_none, errW_some] <;> rfl)) | (simp [*, errW_none, errW_some] <;> rfl), hbz⟩
                     ·rw [if_neg c42] at H
                      have c42b0 : decide (t190 < 56320) = false := decide_eq_false c42
                      clear c42
                      by_cases c43 : t190 > 57343
                      ·rw [if_pos c43] at H
                       have c43b0 : decide (57343 < t190) = true := decide_eq_true c43
                       clear c43
                       simp only [Option.some.injEq, Prod.mk.injEq] at H
                       obtain ⟨rfl, rfl, rfl⟩ := H
                       go_wp2_with (first | ((with_reducible refine gate_callee (f := 97) rfl ?_); refine goesL_ (some 72) rfl rfl Tryz.func97 (by kernel_rfl) rfl #[.string a0, .int .i64 (wrap64 (a1 + 8))] rfl gz ?_; (with_reducible refine (copperplateref06_Hex.calls kj23 a0 (wrap64 (a1 + 8)) t190 true _ A29.out).mono ?_); rintro e w' ⟨rfl, ⟨nd, rfl⟩⟩; refine ⟨_, rfl, ?_⟩; have p35 : 0 ≤ ((ji32) : Int) := of_decide_eq_true (by first | (with_reducible assumption) | assumption); have q35 : (ji32) < (a0.size : Int) := of_decide_eq_true (by first | (with_reducible assumption) | assumption); have hx35 := bt_at a0 (ji32); replace p35 := eq_true p35; replace q35 := eq_true q35; have p40 : 0 ≤ ((ji37) : Int) := of_decide_eq_true (by first | (with_reducible assumption) | assumption); have q40 : (ji37) < (a0.size : Int) := of_decide_eq_true (by first | (with_reducible assumption) | assumption); have hx40 := bt_at a0 (ji37); replace p40 := eq_true p40; replace q40 := eq_true q40))
                       go_ret3
                       exact ⟨by first | rfl | (simp [errW_none, errW_some] <;> rfl) | (simp only [← hji10, ← hji32, ← hji37]; first | rfl | (simp [errW_none, errW_some] <;> rfl)) | (simp [*, errW_none, errW_some] <;> rfl), hbz⟩
                      ·rw [if_neg c43] at H
                       have c43b0 : decide (57343 < t190) = false := decide_eq_false c43
                       clear c43
                       replace H := Option.bind_eq_some_iff.mp H
                       obtain ⟨t192, A440, H⟩ := H
                       replace H : (some (t192, wrap64 (a1 + 12), true)) = some (r1, r2, r3) := H
                       have A44 := Aside0.mk A440
                       clear A440
                       simp only [Option.some.injEq, Prod.mk.injEq] at H
                       obtain ⟨rfl, rfl, rfl⟩ := H
                       go_wp2_with (first | ((with_reducible refine gate_callee (f := 97) rfl ?_); refine goesL_ (some 72) rfl rfl Tryz.func97 (by kernel_rfl) rfl #[.string a0, .int .i64 (wrap64 (a1 + 8))] rfl gz ?_; (with_reducible refine (copperplateref06_Hex.calls kj23 a0 (wrap64 (a1 + 8)) t190 true _ A29.out).mono ?_); rintro e w' ⟨rfl, ⟨nd, rfl⟩⟩; refine ⟨_, rfl, ?_⟩; have p35 : 0 ≤ ((ji32) : Int) := of_decide_eq_true (by first | (with_reducible assumption) | assumption); have q35 : (ji32) < (a0.size : Int) := of_decide_eq_true (by first | (with_reducible assumption) | assumption); have hx35 := bt_at a0 (ji32); replace p35 := eq_true p35; replace q35 := eq_true q35; have p40 : 0 ≤ ((ji37) : Int) := of_decide_eq_true (by first | (with_reducible assumption) | assumption); have q40 : (ji37) < (a0.size : Int) := of_decide_eq_true (by first | (with_reducible assumption) | assumption); have hx40 := bt_at a0 (ji37); replace p40 := eq_true p40; replace q40 := eq_true q40) | ((with_reducible refine gate_callee (f := 98) rfl ?_); refine goesL_ (some 111) rfl rfl Tryz.func98 (by kernel_rfl) rfl #[.int .i64 (wrap64 ((wrap64 ((wrap64 (65536 + (wrap64 (1024 * (wrap64 (t187 - 55296)))))) + t190)) - 56320))] rfl gz ?_; (with_reducible refine (copperplateref06_put.calls (wrap64 ((wrap64 ((wrap64 (65536 + (wrap64 (1024 * (wrap64 (t187 - 55296)))))) + t190)) - 56320)) t192 _ A44.out).mono ?_); rintro e w45 ⟨rfl, hb⟩; refine ⟨_, rfl, ?_⟩; have n0_ := Aside0.mk (below_step hbz hb); clear HB; have HB := n0_; clear n0_; (try clear hb); (try clear hb2); (try clear hk); (try clear hi)))
                       go_ret3
                       exact ⟨by first | rfl | (simp [errW_none, errW_some] <;> rfl) | (simp only [← hji10, ← hji32, ← hji37]; first | rfl | (simp [errW_none, errW_some] <;> rfl)) | (simp [*, errW_none, errW_some] <;> rfl), hbz⟩
                    ·rw [if_neg c41] at H
                     have c41b0 : ((bt a0 (ji37)) == 117) = false := beq_eq_false_iff_ne.mpr c41
                     have c41b1 : ((bt a0 (ji37)) != 117) = true := bne_iff_ne.mpr c41
                     simp only [Option.some.injEq, Prod.mk.injEq] at H
                     obtain ⟨rfl, rfl, rfl⟩ := H
                     go_wp2_with (first | ((with_reducible refine gate_callee (f := 97) rfl ?_); refine goesL_ (some 72) rfl rfl Tryz.func97 (by kernel_rfl) rfl #[.string a0, .int .i64 (wrap64 (a1 + 8))] rfl gz ?_; (with_reducible refine (copperplateref06_Hex.calls kj23 a0 (wrap64 (a1 + 8)) t190 true _ A29.out).mono ?_); rintro e w' ⟨rfl, ⟨nd, rfl⟩⟩; refine ⟨_, rfl, ?_⟩; have p35 : 0 ≤ ((ji32) : Int) := of_decide_eq_true (by first | (with_reducible assumption) | assumption); have q35 : (ji32) < (a0.size : Int) := of_decide_eq_true (by first | (with_reducible assumption) | assumption); have hx35 := bt_at a0 (ji32); replace p35 := eq_true p35; replace q35 := eq_true q35; have p40 : 0 ≤ ((ji37) : Int) := of_decide_eq_true (by first | (with_reducible assumption) | assumption); have q40 : (ji37) < (a0.size : Int) := of_decide_eq_true (by first | (with_reducible assumption) | assumption); have hx40 := bt_at a0 (ji37); replace p40 := eq_true p40; replace q40 := eq_true q40))
                     go_ret3
                     exact ⟨by first | rfl | (simp [errW_none, errW_some] <;> rfl) | (simp only [← hji10, ← hji32, ← hji37]; first | rfl | (simp [errW_none, errW_some] <;> rfl)) | (simp [*, errW_none, errW_some] <;> rfl), hbz⟩
                   ·rw [if_neg c39] at H
                    exact absurd H (by simp)
                  ·rw [if_neg c38] at H
                   exact absurd H (by simp)
                 ·rw [if_neg c36] at H
                  have c36b0 : ((bt a0 (ji32)) == 92) = false := beq_eq_false_iff_ne.mpr c36
                  have c36b1 : ((bt a0 (ji32)) != 92) = true := bne_iff_ne.mpr c36
                  simp only [Option.some.injEq, Prod.mk.injEq] at H
                  obtain ⟨rfl, rfl, rfl⟩ := H
                  go_wp2_with (first | ((with_reducible refine gate_callee (f := 97) rfl ?_); refine goesL_ (some 72) rfl rfl Tryz.func97 (by kernel_rfl) rfl #[.string a0, .int .i64 (wrap64 (a1 + 8))] rfl gz ?_; (with_reducible refine (copperplateref06_Hex.calls kj23 a0 (wrap64 (a1 + 8)) t190 true _ A29.out).mono ?_); rintro e w' ⟨rfl, ⟨nd, rfl⟩⟩; refine ⟨_, rfl, ?_⟩; have p35 : 0 ≤ ((ji32) : Int) := of_decide_eq_true (by first | (with_reducible assumption) | assumption); have q35 : (ji32) < (a0.size : Int) := of_decide_eq_true (by first | (with_reducible assumption) | assumption); have hx35 := bt_at a0 (ji32); replace p35 := eq_true p35; replace q35 := eq_true q35))
                  go_ret3
                  exact ⟨by first | rfl | (simp [errW_none, errW_some] <;> rfl) | (simp only [← hji10, ← hji32]; first | rfl | (simp [errW_none, errW_some] <;> rfl)) | (simp [*, errW_none, errW_some] <;> rfl), hbz⟩
                ·rw [if_neg c34] at H
                 exact absurd H (by simp)
               ·rw [if_neg c33] at H
                exact absurd H (by simp)
              ·replace c31 := Bool.eq_false_iff.mpr c31
               subst c31
               have H1 : (some ((⟨#[]⟩ : ByteArray), a1, false)) = some (r1, r2, r3) := by rw [if_neg (show ¬ (false = true) by decide)] at H; exact H
               clear H
               have H := H1
               clear H1
               simp only [Option.some.injEq, Prod.mk.injEq] at H
               obtain ⟨rfl, rfl, rfl⟩ := H
               go_wp2_with (first | ((with_reducible refine gate_callee (f := 97) rfl ?_); refine goesL_ (some 72) rfl rfl Tryz.func97 (by kernel_rfl) rfl #[.string a0, .int .i64 (wrap64 (a1 + 8))] rfl gz ?_; (with_reducible refine (copperplateref06_Hex.calls kj23 a0 (wrap64 (a1 + 8)) t190 false _ A29.out).mono ?_); rintro e w' ⟨rfl, ⟨nd, rfl⟩⟩; refine ⟨_, rfl, ?_⟩))
               go_ret3
               exact ⟨by first | rfl | (simp [errW_none, errW_some] <;> rfl) | (simp only [← hji10]; first | rfl | (simp [errW_none, errW_some] <;> rfl)) | (simp [*, errW_none, errW_some] <;> rfl), hbz⟩
     ·rw [if_neg c12] at H
      exact absurd H (by simp)
    ·rw [if_neg c11] at H
     exact absurd H (by simp)
end Go.Proofs.YtjgpmfjkcioinaaGreatDoor.Q
