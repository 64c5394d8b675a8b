/-
  Texts of this seat, put together by bundle.py.
-/
import Derived.Test.YtjgpmfjkcioinaaGreatDoorPLGG6
import Derived.Test.YtjgpmfjkcioinaaGreatDoorPLGG9
import Derived.Test.YtjgpmfjkcioinaaGreatDoorPLQ2
import Derived.Test.YtjgpmfjkcioinaaGreatDoorPLQ11
import Derived.Test.YtjgpmfjkcioinaaGreatDoorPLQ12
namespace Go.Proofs.YtjgpmfjkcioinaaGreatDoor.Q
open Go.Proofs.YtjgpmfjkcioinaaGreatDoor.G
open Go.RowKit Go.Proofs.YtjgpmfjkcioinaaGreatDoorW.PrintWords Go.Proofs.YtjgpmfjkcioinaaGreatDoorW.PrintLast Go.Proofs.YtjgpmfjkcioinaaGreatDoorW.PrintMore
attribute [local go_sem] max2_int min2_int max_two min_two max_three min_three max_four min_four
set_option linter.unusedVariables false
set_option linter.unusedSimpArgs false
attribute [local go_sem high] eqA26
def copperplateref09_Lex.l0 : Nat → ByteArray → List (S26) → Int → Option ((List (S26)) × Int × Int)
 | 0, _, _, _ => none
 | k + 1, x0, x6, x7 => if x7 < (x0.size : Int) then ((copperplateref09_One.f k x0 x7).bind fun bt235 => (if bt235.2.2.2.2.1 = 0 then (if x6.length < 3518437208883 then ((copperplateref04_Blank.f k x0 bt235.2.2.2.2.2).bind fun t245 => (copperplateref09_Lex.l0 k x0 (x6 ++ [(⟨bt235.1, bt235.2.1, bt235.2.2.1, bt235.2.2.2.1⟩ : S26)]) t245)) else (none)) else (some (([] : List (S26)), bt235.2.2.2.2.1, bt235.2.2.2.2.2)))) else (some (x6, 0, (x0.size : Int)))
def copperplateref09_Lex.f (k : Nat) (a0 : ByteArray) : Option ((List (S26)) × Int × Int) := (copperplateref02_Bad.f k a0).bind fun t233 => (if t233 ≥ 0 then (some (([] : List (S26)), 2, t233)) else ((copperplateref04_Blank.f k a0 0).bind fun t234 => (copperplateref09_Lex.l0 k a0 ([] : List (S26)) t234)))
theorem copperplateref09_Lex.mono_l : ∀ k, (∀ y0 y1 y2, LeO (copperplateref09_Lex.l0 k y0 y1 y2) (copperplateref09_Lex.l0 (k + 1) y0 y1 y2))
 | 0 => fun _ _ _ r h => by simp [copperplateref09_Lex.l0] at h
 | k + 1 => by
  have ih0 := copperplateref09_Lex.mono_l k
  ·intro y0 y1 y2
   unfold copperplateref09_Lex.l0
   repeat' first
   | (with_reducible exact ih0 _ _ _)
   | (with_reducible exact copperplateref02_Bad.mono _ _)
   | (with_reducible exact copperplateref04_Blank.mono _ _ _)
   | (with_reducible exact copperplateref09_One.mono _ _ _)
   | (with_reducible exact LeO.refl _)
   | (with_reducible exact LeO.none _)
   | (with_reducible refine LeO.ite ?_ ?_)
   | (with_reducible refine LeO.bind ?_ (fun _ => ?_))
   | exact ih0 _ _ _
   | exact copperplateref02_Bad.mono _ _
   | exact copperplateref04_Blank.mono _ _ _
   | exact copperplateref09_One.mono _ _ _
   | exact LeO.none _
   | refine LeO.ite ?_ ?_
   | refine LeO.bind ?_ (fun _ => ?_)
theorem copperplateref09_Lex.mono : ∀ a0 k, LeO (copperplateref09_Lex.f k a0) (copperplateref09_Lex.f (k + 1) a0) := by
 intro a0 k
 have ih0 := copperplateref09_Lex.mono_l k
 unfold copperplateref09_Lex.f
 repeat' first
   | (with_reducible exact ih0 _ _ _)
   | (with_reducible exact copperplateref02_Bad.mono _ _)
   | (with_reducible exact copperplateref04_Blank.mono _ _ _)
   | (with_reducible exact copperplateref09_One.mono _ _ _)
   | (with_reducible exact LeO.refl _)
   | (with_reducible exact LeO.none _)
   | (with_reducible refine LeO.ite ?_ ?_)
   | (with_reducible refine LeO.bind ?_ (fun _ => ?_))
   | exact ih0 _ _ _
   | exact copperplateref02_Bad.mono _ _
   | exact copperplateref04_Blank.mono _ _ _
   | exact copperplateref09_One.mono _ _ _
   | exact LeO.none _
   | refine LeO.ite ?_ ?_
   | refine LeO.bind ?_ (fun _ => ?_)
set_option maxHeartbeats 8000000 in
set_option maxRecDepth 100000 in
theorem copperplateref09_Lex.calls (k : Nat) (a0 : ByteArray) (r1 : List (S26)) (r2 : Int) (r3 : Int) (w : World) (h : copperplateref09_Lex.f k a0 = some (r1, r2, r3)) :
  Calls Tryz.prog 9 #[.string a0] w fun e w' => ∃ v0_ : Value, e = .returned (.tuple #[v0_, .int .i64 r2, .int .i64 r3]) ∧ Kd.R k26 26 w' w.heap.size (fun _ => True) v0_ r1 ∧ Below w.heap.size w w' := by
 have hu26 := Tryz.underlying26
 have HB := Aside0.mk (Below.refl w.heap.size w)
 have H : ((copperplateref02_Bad.f k a0).bind fun t233 => (if t233 ≥ 0 then (some (([] : List (S26)), 2, t233)) else ((copperplateref04_Blank.f k a0 0).bind fun t234 => (copperplateref09_Lex.l0 k a0 ([] : List (S26)) t234)))) = some (r1, r2, r3) := h
 clear h
 replace H := Option.bind_eq_some_iff.mp H
 obtain ⟨t233, A20, H⟩ := H
 replace H : (if t233 ≥ 0 then (some (([] : List (S26)), 2, t233)) else ((copperplateref04_Blank.f k a0 0).bind fun t234 => (copperplateref09_Lex.l0 k a0 ([] : List (S26)) t234))) = some (r1, r2, r3) := H
 have A2 := Aside0.mk A20
 clear A20
 by_cases c3 : t233 ≥ 0
 ·rw [if_pos c3] at H
  have c3b0 : decide (0 ≤ t233) = true := decide_eq_true c3
  clear c3
  simp only [Option.some.injEq, Prod.mk.injEq] at H
  obtain ⟨rfl, rfl, rfl⟩ := H
  go_enter Tryz.func9, Tryz.ntmps9
  go_wp2_with (first | ((with_reducible refine gate_callee (f := 31) rfl ?_); refine goesL_ (some 12) rfl rfl Tryz.func31 (by kernel_rfl) rfl #[.string a0] rfl gz ?_; (with_reducible refine (copperplateref02_Bad.calls k a0 t233 _ A2.out).mono ?_); rintro e w4 ⟨rfl, hb⟩; refine ⟨_, rfl, ?_⟩; have n0_ := Aside0.mk (below_step hbz hb); clear HB; have HB := n0_; clear n0_; (try clear hb); (try clear hb2); (try clear hk); (try clear hi)))
  go_ret3
  exact ⟨_, by first | rfl | (simp [errW_none, errW_some] <;> rfl) | (simp [*, errW_none, errW_some] <;> rfl), by first | exact Kd.R_nil _ _ _ _ _ | exact Kd.N_nil _ _ _ _ _ | exact Kd.V_nil _ _ _ _ _ | exact Kd.Q_nil _ _ _ _ _ | exact Kd.S_nil _ _ _ _ _, hbz⟩
 ·rw [if_neg c3] at H
  have c3b0 : decide (0 ≤ t233) = false := decide_eq_false c3
  clear c3
  replace H := Option.bind_eq_some_iff.mp H
  obtain ⟨t234, A50, H⟩ := H
  replace H : (copperplateref09_Lex.l0 k a0 ([] : List (S26)) t234) = some (r1, r2, r3) := H
  have A5 := Aside0.mk A50
  clear A50
  have H' := Aside0.mk H
  clear H
  go_enter Tryz.func9, Tryz.ntmps9
  go_wp2_with (first | ((with_reducible refine gate_callee (f := 31) rfl ?_); refine goesL_ (some 12) rfl rfl Tryz.func31 (by kernel_rfl) rfl #[.string a0] rfl gz ?_; (with_reducible refine (copperplateref02_Bad.calls k a0 t233 _ A2.out).mono ?_); rintro e w6 ⟨rfl, hb⟩; refine ⟨_, rfl, ?_⟩; have n0_ := Aside0.mk (below_step hbz hb); clear HB; have HB := n0_; clear n0_; (try clear hb); (try clear hb2); (try clear hk); (try clear hi)) | ((with_reducible refine gate_callee (f := 32) rfl ?_); refine goesL_ (some 17) rfl rfl Tryz.func32 (by kernel_rfl) rfl #[.string a0, .int .i64 0] rfl gz ?_; (with_reducible refine (copperplateref04_Blank.calls k a0 0 t234 _ A5.out).mono ?_); rintro e w' ⟨rfl, ⟨nd, rfl⟩⟩; refine ⟨_, rfl, ?_⟩))
  go_loopg [6, 7] k (fun kq v6 v7 w' => ∃ (x6_1 : List (S26)) (x7_1 : Int), v7 = .int .i64 x7_1 ∧ Aside0 (copperplateref09_Lex.l0 kq a0 x6_1 x7_1 = some (r1, r2, r3)) ∧ Aside0 (kq ≤ k) ∧ Aside0 (Kd.R k26 26 w' w.heap.size (fun _ => True) v6 x6_1) ∧ Aside0 (Below w.heap.size w w'))
  case atStart => exact ⟨(([] : List (S26))), (t234), (by first | rfl | (simp; done) | (simp [*]; done)), H', ⟨Nat.le_refl _⟩, ⟨by first | exact Kd.R_nil _ _ _ _ _ | exact Kd.N_nil _ _ _ _ _ | exact Kd.V_nil _ _ _ _ _ | exact Kd.Q_nil _ _ _ _ _ | exact Kd.S_nil _ _ _ _ _⟩, ⟨hbz⟩⟩
  case round =>
   clear H'
   try clear p2
   try clear c3
   try clear c3b0
   obtain ⟨x6_1, x7_1, rfl, HA, HK1, HO_6, HB⟩ := hrel
   cases gk with
   | zero => exact absurd HA.out (by simp [copperplateref09_Lex.l0])
   | succ k1 =>
    have H := HA.out
    clear HA
    simp only [copperplateref09_Lex.l0] at H
    by_cases c7 : x7_1 < (a0.size : Int)
    ·rw [if_pos c7] at H
     have c7b0 : decide (x7_1 < (a0.size : Int)) = true := decide_eq_true c7
     clear c7
     replace H := Option.bind_eq_some_iff.mp H
     obtain ⟨⟨t235, t236, t237, t238, t239, t240⟩, A80, H⟩ := H
     replace H : (if t239 = 0 then (if x6_1.length < 3518437208883 then ((copperplateref04_Blank.f k1 a0 t240).bind fun t245 => (copperplateref09_Lex.l0 k1 a0 (x6_1 ++ [(⟨t235, t236, t237, t238⟩ : S26)]) t245)) else (none)) else (some (([] : List (S26)), t239, t240))) = some (r1, r2, r3) := H
     have A8 := Aside0.mk A80
     clear A80
     by_cases c9 : t239 = 0
     ·rw [if_pos c9] at H
      have c9b0 : (t239 == 0) = true := beq_iff_eq.mpr c9
      have c9b1 : (t239 != 0) = false := bne_eq_false_iff_eq.mpr c9
      clear c9
      by_cases c10 : x6_1.length < 3518437208883
      ·rw [if_pos c10] at H
       have LMc10 := Aside0.mk c10
       clear c10
       obtain ⟨y242, hy242⟩ : ∃ y_ : List (S26), y_ = (x6_1 ++ [(⟨t235, t236, t237, t238⟩ : S26)]) := ⟨_, rfl⟩
       replace H : ((copperplateref04_Blank.f k1 a0 t240).bind fun t245 => (copperplateref09_Lex.l0 k1 a0 y242 t245)) = some (r1, r2, r3) := by first | (rw [hy242]; with_reducible exact H) | (have H2_ := (Option.bind_some _ _).symm.trans H; rw [hy242]; with_reducible exact H2_) | (have H2_ := (Option.bind_some _ _).symm.trans H; with_reducible exact H2_) | with_reducible exact H | (rw [hy242]; exact H) | exact H
       have Ny242 := Aside0.mk hy242
       clear hy242
       replace H := Option.bind_eq_some_iff.mp H
       obtain ⟨t245, A110, H⟩ := H
       replace H : (copperplateref09_Lex.l0 k1 a0 y242 t245) = some (r1, r2, r3) := H
       have A11 := Aside0.mk A110
       clear A110
       have H' := Aside0.mk H
       clear H
       go_wp2_with (first | ((with_reducible refine gate_callee (f := 7) rfl ?_); refine goesL_ (some 25) rfl rfl Tryz.func7 (by kernel_rfl) rfl #[.string a0, .int .i64 x7_1] rfl gz ?_; (with_reducible refine (copperplateref09_One.calls k1 a0 x7_1 t235 t236 t237 t238 t239 t240 _ A8.out).mono ?_); rintro e w12 ⟨rfl, hb⟩; refine ⟨_, rfl, ?_⟩; have n0_ := Aside0.mk (Kd.R_below (by (with_reducible repeat (first | apply Kd.R_alloc | apply Kd.R_drewN | apply Kd.R_drew)); exact HO_6.out) hb); have n1_ := Aside0.mk (below_step hbz hb); clear HO_6; clear HB; have HO_6 := n0_; have HB := n1_; clear n0_ n1_; (try clear hb); (try clear hb2); (try clear hk); (try clear hi)) | ((with_reducible refine gate_dst (N := 8) rfl ?_); refine box_event ?hg (N := 8) ?hd (cs := #[.int .i64 0, .string (⟨#[]⟩ : ByteArray), .int .i64 0, .int .i64 0]) (t := 26) ?hr ?_; (case hd => rfl); (case hg => rfl); (case hr => first | (go_simp; done) | (go_simp; rfl)); intro gb241 hg w13 hbox hb; have n0_ := Aside0.mk (Kd.R_below (Kd.R_elderB (by (with_reducible repeat (first | apply Kd.R_alloc | apply Kd.R_drewN | apply Kd.R_drew)); exact HO_6.out) gb241 (Nat.le_of_eq hg.symm)) hb); have n1_ := Aside0.mk (below_step hbz hb); have n2_ := Aside0.mk (hbox); have n3_ := Aside0.mk ((by rw [hg]; exact (below_size hbz) : w.heap.size ≤ gb241)); have n4_ := Aside0.mk ((by rw [hg]; exact (below_size hbz) : w.heap.size ≤ gb241)); clear HO_6; clear HB; have HO_6 := n0_; have HB := n1_; have BK241 := n2_; have GW241 := n3_; have GE241 := n4_; clear n0_ n1_ n2_ n3_ n4_; clear hb hbox hg; have hcz14_0 : w13.cell? ⟨gb241, 0, none⟩ = some (.int .i64 0) := (blk_cell BK241.out 0).trans rfl; have hcz14_1 : w13.cell? ⟨gb241, 1, none⟩ = some (.string (⟨#[]⟩ : ByteArray)) := (blk_cell BK241.out 1).trans rfl; have hcz14_2 : w13.cell? ⟨gb241, 2, none⟩ = some (.int .i64 0) := (blk_cell BK241.out 2).trans rfl; have hcz14_3 : w13.cell? ⟨gb241, 3, none⟩ = some (.int .i64 0) := (blk_cell BK241.out 3).trans rfl; have hfz14_0 := blk_frozen BK241.out 0; have hfz14_1 := blk_frozen BK241.out 1; have hfz14_2 := blk_frozen BK241.out 2; have hfz14_3 := blk_frozen BK241.out 3) | ((with_reducible refine gate_builtin (b := .append) (xs := #[.tmp 33, .tmp 35]) rfl ?_); at_builtin; refine Kd.R_append k26 (w0 := w) w.heap.size rfl (.tmp 33) (.tmp 35) 22 26 (.agg #[(.int .i64 0), (.string ⟨#[]⟩), (.int .i64 0), (.int .i64 0)]) 40 rfl Tryz.underlying22 info26 rfl (by decide) (by omega) u6 x6_1 (⟨t235, t236, t237, t238⟩ : S26) [.int .i64 t235, .string t236, .int .i64 t237, .int .i64 t238] (fun k_ => k_ ≠ gb241) (fun _ => False) rfl (by first | (go_simp; done) | (go_simp; rfl)) ?aP (fun _ hk => hk.elim) ?aF ?aO ?aB ?aS ?aL ?_; (case aP => exact k26_mkM _ _ _ (⟨t235, t236, t237, t238⟩ : S26)); (case aB => exact (by repeat (first | (with_reducible first | exact HB.out | apply below_alloc | apply pw_below_drewN | apply below_drew1 | refine below_set ?_ GE241.out) | exact HB.out))); (case aF => exact (fun k_ hk => Kd.freshB (g := gb241) (o := .cells #[.int .i64 t235, .string t236, .int .i64 t237, .int .i64 t238] 26 (0, 0)) (by (with_reducible repeat (first | refine blk_drewN ?_ _ | refine blk_drew ?_ | refine blk_alloc ?_ _)); refine blk_put (cs := #[.int .i64 t235, .string t236, .int .i64 t237, .int .i64 0]) ?_ 3 _ rfl; (with_reducible repeat (first | refine blk_drewN ?_ _ | refine blk_drew ?_ | refine blk_alloc ?_ _)); refine blk_put (cs := #[.int .i64 t235, .string t236, .int .i64 0, .int .i64 0]) ?_ 2 _ rfl; (with_reducible repeat (first | refine blk_drewN ?_ _ | refine blk_drew ?_ | refine blk_alloc ?_ _)); refine blk_put (cs := #[.int .i64 t235, .string (⟨#[]⟩ : ByteArray), .int .i64 0, .int .i64 0]) ?_ 1 _ rfl; (with_reducible repeat (first | refine blk_drewN ?_ _ | refine blk_drew ?_ | refine blk_alloc ?_ _)); refine blk_put (cs := #[.int .i64 0, .string (⟨#[]⟩ : ByteArray), .int .i64 0, .int .i64 0]) ?_ 0 _ rfl; (with_reducible repeat (first | refine blk_drewN ?_ _ | refine blk_drew ?_ | refine blk_alloc ?_ _)); exact BK241.out) k_ hk)); (case aO => exact (by (with_reducible repeat (first | apply Kd.R_alloc | apply Kd.R_drewN | apply Kd.R_drew)); exact Kd.R_mono (Kd.R_far (p := ⟨gb241, 3, none⟩) (Kd.R_far (p := ⟨gb241, 2, none⟩) (Kd.R_far (p := ⟨gb241, 1, none⟩) (Kd.R_far (p := ⟨gb241, 0, none⟩) (Kd.R_mono HO_6.out (fun k_ hk => (⟨hk, hk.2⟩ : _ ∧ k_ ≠ gb241))) (fun _ hk => hk.2) (.int .i64 t235)) (fun _ hk => hk.2) (.string t236)) (fun _ hk => hk.2) (.int .i64 t237)) (fun _ hk => hk.2) (.int .i64 t238)) (fun _ hk => hk.1.2))); (case aS => exact (below_size (by repeat (first | (with_reducible first | exact HB.out | apply below_alloc | apply pw_below_drewN | apply below_drew1 | refine below_set ?_ GE241.out) | exact HB.out)))); (case aL => have := LMc10.out; omega); intro v243 w15 ho hb hg hat; rw [← Ny242.out] at ho; have n0_ := Aside0.mk (blk_grown (g := gb241) (o := .cells #[.int .i64 t235, .string t236, .int .i64 t237, .int .i64 t238] 26 (0, 0)) (by (with_reducible repeat (first | refine blk_drewN ?_ _ | refine blk_drew ?_ | refine blk_alloc ?_ _)); refine blk_put (cs := #[.int .i64 t235, .string t236, .int .i64 t237, .int .i64 0]) ?_ 3 _ rfl; (with_reducible repeat (first | refine blk_drewN ?_ _ | refine blk_drew ?_ | refine blk_alloc ?_ _)); refine blk_put (cs := #[.int .i64 t235, .string t236, .int .i64 0, .int .i64 0]) ?_ 2 _ rfl; (with_reducible repeat (first | refine blk_drewN ?_ _ | refine blk_drew ?_ | refine blk_alloc ?_ _)); refine blk_put (cs := #[.int .i64 t235, .string (⟨#[]⟩ : ByteArray), .int .i64 0, .int .i64 0]) ?_ 1 _ rfl; (with_reducible repeat (first | refine blk_drewN ?_ _ | refine blk_drew ?_ | refine blk_alloc ?_ _)); refine blk_put (cs := #[.int .i64 0, .string (⟨#[]⟩ : ByteArray), .int .i64 0, .int .i64 0]) ?_ 0 _ rfl; (with_reducible repeat (first | refine blk_drewN ?_ _ | refine blk_drew ?_ | refine blk_alloc ?_ _)); exact BK241.out) hg (Kd.R_away HO_6.out (fun _ hk => hk.2))); have n1_ := Aside0.mk (hb); have n2_ := Aside0.mk (ho); clear BK241; clear HB; clear HO_6; have BK241 := n0_; have HB := n1_; have HO244 := n2_; clear n0_ n1_ n2_; clear ho hb hg hat) | ((with_reducible refine gate_callee (f := 32) rfl ?_); refine goesL_ (some 39) rfl rfl Tryz.func32 (by kernel_rfl) rfl #[.string a0, .int .i64 t240] rfl gz ?_; (with_reducible refine (copperplateref04_Blank.calls k1 a0 t240 t245 _ A11.out).mono ?_); rintro e w' ⟨rfl, ⟨nd, rfl⟩⟩; refine ⟨_, rfl, ?_⟩))
       go_roundg k1
       case measure => have := HK1.out; omega
       case rel => exact ⟨(y242), (t245), (by first | rfl | (simp; done) | (simp [*]; done)), H', ⟨by have := HK1.out; omega⟩, ⟨by (with_reducible repeat (first | apply Kd.R_alloc | apply Kd.R_drewN | apply Kd.R_drew)); exact Kd.R_mono HO244.out (fun _ hk => trivial)⟩, ⟨by repeat (first | (with_reducible first | exact HB.out | apply below_alloc | apply pw_below_drewN | apply below_drew1 | refine below_set ?_ GE241.out) | exact HB.out)⟩⟩
      ·rw [if_neg c10] at H
       exact absurd H (by simp)
     ·rw [if_neg c9] at H
      have c9b0 : (t239 == 0) = false := beq_eq_false_iff_ne.mpr c9
      have c9b1 : (t239 != 0) = true := bne_iff_ne.mpr c9
      simp only [Option.some.injEq, Prod.mk.injEq] at H
      obtain ⟨rfl, rfl, rfl⟩ := H
      go_wp2_with (first | ((with_reducible refine gate_callee (f := 7) rfl ?_); refine goesL_ (some 25) rfl rfl Tryz.func7 (by kernel_rfl) rfl #[.string a0, .int .i64 x7_1] rfl gz ?_; (with_reducible refine (copperplateref09_One.calls k1 a0 x7_1 t235 t236 t237 t238 t239 t240 _ A8.out).mono ?_); rintro e w16 ⟨rfl, hb⟩; refine ⟨_, rfl, ?_⟩; have n0_ := Aside0.mk (Kd.R_below (by (with_reducible repeat (first | apply Kd.R_alloc | apply Kd.R_drewN | apply Kd.R_drew)); exact HO_6.out) hb); have n1_ := Aside0.mk (below_step hbz hb); clear HO_6; clear HB; have HO_6 := n0_; have HB := n1_; clear n0_ n1_; (try clear hb); (try clear hb2); (try clear hk); (try clear hi)) | ((with_reducible refine gate_dst (N := 8) rfl ?_); refine box_event ?hg (N := 8) ?hd (cs := #[.int .i64 0, .string (⟨#[]⟩ : ByteArray), .int .i64 0, .int .i64 0]) (t := 26) ?hr ?_; (case hd => rfl); (case hg => rfl); (case hr => first | (go_simp; done) | (go_simp; rfl)); intro gb241 hg w17 hbox hb; have n0_ := Aside0.mk (Kd.R_below (Kd.R_elderB (by (with_reducible repeat (first | apply Kd.R_alloc | apply Kd.R_drewN | apply Kd.R_drew)); exact HO_6.out) gb241 (Nat.le_of_eq hg.symm)) hb); have n1_ := Aside0.mk (below_step hbz hb); have n2_ := Aside0.mk (hbox); have n3_ := Aside0.mk ((by rw [hg]; exact (below_size hbz) : w.heap.size ≤ gb241)); have n4_ := Aside0.mk ((by rw [hg]; exact (below_size hbz) : w.heap.size ≤ gb241)); clear HO_6; clear HB; have HO_6 := n0_; have HB := n1_; have BK241 := n2_; have GW241 := n3_; have GE241 := n4_; clear n0_ n1_ n2_ n3_ n4_; clear hb hbox hg; have hcz18_0 : w17.cell? ⟨gb241, 0, none⟩ = some (.int .i64 0) := (blk_cell BK241.out 0).trans rfl; have hcz18_1 : w17.cell? ⟨gb241, 1, none⟩ = some (.string (⟨#[]⟩ : ByteArray)) := (blk_cell BK241.out 1).trans rfl; have hcz18_2 : w17.cell? ⟨gb241, 2, none⟩ = some (.int .i64 0) := (blk_cell BK241.out 2).trans rfl; have hcz18_3 : w17.cell? ⟨gb241, 3, none⟩ = some (.int .i64 0) := (blk_cell BK241.out 3).trans rfl; have hfz18_0 := blk_frozen BK241.out 0; have hfz18_1 := blk_frozen BK241.out 1; have hfz18_2 := blk_frozen BK241.out 2; have hfz18_3 := blk_frozen BK241.out 3))
      go_ret3
      exact ⟨_, by first | rfl | (simp [errW_none, errW_some] <;> rfl) | (simp [*, errW_none, errW_some] <;> rfl), by first | exact Kd.R_nil _ _ _ _ _ | exact Kd.N_nil _ _ _ _ _ | exact Kd.V_nil _ _ _ _ _ | exact Kd.Q_nil _ _ _ _ _ | exact Kd.S_nil _ _ _ _ _, by repeat (first | (with_reducible first | exact HB.out | apply below_alloc | apply pw_below_drewN | apply below_drew1 | refine below_set ?_ GE241.out) | exact HB.out)⟩
    ·rw [if_neg c7] at H
     have c7b0 : decide (x7_1 < (a0.size : Int)) = false := decide_eq_false c7
     clear c7
     simp only [Option.some.injEq, Prod.mk.injEq] at H
     obtain ⟨rfl, rfl, rfl⟩ := H
     go_wp2
     go_ret3
     exact ⟨_, by first | rfl | (simp [errW_none, errW_some] <;> rfl) | (simp [*, errW_none, errW_some] <;> rfl), by (with_reducible repeat (first | apply Kd.R_alloc | apply Kd.R_drewN | apply Kd.R_drew)); exact HO_6.out, hbz⟩
def copperplateref09_Exact.l0 : Nat → List (S26) → List (S26) → Int → Option (Bool)
 | 0, _, _, _ => none
 | k + 1, x0, x1, x5 => if x5 < (x0.length : Int) then (if 0 ≤ x5 then (if x5 < (x1.length : Int) then (if (!(((rd_T26 x0 x5).f0) == ((rd_T26 x1 x5).f0)) || (!((((rd_T26 x0 x5).f1).toList) == (((rd_T26 x1 x5).f1).toList)) || (!(((rd_T26 x0 x5).f2) == ((rd_T26 x1 x5).f2)) || (!(((rd_T26 x0 x5).f3) == ((rd_T26 x1 x5).f3)))))) = true then (some false) else (copperplateref09_Exact.l0 k x0 x1 (wrap64 (x5 + 1)))) else (none)) else (none)) else (some true)
def copperplateref09_Exact.f (k : Nat) (l0 : List (S26)) (l1 : List (S26)) : Option (Bool) := if (l0.length : Int) = (l1.length : Int) then (copperplateref09_Exact.l0 k l0 l1 0) else (some false)
theorem copperplateref09_Exact.mono_l : ∀ k, (∀ y0 y1 y2, LeO (copperplateref09_Exact.l0 k y0 y1 y2) (copperplateref09_Exact.l0 (k + 1) y0 y1 y2))
 | 0 => fun _ _ _ r h => by simp [copperplateref09_Exact.l0] at h
 | k + 1 => by
  have ih0 := copperplateref09_Exact.mono_l k
  ·intro y0 y1 y2
   unfold copperplateref09_Exact.l0
   repeat' first
   | (with_reducible exact ih0 _ _ _)
   | (with_reducible exact LeO.refl _)
   | (with_reducible exact LeO.none _)
   | (with_reducible refine LeO.ite ?_ ?_)
   | (with_reducible refine LeO.bind ?_ (fun _ => ?_))
   | exact ih0 _ _ _
   | exact LeO.none _
   | refine LeO.ite ?_ ?_
   | refine LeO.bind ?_ (fun _ => ?_)
theorem copperplateref09_Exact.mono : ∀ a0 a1 k, LeO (copperplateref09_Exact.f k a0 a1) (copperplateref09_Exact.f (k + 1) a0 a1) := by
 intro a0 a1 k
 have ih0 := copperplateref09_Exact.mono_l k
 unfold copperplateref09_Exact.f
 repeat' first
   | (with_reducible exact ih0 _ _ _)
   | (with_reducible exact LeO.refl _)
   | (with_reducible exact LeO.none _)
   | (with_reducible refine LeO.ite ?_ ?_)
   | (with_reducible refine LeO.bind ?_ (fun _ => ?_))
   | exact ih0 _ _ _
   | exact LeO.none _
   | refine LeO.ite ?_ ?_
   | refine LeO.bind ?_ (fun _ => ?_)
set_option maxHeartbeats 8000000 in
set_option maxRecDepth 100000 in
theorem copperplateref09_Exact.calls (k : Nat) (A0 : Option Addr) (c0 : Nat) (l0 : List (S26)) (A1 : Option Addr) (c1 : Nat) (l1 : List (S26)) (r : Bool) (w : World) (hr0 : Kd.C k26 w A0 l0.length l0) (hc0 : l0.length ≤ c0) (hr1 : Kd.C k26 w A1 l1.length l1) (hc1 : l1.length ≤ c1) (h : copperplateref09_Exact.f k l0 l1 = some r) :
  Calls Tryz.prog 10 #[.slice A0 l0.length c0, .slice A1 l1.length c1] w fun e w' => e = .returned (.bool r) ∧ Drawn0 w w' := by
 have hu26 := Tryz.underlying26
 have HR0 := Aside0.mk hr0
 have HC0 := Aside0.mk hc0
 clear hr0 hc0
 have HR1 := Aside0.mk hr1
 have HC1 := Aside0.mk hc1
 clear hr1 hc1
 have H : (if (l0.length : Int) = (l1.length : Int) then (copperplateref09_Exact.l0 k l0 l1 0) else (some false)) = some r := h
 clear h
 by_cases c3 : (l0.length : Int) = (l1.length : Int)
 ·rw [if_pos c3] at H
  have c3b0 : ((l0.length : Int) == (l1.length : Int)) = true := beq_iff_eq.mpr c3
  have c3b1 : ((l0.length : Int) != (l1.length : Int)) = false := bne_eq_false_iff_eq.mpr c3
  have c3b2 : (l0.length == l1.length) = true := by first | simpa using c3 | (simp at c3 ⊢; omega)
  clear c3
  have H' := Aside0.mk H
  clear H
  go_enter Tryz.func10, Tryz.ntmps10
  go_wp2
  repeat (go_quiet (fail); try go_wp2)
  go_loopg [5] k (fun kq v5 w' => ∃ (x5_1 : Int), v5 = .int .i64 x5_1 ∧ Aside0 (copperplateref09_Exact.l0 kq l0 l1 x5_1 = some r) ∧ Aside0 (kq ≤ k) ∧ Drawn0 w w')
  case atStart => exact ⟨(0), (by first | rfl | (simp; done) | (simp [*]; done)), H', ⟨Nat.le_refl _⟩, by repeat (first | exact Drawn0.refl _ | apply Drawn0.step)⟩
  case round =>
   clear H'
   try clear c1
   try clear p2
   try clear c3
   try clear c3b0
   try clear c3b1
   try clear c3b2
   obtain ⟨x5_1, rfl, HA, HK1, ⟨m1, rfl⟩⟩ := hrel
   cases gk with
   | zero => exact absurd HA.out (by simp [copperplateref09_Exact.l0])
   | succ k1 =>
    have H := HA.out
    clear HA
    simp only [copperplateref09_Exact.l0] at H
    by_cases c4 : x5_1 < (l0.length : Int)
    ·rw [if_pos c4] at H
     have c4b0 : decide (x5_1 < (l0.length : Int)) = true := decide_eq_true c4
     clear c4
     by_cases c5 : 0 ≤ x5_1
     ·rw [if_pos c5] at H
      have c5b0 : decide (0 ≤ x5_1) = true := decide_eq_true c5
      clear c5
      by_cases c6 : x5_1 < (l1.length : Int)
      ·rw [if_pos c6] at H
       have c6b0 : decide (x5_1 < (l1.length : Int)) = true := decide_eq_true c6
       clear c6
       by_cases c7 : (!(((rd_T26 l0 x5_1).f0) == ((rd_T26 l1 x5_1).f0)) || (!((((rd_T26 l0 x5_1).f1).toList) == (((rd_T26 l1 x5_1).f1).toList)) || (!(((rd_T26 l0 x5_1).f2) == ((rd_T26 l1 x5_1).f2)) || (!(((rd_T26 l0 x5_1).f3) == ((rd_T26 l1 x5_1).f3)))))) = true
       ·rw [if_pos c7] at H
        have c7b0 : (!(((rd_T26 l0 x5_1).f0) == ((rd_T26 l1 x5_1).f0)) || (!((((rd_T26 l0 x5_1).f1).toList) == (((rd_T26 l1 x5_1).f1).toList)) || (!(((rd_T26 l0 x5_1).f2) == ((rd_T26 l1 x5_1).f2)) || (!(((rd_T26 l0 x5_1).f3) == ((rd_T26 l1 x5_1).f3)))))) = true := c7
        clear c7
        obtain rfl := Option.some.inj H
        have p246 : 0 ≤ (x5_1 : Int) := of_decide_eq_true (by first | (with_reducible assumption) | assumption)
        have q246 : x5_1 < (l0.length : Int) := of_decide_eq_true (by first | (with_reducible assumption) | assumption)
        obtain ⟨ad246, e246, hx246_0, hx246_1, hx246_2, hx246_3⟩ := at_T26 HR0.out x5_1 p246 q246
        cases e246
        replace p246 := eq_true p246
        replace q246 := eq_true q246
        have p247 : 0 ≤ (x5_1 : Int) := of_decide_eq_true (by first | (with_reducible assumption) | assumption)
        have q247 : x5_1 < (l1.length : Int) := of_decide_eq_true (by first | (with_reducible assumption) | assumption)
        obtain ⟨ad247, e247, hx247_0, hx247_1, hx247_2, hx247_3⟩ := at_T26 HR1.out x5_1 p247 q247
        cases e247
        replace p247 := eq_true p247
        replace q247 := eq_true q247
        go_wp2
        repeat (go_quiet (fail); try go_wp2)
        go_ret
        exact ⟨by first | rfl | (simp; done) | (simp [*]; done), by repeat (first | exact Drawn0.refl _ | apply Drawn0.step)⟩
       ·rw [if_neg c7] at H
        have c7b0 : (!(((rd_T26 l0 x5_1).f0) == ((rd_T26 l1 x5_1).f0)) || (!((((rd_T26 l0 x5_1).f1).toList) == (((rd_T26 l1 x5_1).f1).toList)) || (!(((rd_T26 l0 x5_1).f2) == ((rd_T26 l1 x5_1).f2)) || (!(((rd_T26 l0 x5_1).f3) == ((rd_T26 l1 x5_1).f3)))))) = false := by simpa using c7
        clear c7
        have H' := Aside0.mk H
        clear H
        have p246 : 0 ≤ (x5_1 : Int) := of_decide_eq_true (by first | (with_reducible assumption) | assumption)
        have q246 : x5_1 < (l0.length : Int) := of_decide_eq_true (by first | (with_reducible assumption) | assumption)
        obtain ⟨ad246, e246, hx246_0, hx246_1, hx246_2, hx246_3⟩ := at_T26 HR0.out x5_1 p246 q246
        cases e246
        replace p246 := eq_true p246
        replace q246 := eq_true q246
        have p247 : 0 ≤ (x5_1 : Int) := of_decide_eq_true (by first | (with_reducible assumption) | assumption)
        have q247 : x5_1 < (l1.length : Int) := of_decide_eq_true (by first | (with_reducible assumption) | assumption)
        obtain ⟨ad247, e247, hx247_0, hx247_1, hx247_2, hx247_3⟩ := at_T26 HR1.out x5_1 p247 q247
        cases e247
        replace p247 := eq_true p247
        replace q247 := eq_true q247
        go_wp2
        repeat (go_quiet (fail); try go_wp2)
        go_roundg k1
        case measure => have := HK1.out; omega
        case rel => exact ⟨(wrap64 (x5_1 + 1)), (by first | rfl | (simp; done) | (simp [*]; done)), H', ⟨by have := HK1.out; omega⟩, by repeat (first | exact Drawn0.refl _ | apply Drawn0.step)⟩
      ·rw [if_neg c6] at H
       exact absurd H (by simp)
     ·rw [if_neg c5] at H
      exact absurd H (by simp)
    ·rw [if_neg c4] at H
     have c4b0 : decide (x5_1 < (l0.length : Int)) = false := decide_eq_false c4
     clear c4
     obtain rfl := Option.some.inj H
     go_wp2
     repeat (go_quiet (fail); try go_wp2)
     go_ret
     exact ⟨by first | rfl | (simp; done) | (simp [*]; done), by repeat (first | exact Drawn0.refl _ | apply Drawn0.step)⟩
 ·rw [if_neg c3] at H
  have c3b0 : ((l0.length : Int) == (l1.length : Int)) = false := beq_eq_false_iff_ne.mpr c3
  have c3b1 : ((l0.length : Int) != (l1.length : Int)) = true := bne_iff_ne.mpr c3
  have c3b2 : (l0.length == l1.length) = false := by first | simpa using c3 | (simp at c3 ⊢; omega)
  obtain rfl := Option.some.inj H
  go_enter Tryz.func10, Tryz.ntmps10
  go_wp2
  repeat (go_quiet (fail); try go_wp2)
  go_ret
  exact ⟨by first | rfl | (simp; done) | (simp [*]; done), by repeat (first | exact Drawn0.refl _ | apply Drawn0.step)⟩
def copperplateref09_Same.l0 : Nat → List (S26) → List (S26) → Int → Option (Bool)
 | 0, _, _, _ => none
 | k + 1, x0, x1, x5 => if x5 < (x0.length : Int) then (if 0 ≤ x5 then (if x5 < (x1.length : Int) then (if ((rd_T26 x0 x5).f0) = ((rd_T26 x1 x5).f0) then (if ((rd_T26 x0 x5).f1).toList = ((rd_T26 x1 x5).f1).toList then (copperplateref09_Same.l0 k x0 x1 (wrap64 (x5 + 1))) else (some false)) else (some false)) else (none)) else (none)) else (some true)
def copperplateref09_Same.f (k : Nat) (l0 : List (S26)) (l1 : List (S26)) : Option (Bool) := if (l0.length : Int) = (l1.length : Int) then (copperplateref09_Same.l0 k l0 l1 0) else (some false)
theorem copperplateref09_Same.mono_l : ∀ k, (∀ y0 y1 y2, LeO (copperplateref09_Same.l0 k y0 y1 y2) (copperplateref09_Same.l0 (k + 1) y0 y1 y2))
 | 0 => fun _ _ _ r h => by simp [copperplateref09_Same.l0] at h
 | k + 1 => by
  have ih0 := copperplateref09_Same.mono_l k
  ·intro y0 y1 y2
   unfold copperplateref09_Same.l0
   repeat' first
   | (with_reducible exact ih0 _ _ _)
   | (with_reducible exact LeO.refl _)
   | (with_reducible exact LeO.none _)
   | (with_reducible refine LeO.ite ?_ ?_)
   | (with_reducible refine LeO.bind ?_ (fun _ => ?_))
   | exact ih0 _ _ _
   | exact LeO.none _
   | refine LeO.ite ?_ ?_
   | refine LeO.bind ?_ (fun _ => ?_)
theorem copperplateref09_Same.mono : ∀ a0 a1 k, LeO (copperplateref09_Same.f k a0 a1) (copperplateref09_Same.f (k + 1) a0 a1) := by
 intro a0 a1 k
 have ih0 := copperplateref09_Same.mono_l k
 unfold copperplateref09_Same.f
 repeat' first
   | (with_reducible exact ih0 _ _ _)
   | (with_reducible exact LeO.refl _)
   | (with_reducible exact LeO.none _)
   | (with_reducible refine LeO.ite ?_ ?_)
   | (with_reducible refine LeO.bind ?_ (fun _ => ?_))
   | exact ih0 _ _ _
   | exact LeO.none _
   | refine LeO.ite ?_ ?_
   | refine LeO.bind ?_ (fun _ => ?_)
set_option maxHeartbeats 8000000 in
set_option maxRecDepth 100000 in
theorem copperplateref09_Same.calls (k : Nat) (A0 : Option Addr) (c0 : Nat) (l0 : List (S26)) (A1 : Option Addr) (c1 : Nat) (l1 : List (S26)) (r : Bool) (w : World) (hr0 : Kd.C k26 w A0 l0.length l0) (hc0 : l0.length ≤ c0) (hr1 : Kd.C k26 w A1 l1.length l1) (hc1 : l1.length ≤ c1) (h : copperplateref09_Same.f k l0 l1 = some r) :
  Calls Tryz.prog 11 #[.slice A0 l0.length c0, .slice A1 l1.length c1] w fun e w' => e = .returned (.bool r) ∧ Drawn0 w w' := by
 have HR0 := Aside0.mk hr0
 have HC0 := Aside0.mk hc0
 clear hr0 hc0
 have HR1 := Aside0.mk hr1
 have HC1 := Aside0.mk hc1
 clear hr1 hc1
 have H : (if (l0.length : Int) = (l1.length : Int) then (copperplateref09_Same.l0 k l0 l1 0) else (some false)) = some r := h
 clear h
 by_cases c3 : (l0.length : Int) = (l1.length : Int)
 ·rw [if_pos c3] at H
  have c3b0 : ((l0.length : Int) == (l1.length : Int)) = true := beq_iff_eq.mpr c3
  have c3b1 : ((l0.length : Int) != (l1.length : Int)) = false := bne_eq_false_iff_eq.mpr c3
  have c3b2 : (l0.length == l1.length) = true := by first | simpa using c3 | (simp at c3 ⊢; omega)
  clear c3
  have H' := Aside0.mk H
  clear H
  go_enter Tryz.func11, Tryz.ntmps11
  go_wp2
  repeat (go_quiet (fail); try go_wp2)
  go_loopg [5] k (fun kq v5 w' => ∃ (x5_1 : Int), v5 = .int .i64 x5_1 ∧ Aside0 (copperplateref09_Same.l0 kq l0 l1 x5_1 = some r) ∧ Aside0 (kq ≤ k) ∧ Drawn0 w w')
  case atStart => exact ⟨(0), (by first | rfl | (simp; done) | (simp [*]; done)), H', ⟨Nat.le_refl _⟩, by repeat (first | exact Drawn0.refl _ | apply Drawn0.step)⟩
  case round =>
   clear H'
   try clear c1
   try clear p2
   try clear c3
   try clear c3b0
   try clear c3b1
   try clear c3b2
   obtain ⟨x5_1, rfl, HA, HK1, ⟨m1, rfl⟩⟩ := hrel
   cases gk with
   | zero => exact absurd HA.out (by simp [copperplateref09_Same.l0])
   | succ k1 =>
    have H := HA.out
    clear HA
    simp only [copperplateref09_Same.l0] at H
    by_cases c4 : x5_1 < (l0.length : Int)
    ·rw [if_pos c4] at H
     have c4b0 : decide (x5_1 < (l0.length : Int)) = true := decide_eq_true c4
     clear c4
     by_cases c5 : 0 ≤ x5_1
     ·rw [if_pos c5] at H
      have c5b0 : decide (0 ≤ x5_1) = true := decide_eq_true c5
      clear c5
      by_cases c6 : x5_1 < (l1.length : Int)
      ·rw [if_pos c6] at H
       have c6b0 : decide (x5_1 < (l1.length : Int)) = true := decide_eq_true c6
       clear c6
       by_cases c7 : ((rd_T26 l0 x5_1).f0) = ((rd_T26 l1 x5_1).f0)
       ·rw [if_pos c7] at H
        have c7b0 : (((rd_T26 l0 x5_1).f0) == ((rd_T26 l1 x5_1).f0)) = true := beq_iff_eq.mpr c7
        have c7b1 : (((rd_T26 l0 x5_1).f0) != ((rd_T26 l1 x5_1).f0)) = false := bne_eq_false_iff_eq.mpr c7
        clear c7
        by_cases c8 : ((rd_T26 l0 x5_1).f1).toList = ((rd_T26 l1 x5_1).f1).toList
        ·rw [if_pos c8] at H
         have c8b0 : (((rd_T26 l0 x5_1).f1).toList == ((rd_T26 l1 x5_1).f1).toList) = true := beq_iff_eq.mpr c8
         have c8b1 : (((rd_T26 l0 x5_1).f1).toList != ((rd_T26 l1 x5_1).f1).toList) = false := bne_eq_false_iff_eq.mpr c8
         clear c8
         have H' := Aside0.mk H
         clear H
         have p248 : 0 ≤ (x5_1 : Int) := of_decide_eq_true (by first | (with_reducible assumption) | assumption)
         have q248 : x5_1 < (l0.length : Int) := of_decide_eq_true (by first | (with_reducible assumption) | assumption)
         obtain ⟨ad248, e248, hx248_0, hx248_1, hx248_2, hx248_3⟩ := at_T26 HR0.out x5_1 p248 q248
         cases e248
         replace p248 := eq_true p248
         replace q248 := eq_true q248
         have p249 : 0 ≤ (x5_1 : Int) := of_decide_eq_true (by first | (with_reducible assumption) | assumption)
         have q249 : x5_1 < (l1.length : Int) := of_decide_eq_true (by first | (with_reducible assumption) | assumption)
         obtain ⟨ad249, e249, hx249_0, hx249_1, hx249_2, hx249_3⟩ := at_T26 HR1.out x5_1 p249 q249
         cases e249
         replace p249 := eq_true p249
         replace q249 := eq_true q249
         have p250 : 0 ≤ (x5_1 : Int) := of_decide_eq_true (by first | (with_reducible assumption) | assumption)
         have q250 : x5_1 < (l0.length : Int) := of_decide_eq_true (by first | (with_reducible assumption) | assumption)
         obtain ⟨ad250, e250, hx250_0, hx250_1, hx250_2, hx250_3⟩ := at_T26 HR0.out x5_1 p250 q250
         obtain rfl : ad248 = ad250 := (by injection e250)
         replace p250 := eq_true p250
         replace q250 := eq_true q250
         have p251 : 0 ≤ (x5_1 : Int) := of_decide_eq_true (by first | (with_reducible assumption) | assumption)
         have q251 : x5_1 < (l1.length : Int) := of_decide_eq_true (by first | (with_reducible assumption) | assumption)
         obtain ⟨ad251, e251, hx251_0, hx251_1, hx251_2, hx251_3⟩ := at_T26 HR1.out x5_1 p251 q251
         obtain rfl : ad249 = ad251 := (by injection e251)
         replace p251 := eq_true p251
         replace q251 := eq_true q251
         go_wp2
         repeat (go_quiet (fail); try go_wp2)
         go_roundg k1
         case measure => have := HK1.out; omega
         case rel => exact ⟨(wrap64 (x5_1 + 1)), (by first | rfl | (simp; done) | (simp [*]; done)), H', ⟨by have := HK1.out; omega⟩, by repeat (first | exact Drawn0.refl _ | apply Drawn0.step)⟩
        ·rw [if_neg c8] at H
         have c8b0 : (((rd_T26 l0 x5_1).f1).toList == ((rd_T26 l1 x5_1).f1).toList) = false := beq_eq_false_iff_ne.mpr c8
         have c8b1 : (((rd_T26 l0 x5_1).f1).toList != ((rd_T26 l1 x5_1).f1).toList) = true := bne_iff_ne.mpr c8
         obtain rfl := Option.some.inj H
         have p248 : 0 ≤ (x5_1 : Int) := of_decide_eq_true (by first | (with_reducible assumption) | assumption)
         have q248 : x5_1 < (l0.length : Int) := of_decide_eq_true (by first | (with_reducible assumption) | assumption)
         obtain ⟨ad248, e248, hx248_0, hx248_1, hx248_2, hx248_3⟩ := at_T26 HR0.out x5_1 p248 q248
         cases e248
         replace p248 := eq_true p248
         replace q248 := eq_true q248
         have p249 : 0 ≤ (x5_1 : Int) := of_decide_eq_true (by first | (with_reducible assumption) | assumption)
         have q249 : x5_1 < (l1.length : Int) := of_decide_eq_true (by first | (with_reducible assumption) | assumption)
         obtain ⟨ad249, e249, hx249_0, hx249_1, hx249_2, hx249_3⟩ := at_T26 HR1.out x5_1 p249 q249
         cases e249
         replace p249 := eq_true p249
         replace q249 := eq_true q249
         have p250 : 0 ≤ (x5_1 : Int) := of_decide_eq_true (by first | (with_reducible assumption) | assumption)
         have q250 : x5_1 < (l0.length : Int) := of_decide_eq_true (by first | (with_reducible assumption) | assumption)
         obtain ⟨ad250, e250, hx250_0, hx250_1, hx250_2, hx250_3⟩ := at_T26 HR0.out x5_1 p250 q250
         obtain rfl : ad248 = ad250 := (by injection e250)
         replace p250 := eq_true p250
         replace q250 := eq_true q250
         have p251 : 0 ≤ (x5_1 : Int) := of_decide_eq_true (by first | (with_reducible assumption) | assumption)
         have q251 : x5_1 < (l1.length : Int) := of_decide_eq_true (by first | (with_reducible assumption) | assumption)
         obtain ⟨ad251, e251, hx251_0, hx251_1, hx251_2, hx251_3⟩ := at_T26 HR1.out x5_1 p251 q251
         obtain rfl : ad249 = ad251 := (by injection e251)
         replace p251 := eq_true p251
         replace q251 := eq_true q251
         go_wp2
         repeat (go_quiet (fail); try go_wp2)
         go_ret
         exact ⟨by first | rfl | (simp; done) | (simp [*]; done), by repeat (first | exact Drawn0.refl _ | apply Drawn0.step)⟩
       ·rw [if_neg c7] at H
        have c7b0 : (((rd_T26 l0 x5_1).f0) == ((rd_T26 l1 x5_1).f0)) = false := beq_eq_false_iff_ne.mpr c7
        have c7b1 : (((rd_T26 l0 x5_1).f0) != ((rd_T26 l1 x5_1).f0)) = true := bne_iff_ne.mpr c7
        obtain rfl := Option.some.inj H
        have p248 : 0 ≤ (x5_1 : Int) := of_decide_eq_true (by first | (with_reducible assumption) | assumption)
        have q248 : x5_1 < (l0.length : Int) := of_decide_eq_true (by first | (with_reducible assumption) | assumption)
        obtain ⟨ad248, e248, hx248_0, hx248_1, hx248_2, hx248_3⟩ := at_T26 HR0.out x5_1 p248 q248
        cases e248
        replace p248 := eq_true p248
        replace q248 := eq_true q248
        have p249 : 0 ≤ (x5_1 : Int) := of_decide_eq_true (by first | (with_reducible assumption) | assumption)
        have q249 : x5_1 < (l1.length : Int) := of_decide_eq_true (by first | (with_reducible assumption) | assumption)
        obtain ⟨ad249, e249, hx249_0, hx249_1, hx249_2, hx249_3⟩ := at_T26 HR1.out x5_1 p249 q249
        cases e249
        replace p249 := eq_true p249
        replace q249 := eq_true q249
        go_wp2
        repeat (go_quiet (fail); try go_wp2)
        go_ret
        exact ⟨by first | rfl | (simp; done) | (simp [*]; done), by repeat (first | exact Drawn0.refl _ | apply Drawn0.step)⟩
      ·rw [if_neg c6] at H
       exact absurd H (by simp)
     ·rw [if_neg c5] at H
      exact absurd H (by simp)
    ·rw [if_neg c4] at H
     have c4b0 : decide (x5_1 < (l0.length : Int)) = false := decide_eq_false c4
     clear c4
     obtain rfl := Option.some.inj H
     go_wp2
     repeat (go_quiet (fail); try go_wp2)
     go_ret
     exact ⟨by first | rfl | (simp; done) | (simp [*]; done), by repeat (first | exact Drawn0.refl _ | apply Drawn0.step)⟩
 ·rw [if_neg c3] at H
  have c3b0 : ((l0.length : Int) == (l1.length : Int)) = false := beq_eq_false_iff_ne.mpr c3
  have c3b1 : ((l0.length : Int) != (l1.length : Int)) = true := bne_iff_ne.mpr c3
  have c3b2 : (l0.length == l1.length) = false := by first | simpa using c3 | (simp at c3 ⊢; omega)
  obtain rfl := Option.some.inj H
  go_enter Tryz.func11, Tryz.ntmps11
  go_wp2
  repeat (go_quiet (fail); try go_wp2)
  go_ret
  exact ⟨by first | rfl | (simp; done) | (simp [*]; done), by repeat (first | exact Drawn0.refl _ | apply Drawn0.step)⟩
def copperplatelaw09_LexTells.j0 : Nat → ByteArray → Int → List (S26) → List (S26) → Bool → Bool → Option (Bool)
 | 0, _, _, _, _, _, _ => none
 | k + 1, x0, x1, x2, x3, x9, x45 => if x45 = true then (some x9) else ((lex_One.f x0 x1).bind fun bt255 => ((copperplateref09_One.f k x0 x1).bind fun bt262 => ((lex_Lex.f x0).bind fun bt269 => ((copperplateref09_Lex.f k x0).bind fun bt274 => ((copperplateref09_Exact.f k bt269.1 bt274.1).bind fun t279 => ((copperplateref09_Same.f k x2 x3).bind fun t280 => (if (bt255.1 == bt262.1 && (bt255.2.1.toList == bt262.2.1.toList && (bt255.2.2.1 == bt262.2.2.1 && (bt255.2.2.2.1 == bt262.2.2.2.1)))) = true then (if bt255.2.2.2.2.1 = bt262.2.2.2.2.1 then (if bt255.2.2.2.2.2 = bt262.2.2.2.2.2 then (if t279 = true then (if bt269.2.1 = bt274.2.1 then (if bt269.2.2 = bt274.2.2 then ((lex_Same.f x2 x3).bind fun t281 => (some (t281 == t280))) else (some false)) else (some false)) else (some false)) else (some false)) else (some false)) else (some false))))))))
def copperplatelaw09_LexTells.f (k : Nat) (a0 : ByteArray) (a1 : Int) (l2 : List (S26)) (l3 : List (S26)) : Option (Bool) := (copperplatelaw09_awake.f).bind fun t252 => ((copperplatelaw09_FewToks.f k l2).bind fun t253 => ((copperplatelaw09_FewToks.f k l3).bind fun t254 => (if t252 = true then (if t253 = true then (if t254 = true then (copperplatelaw09_LexTells.j0 k a0 a1 l2 l3 t252 (decide ((a0.size : Int) > 600))) else (copperplatelaw09_LexTells.j0 k a0 a1 l2 l3 t252 true)) else (copperplatelaw09_LexTells.j0 k a0 a1 l2 l3 t252 true)) else (copperplatelaw09_LexTells.j0 k a0 a1 l2 l3 t252 true))))
theorem copperplatelaw09_LexTells.mono_l : ∀ k, (∀ y0 y1 y2 y3 y4 y5, LeO (copperplatelaw09_LexTells.j0 k y0 y1 y2 y3 y4 y5) (copperplatelaw09_LexTells.j0 (k + 1) y0 y1 y2 y3 y4 y5))
 | 0 => fun _ _ _ _ _ _ r h => by simp [copperplatelaw09_LexTells.j0] at h
 | k + 1 => by
  have ih0 := copperplatelaw09_LexTells.mono_l k
  ·intro y0 y1 y2 y3 y4 y5
   unfold copperplatelaw09_LexTells.j0
   repeat' first
   | (with_reducible exact ih0 _ _ _ _ _ _)
   | (with_reducible exact copperplatelaw09_FewToks.mono _ _)
   | (with_reducible exact copperplateref09_Exact.mono _ _ _)
   | (with_reducible exact copperplateref09_Lex.mono _ _)
   | (with_reducible exact copperplateref09_One.mono _ _ _)
   | (with_reducible exact copperplateref09_Same.mono _ _ _)
   | (with_reducible exact LeO.refl _)
   | (with_reducible exact LeO.none _)
   | (with_reducible refine LeO.ite ?_ ?_)
   | (with_reducible refine LeO.bind ?_ (fun _ => ?_))
   | exact ih0 _ _ _ _ _ _
   | exact copperplatelaw09_FewToks.mono _ _
   | exact copperplateref09_Exact.mono _ _ _
   | exact copperplateref09_Lex.mono _ _
   | exact copperplateref09_One.mono _ _ _
   | exact copperplateref09_Same.mono _ _ _
   | exact LeO.none _
   | refine LeO.ite ?_ ?_
   | refine LeO.bind ?_ (fun _ => ?_)
theorem copperplatelaw09_LexTells.mono : ∀ a0 a1 a2 a3 k, LeO (copperplatelaw09_LexTells.f k a0 a1 a2 a3) (copperplatelaw09_LexTells.f (k + 1) a0 a1 a2 a3) := by
 intro a0 a1 a2 a3 k
 have ih0 := copperplatelaw09_LexTells.mono_l k
 unfold copperplatelaw09_LexTells.f
 repeat' first
   | (with_reducible exact ih0 _ _ _ _ _ _)
   | (with_reducible exact copperplatelaw09_FewToks.mono _ _)
   | (with_reducible exact copperplateref09_Exact.mono _ _ _)
   | (with_reducible exact copperplateref09_Lex.mono _ _)
   | (with_reducible exact copperplateref09_One.mono _ _ _)
   | (with_reducible exact copperplateref09_Same.mono _ _ _)
   | (with_reducible exact LeO.refl _)
   | (with_reducible exact LeO.none _)
   | (with_reducible refine LeO.ite ?_ ?_)
   | (with_reducible refine LeO.bind ?_ (fun _ => ?_))
   | exact ih0 _ _ _ _ _ _
   | exact copperplatelaw09_FewToks.mono _ _
   | exact copperplateref09_Exact.mono _ _ _
   | exact copperplateref09_Lex.mono _ _
   | exact copperplateref09_One.mono _ _ _
   | exact copperplateref09_Same.mono _ _ _
   | exact LeO.none _
   | refine LeO.ite ?_ ?_
   | refine LeO.bind ?_ (fun _ => ?_)
set_option maxHeartbeats 8000000 in
set_option maxRecDepth 100000 in
theorem copperplatelaw09_LexTells.calls (k : Nat) (a0 : ByteArray) (a1 : Int) (A2 : Option Addr) (c2 : Nat) (l2 : List (S26)) (A3 : Option Addr) (c3 : Nat) (l3 : List (S26)) (r : Bool) (w : World) (hr2 : Kd.C k26 w A2 l2.length l2) (hc2 : l2.length ≤ c2) (hr3 : Kd.C k26 w A3 l3.length l3) (hc3 : l3.length ≤ c3) (h : copperplatelaw09_LexTells.f k a0 a1 l2 l3 = some r) (hL : LW w) (hr_ : r = true) :
  Calls Tryz.prog 3 #[.string a0, .int .i64 a1, .slice A2 l2.length c2, .slice A3 l3.length c3] w fun e w' => e = .returned (.bool r) ∧ Below w.heap.size w w' := by
 have hu26 := Tryz.underlying26
 have HR2 := Aside0.mk hr2
 have HC2 := Aside0.mk hc2
 clear hr2 hc2
 have HR3 := Aside0.mk hr3
 have HC3 := Aside0.mk hc3
 clear hr3 hc3
 have HB := Aside0.mk (Below.refl w.heap.size w)
 have H : ((copperplatelaw09_awake.f).bind fun t252 => ((copperplatelaw09_FewToks.f k l2).bind fun t253 => ((copperplatelaw09_FewToks.f k l3).bind fun t254 => (if t252 = true then (if t253 = true then (if t254 = true then (copperplatelaw09_LexTells.j0 k a0 a1 l2 l3 t252 (decide ((a0.size : Int) > 600))) else (copperplatelaw09_LexTells.j0 k a0 a1 l2 l3 t252 true)) else (copperplatelaw09_LexTells.j0 k a0 a1 l2 l3 t252 true)) else (copperplatelaw09_LexTells.j0 k a0 a1 l2 l3 t252 true))))) = some r := h
 clear h
 replace H := Option.bind_eq_some_iff.mp H
 obtain ⟨t252, A50, H⟩ := H
 replace H : ((copperplatelaw09_FewToks.f k l2).bind fun t253 => ((copperplatelaw09_FewToks.f k l3).bind fun t254 => (if t252 = true then (if t253 = true then (if t254 = true then (copperplatelaw09_LexTells.j0 k a0 a1 l2 l3 t252 (decide ((a0.size : Int) > 600))) else (copperplatelaw09_LexTells.j0 k a0 a1 l2 l3 t252 true)) else (copperplatelaw09_LexTells.j0 k a0 a1 l2 l3 t252 true)) else (copperplatelaw09_LexTells.j0 k a0 a1 l2 l3 t252 true)))) = some r := H
 have A5 := Aside0.mk A50
 clear A50
 replace H := Option.bind_eq_some_iff.mp H
 obtain ⟨t253, A60, H⟩ := H
 replace H : ((copperplatelaw09_FewToks.f k l3).bind fun t254 => (if t252 = true then (if t253 = true then (if t254 = true then (copperplatelaw09_LexTells.j0 k a0 a1 l2 l3 t252 (decide ((a0.size : Int) > 600))) else (copperplatelaw09_LexTells.j0 k a0 a1 l2 l3 t252 true)) else (copperplatelaw09_LexTells.j0 k a0 a1 l2 l3 t252 true)) else (copperplatelaw09_LexTells.j0 k a0 a1 l2 l3 t252 true))) = some r := H
 have A6 := Aside0.mk A60
 clear A60
 replace H := Option.bind_eq_some_iff.mp H
 obtain ⟨t254, A70, H⟩ := H
 replace H : (if t252 = true then (if t253 = true then (if t254 = true then (copperplatelaw09_LexTells.j0 k a0 a1 l2 l3 t252 (decide ((a0.size : Int) > 600))) else (copperplatelaw09_LexTells.j0 k a0 a1 l2 l3 t252 true)) else (copperplatelaw09_LexTells.j0 k a0 a1 l2 l3 t252 true)) else (copperplatelaw09_LexTells.j0 k a0 a1 l2 l3 t252 true)) = some r := H
 have A7 := Aside0.mk A70
 clear A70
 have HC8 := Aside0.mk H
 clear H
 go_enter Tryz.func3, Tryz.ntmps3
 go_upto_region 4 with (first | ((with_reducible refine gate_callee (f := 4) rfl ?_); refine goesL_ (some 26) rfl rfl Tryz.func4 (by kernel_rfl) rfl #[] rfl gz ?_; (with_reducible refine (copperplatelaw09_awake.calls  t252 _ A5.out (hL.low (by repeat (first | (with_reducible first | exact HB.out | apply below_alloc | apply pw_below_drewN | apply below_drew1) | exact HB.out | refine below_set ?_ GE261.out | refine below_set ?_ GE268.out | exact Below.refl _ _)))).mono ?_); rintro e w9 ⟨rfl, hb⟩; refine ⟨_, rfl, ?_⟩; have n0_ := Aside0.mk (below_step hbz hb); clear HB; have HB := n0_; clear n0_; (try clear hb); (try clear hb2); (try clear hk); (try clear hi)) | ((with_reducible refine gate_callee (f := 5) rfl ?_); refine goesL_ (some 28) rfl rfl Tryz.func5 (by kernel_rfl) rfl #[.slice A2 l2.length c2] rfl gz ?_; (with_reducible refine (copperplatelaw09_FewToks.calls k _ _ l2 t253 _ ?side1 ?side2 A6.out).mono ?_); (case side1 => repeat (first | exact (Kd.C_below HR2.out HB.out) | (with_reducible refine Kd.C_alloc ?_ _) | (with_reducible refine Kd.C_drewN ?_ _) | (with_reducible refine Kd.C_drew ?_))); (case side2 => exact HC2.out); rintro e w' ⟨rfl, ⟨nd, rfl⟩⟩; refine ⟨_, rfl, ?_⟩) | ((with_reducible refine gate_callee (f := 5) rfl ?_); refine goesL_ (some 30) rfl rfl Tryz.func5 (by kernel_rfl) rfl #[.slice A3 l3.length c3] rfl gz ?_; (with_reducible refine (copperplatelaw09_FewToks.calls k _ _ l3 t254 _ ?side1 ?side2 A7.out).mono ?_); (case side1 => repeat (first | exact (Kd.C_below HR3.out hbz) | (with_reducible refine Kd.C_alloc ?_ _) | (with_reducible refine Kd.C_drewN ?_ _) | (with_reducible refine Kd.C_drew ?_))); (case side2 => exact HC3.out); rintro e w' ⟨rfl, ⟨nd, rfl⟩⟩; refine ⟨_, rfl, ?_⟩))
 (try simp only [Act.put, List.setIfInBounds_toArray, List.set_cons_zero, List.set_cons_succ])
 go_cut [45] (fun v45 wc => ∃ (kq : Nat) (x45_7 : Bool), v45 = .bool x45_7 ∧ Aside0 (copperplatelaw09_LexTells.j0 kq a0 a1 l2 l3 t252 x45_7 = some r) ∧ Aside0 (kq ≤ k) ∧ Aside0 (Below w.heap.size w wc))
 case first =>
  have H := HC8.out
  clear HC8
  by_cases c10 : t252 = true
  ·subst c10
   have H1 : (if t253 = true then (if t254 = true then (copperplatelaw09_LexTells.j0 k a0 a1 l2 l3 true (decide ((a0.size : Int) > 600))) else (copperplatelaw09_LexTells.j0 k a0 a1 l2 l3 true true)) else (copperplatelaw09_LexTells.j0 k a0 a1 l2 l3 true true)) = some r := by rw [if_pos rfl] at H; exact H
   clear H
   have H := H1
   clear H1
   by_cases c11 : t253 = true
   ·subst c11
    have H1 : (if t254 = true then (copperplatelaw09_LexTells.j0 k a0 a1 l2 l3 true (decide ((a0.size : Int) > 600))) else (copperplatelaw09_LexTells.j0 k a0 a1 l2 l3 true true)) = some r := by rw [if_pos rfl] at H; exact H
    clear H
    have H := H1
    clear H1
    by_cases c12 : t254 = true
    ·subst c12
     have H1 : (copperplatelaw09_LexTells.j0 k a0 a1 l2 l3 true (decide ((a0.size : Int) > 600))) = some r := by rw [if_pos rfl] at H; exact H
     clear H
     have H := H1
     clear H1
     have H' := Aside0.mk H
     clear H
     go_wp2
     go_meet
     case rel => exact ⟨_, (decide ((a0.size : Int) > 600)), (by first | rfl | (simp; done) | (simp [*]; done)), H', ⟨by first | omega | exact Nat.le_refl _⟩, ⟨hbz⟩⟩
    ·replace c12 := Bool.eq_false_iff.mpr c12
     subst c12
     have H1 : (copperplatelaw09_LexTells.j0 k a0 a1 l2 l3 true true) = some r := by rw [if_neg (show ¬ (false = true) by decide)] at H; exact H
     clear H
     have H := H1
     clear H1
     have H' := Aside0.mk H
     clear H
     go_wp2
     go_meet
     case rel => exact ⟨_, (true), (by first | rfl | (simp; done) | (simp [*]; done)), H', ⟨by first | omega | exact Nat.le_refl _⟩, ⟨hbz⟩⟩
   ·replace c11 := Bool.eq_false_iff.mpr c11
    subst c11
    have H1 : (copperplatelaw09_LexTells.j0 k a0 a1 l2 l3 true true) = some r := by rw [if_neg (show ¬ (false = true) by decide)] at H; exact H
    clear H
    have H := H1
    clear H1
    have H' := Aside0.mk H
    clear H
    go_wp2
    go_meet
    case rel => exact ⟨_, (true), (by first | rfl | (simp; done) | (simp [*]; done)), H', ⟨by first | omega | exact Nat.le_refl _⟩, ⟨hbz⟩⟩
  ·replace c10 := Bool.eq_false_iff.mpr c10
   subst c10
   have H1 : (copperplatelaw09_LexTells.j0 k a0 a1 l2 l3 false true) = some r := by rw [if_neg (show ¬ (false = true) by decide)] at H; exact H
   clear H
   have H := H1
   clear H1
   have H' := Aside0.mk H
   clear H
   go_wp2
   go_meet
   case rel => exact ⟨_, (true), (by first | rfl | (simp; done) | (simp [*]; done)), H', ⟨by first | omega | exact Nat.le_refl _⟩, ⟨hbz⟩⟩
 case rest =>
  clear HC8
  try clear c1
  try clear c2
  try clear p2
  try clear c3
  try clear c4
  try clear c5
  try clear c10
  try clear c11
  try clear c12
  obtain ⟨kq, x45_7, rfl, HA, HJ7, HB⟩ := hcut
  cases kq with
  | zero => exact absurd HA.out (by simp [copperplatelaw09_LexTells.j0])
  | succ kj7 =>
   have H := HA.out
   clear HA
   simp only [copperplatelaw09_LexTells.j0] at H
   by_cases c13 : x45_7 = true
   ·subst c13
    have H1 : (some t252) = some r := by rw [if_pos rfl] at H; exact H
    clear H
    have H := H1
    clear H1
    obtain rfl := Option.some.inj H
    go_wp2
    go_ret
    exact ⟨by first | rfl | (simp [errW_none, errW_some] <;> rfl) | (simp [*, errW_none, errW_some] <;> rfl), hbz⟩
   ·replace c13 := Bool.eq_false_iff.mpr c13
    subst c13
    have H1 : ((lex_One.f a0 a1).bind fun bt255 => ((copperplateref09_One.f kj7 a0 a1).bind fun bt262 => ((lex_Lex.f a0).bind fun bt269 => ((copperplateref09_Lex.f kj7 a0).bind fun bt274 => ((copperplateref09_Exact.f kj7 bt269.1 bt274.1).bind fun t279 => ((copperplateref09_Same.f kj7 l2 l3).bind fun t280 => (if (bt255.1 == bt262.1 && (bt255.2.1.toList == bt262.2.1.toList && (bt255.2.2.1 == bt262.2.2.1 && (bt255.2.2.2.1 == bt262.2.2.2.1)))) = true then (if bt255.2.2.2.2.1 = bt262.2.2.2.2.1 then (if bt255.2.2.2.2.2 = bt262.2.2.2.2.2 then (if t279 = true then (if bt269.2.1 = bt274.2.1 then (if bt269.2.2 = bt274.2.2 then ((lex_Same.f l2 l3).bind fun t281 => (some (t281 == t280))) else (some false)) else (some false)) else (some false)) else (some false)) else (some false)) else (some false)))))))) = some r := by rw [if_neg (show ¬ (false = true) by decide)] at H; exact H
    clear H
    have H := H1
    clear H1
    replace H := Option.bind_eq_some_iff.mp H
    obtain ⟨⟨t255, t256, t257, t258, t259, t260⟩, A140, H⟩ := H
    replace H : ((copperplateref09_One.f kj7 a0 a1).bind fun bt262 => ((lex_Lex.f a0).bind fun bt269 => ((copperplateref09_Lex.f kj7 a0).bind fun bt274 => ((copperplateref09_Exact.f kj7 bt269.1 bt274.1).bind fun t279 => ((copperplateref09_Same.f kj7 l2 l3).bind fun t280 => (if (t255 == bt262.1 && (t256.toList == bt262.2.1.toList && (t257 == bt262.2.2.1 && (t258 == bt262.2.2.2.1)))) = true then (if t259 = bt262.2.2.2.2.1 then (if t260 = bt262.2.2.2.2.2 then (if t279 = true then (if bt269.2.1 = bt274.2.1 then (if bt269.2.2 = bt274.2.2 then ((lex_Same.f l2 l3).bind fun t281 => (some (t281 == t280))) else (some false)) else (some false)) else (some false)) else (some false)) else (some false)) else (some false))))))) = some r := H
    have A14 := Aside0.mk A140
    clear A140
    replace H := Option.bind_eq_some_iff.mp H
    obtain ⟨⟨t262, t263, t264, t265, t266, t267⟩, A150, H⟩ := H
    replace H : ((lex_Lex.f a0).bind fun bt269 => ((copperplateref09_Lex.f kj7 a0).bind fun bt274 => ((copperplateref09_Exact.f kj7 bt269.1 bt274.1).bind fun t279 => ((copperplateref09_Same.f kj7 l2 l3).bind fun t280 => (if (t255 == t262 && (t256.toList == t263.toList && (t257 == t264 && (t258 == t265)))) = true then (if t259 = t266 then (if t260 = t267 then (if t279 = true then (if bt269.2.1 = bt274.2.1 then (if bt269.2.2 = bt274.2.2 then ((lex_Same.f l2 l3).bind fun t281 => (some (t281 == t280))) else (some false)) else (some false)) else (some false)) else (some false)) else (some false)) else (some false)))))) = some r := H
    have A15 := Aside0.mk A150
    clear A150
    replace H := Option.bind_eq_some_iff.mp H
    obtain ⟨⟨t269, t270, t271⟩, A160, H⟩ := H
    replace H : ((copperplateref09_Lex.f kj7 a0).bind fun bt274 => ((copperplateref09_Exact.f kj7 t269 bt274.1).bind fun t279 => ((copperplateref09_Same.f kj7 l2 l3).bind fun t280 => (if (t255 == t262 && (t256.toList == t263.toList && (t257 == t264 && (t258 == t265)))) = true then (if t259 = t266 then (if t260 = t267 then (if t279 = true then (if t270 = bt274.2.1 then (if t271 = bt274.2.2 then ((lex_Same.f l2 l3).bind fun t281 => (some (t281 == t280))) else (some false)) else (some false)) else (some false)) else (some false)) else (some false)) else (some false))))) = some r := H
    have A16 := Aside0.mk A160
    clear A160
    replace H := Option.bind_eq_some_iff.mp H
    obtain ⟨⟨t274, t275, t276⟩, A170, H⟩ := H
    replace H : ((copperplateref09_Exact.f kj7 t269 t274).bind fun t279 => ((copperplateref09_Same.f kj7 l2 l3).bind fun t280 => (if (t255 == t262 && (t256.toList == t263.toList && (t257 == t264 && (t258 == t265)))) = true then (if t259 = t266 then (if t260 = t267 then (if t279 = true then (if t270 = t275 then (if t271 = t276 then ((lex_Same.f l2 l3).bind fun t281 => (some (t281 == t280))) else (some false)) else (some false)) else (some false)) else (some false)) else (some false)) else (some false)))) = some r := H
    have A17 := Aside0.mk A170
    clear A170
    replace H := Option.bind_eq_some_iff.mp H
    obtain ⟨t279, A180, H⟩ := H
    replace H : ((copperplateref09_Same.f kj7 l2 l3).bind fun t280 => (if (t255 == t262 && (t256.toList == t263.toList && (t257 == t264 && (t258 == t265)))) = true then (if t259 = t266 then (if t260 = t267 then (if t279 = true then (if t270 = t275 then (if t271 = t276 then ((lex_Same.f l2 l3).bind fun t281 => (some (t281 == t280))) else (some false)) else (some false)) else (some false)) else (some false)) else (some false)) else (some false))) = some r := H
    have A18 := Aside0.mk A180
    clear A180
    replace H := Option.bind_eq_some_iff.mp H
    obtain ⟨t280, A190, H⟩ := H
    replace H : (if (t255 == t262 && (t256.toList == t263.toList && (t257 == t264 && (t258 == t265)))) = true then (if t259 = t266 then (if t260 = t267 then (if t279 = true then (if t270 = t275 then (if t271 = t276 then ((lex_Same.f l2 l3).bind fun t281 => (some (t281 == t280))) else (some false)) else (some false)) else (some false)) else (some false)) else (some false)) else (some false)) = some r := H
    have A19 := Aside0.mk A190
    clear A190
    by_cases c20 : (t255 == t262 && (t256.toList == t263.toList && (t257 == t264 && (t258 == t265)))) = true
    ·rw [if_pos c20] at H
     have c20b0 : (t255 == t262 && (t256.toList == t263.toList && (t257 == t264 && (t258 == t265)))) = true := c20
     (try (have c20b1 : decide (t255 = t262 && (t256.toList == t263.toList && (t257 == t264 && (t258 == t265)))) = true := by simpa using c20))
     (try (have c20b2 : (t255 == t262 && (t256.toList == t263.toList && (t257 == t264 && (t258 == t265)))) = true := by simpa using c20))
     clear c20
     by_cases c21 : t259 = t266
     ·rw [if_pos c21] at H
      have c21b0 : (t259 == t266) = true := beq_iff_eq.mpr c21
      have c21b1 : (t259 != t266) = false := bne_eq_false_iff_eq.mpr c21
      clear c21
      by_cases c22 : t260 = t267
      ·rw [if_pos c22] at H
       have c22b0 : (t260 == t267) = true := beq_iff_eq.mpr c22
       have c22b1 : (t260 != t267) = false := bne_eq_false_iff_eq.mpr c22
       clear c22
       by_cases c23 : t279 = true
       ·subst c23
        have H1 : (if t270 = t275 then (if t271 = t276 then ((lex_Same.f l2 l3).bind fun t281 => (some (t281 == t280))) else (some false)) else (some false)) = some r := by rw [if_pos rfl] at H; exact H
        clear H
        have H := H1
        clear H1
        by_cases c24 : t270 = t275
        ·rw [if_pos c24] at H
         have c24b0 : (t270 == t275) = true := beq_iff_eq.mpr c24
         have c24b1 : (t270 != t275) = false := bne_eq_false_iff_eq.mpr c24
         clear c24
         by_cases c25 : t271 = t276
         ·rw [if_pos c25] at H
          have c25b0 : (t271 == t276) = true := beq_iff_eq.mpr c25
          have c25b1 : (t271 != t276) = false := bne_eq_false_iff_eq.mpr c25
          clear c25
          replace H := Option.bind_eq_some_iff.mp H
          obtain ⟨t281, A260, H⟩ := H
          replace H : (some (t281 == t280)) = some r := H
          have A26 := Aside0.mk A260
          clear A260
          obtain rfl := Option.some.inj H
          go_wp2_with (first | ((with_reducible refine gate_callee (f := 6) rfl ?_); refine goesL_ (some 50) rfl rfl Tryz.func6 (by kernel_rfl) rfl #[.string a0, .int .i64 a1] rfl gz ?_; (with_reducible refine (lex_One.calls a0 a1 t255 t256 t257 t258 t259 t260 _ A14.out (hL.low (by repeat (first | (with_reducible first | exact HB.out | apply below_alloc | apply pw_below_drewN | apply below_drew1) | exact HB.out | refine below_set ?_ GE261.out | refine below_set ?_ GE268.out | exact Below.refl _ _)))).mono ?_); rintro e w27 ⟨rfl, hb⟩; refine ⟨_, rfl, ?_⟩; have n0_ := Aside0.mk (below_step hbz hb); clear HB; have HB := n0_; clear n0_; (try clear hb); (try clear hb2); (try clear hk); (try clear hi)) | ((with_reducible refine gate_dst (N := 12) rfl ?_); (try (refine gate_guard (by rfl) ?_; dsimp only)); refine box_event ?hg (N := 12) ?hd (cs := #[.int .i64 0, .string (⟨#[]⟩ : ByteArray), .int .i64 0, .int .i64 0]) (t := 26) ?hr ?_; (case hd => rfl); (case hg => rfl); (case hr => first | (go_simp; done) | (go_simp; rfl)); intro gb261 hg w28 hbox hb; have n0_ := Aside0.mk (below_step hbz hb); have n1_ := Aside0.mk (hbox); have n2_ := Aside0.mk ((by rw [hg]; exact (below_size hbz) : w.heap.size ≤ gb261)); have n3_ := Aside0.mk ((by rw [hg]; exact (below_size hbz) : w.heap.size ≤ gb261)); clear HB; have HB := n0_; have BK261 := n1_; have GW261 := n2_; have GE261 := n3_; clear n0_ n1_ n2_ n3_; clear hb hbox hg; have hcz29_0 : w28.cell? ⟨gb261, 0, none⟩ = some (.int .i64 0) := (blk_cell BK261.out 0).trans rfl; have hcz29_1 : w28.cell? ⟨gb261, 1, none⟩ = some (.string (⟨#[]⟩ : ByteArray)) := (blk_cell BK261.out 1).trans rfl; have hcz29_2 : w28.cell? ⟨gb261, 2, none⟩ = some (.int .i64 0) := (blk_cell BK261.out 2).trans rfl; have hcz29_3 : w28.cell? ⟨gb261, 3, none⟩ = some (.int .i64 0) := (blk_cell BK261.out 3).trans rfl; have hfz29_0 := blk_frozen BK261.out 0; have hfz29_1 := blk_frozen BK261.out 1; have hfz29_2 := blk_frozen BK261.out 2; have hfz29_3 := blk_frozen BK261.out 3) | ((with_reducible refine gate_callee (f := 7) rfl ?_); refine goesL_ (some 57) rfl rfl Tryz.func7 (by kernel_rfl) rfl #[.string a0, .int .i64 a1] rfl gz ?_; (with_reducible refine (copperplateref09_One.calls kj7 a0 a1 t262 t263 t264 t265 t266 t267 _ A15.out).mono ?_); rintro e w30 ⟨rfl, hb⟩; refine ⟨_, rfl, ?_⟩; have n0_ := Aside0.mk (blk_below (g := gb261) (o := .cells #[.int .i64 t255, .string t256, .int .i64 t257, .int .i64 t258] 26 (0, 0)) (by (with_reducible repeat (first | refine blk_drewN ?_ _ | refine blk_drew ?_ | refine blk_alloc ?_ _)); refine blk_put (cs := #[.int .i64 t255, .string t256, .int .i64 t257, .int .i64 0]) ?_ 3 _ rfl; (with_reducible repeat (first | refine blk_drewN ?_ _ | refine blk_drew ?_ | refine blk_alloc ?_ _)); refine blk_put (cs := #[.int .i64 t255, .string t256, .int .i64 0, .int .i64 0]) ?_ 2 _ rfl; (with_reducible repeat (first | refine blk_drewN ?_ _ | refine blk_drew ?_ | refine blk_alloc ?_ _)); refine blk_put (cs := #[.int .i64 t255, .string (⟨#[]⟩ : ByteArray), .int .i64 0, .int .i64 0]) ?_ 1 _ rfl; (with_reducible repeat (first | refine blk_drewN ?_ _ | refine blk_drew ?_ | refine blk_alloc ?_ _)); refine blk_put (cs := #[.int .i64 0, .string (⟨#[]⟩ : ByteArray), .int .i64 0, .int .i64 0]) ?_ 0 _ rfl; (with_reducible repeat (first | refine blk_drewN ?_ _ | refine blk_drew ?_ | refine blk_alloc ?_ _)); exact BK261.out) hb); have n1_ := Aside0.mk (below_step (by repeat (first | (with_reducible first | exact HB.out | apply below_alloc | apply pw_below_drewN | apply below_drew1 | refine below_set ?_ GE261.out) | exact HB.out)) hb); clear BK261; clear HB; have BK261 := n0_; have HB := n1_; clear n0_ n1_; (try clear hb); (try clear hb2); (try clear hk); (try clear hi)) | ((with_reducible refine gate_dst (N := 15) rfl ?_); (try (refine gate_guard (by rfl) ?_; dsimp only)); refine box_event ?hg (N := 15) ?hd (cs := #[.int .i64 0, .string (⟨#[]⟩ : ByteArray), .int .i64 0, .int .i64 0]) (t := 26) ?hr ?_; (case hd => rfl); (case hg => rfl); (case hr => first | (go_simp; done) | (go_simp; rfl)); intro gb268 hg w31 hbox hb; have n0_ := Aside0.mk (blk_below (g := gb261) (o := .cells #[.int .i64 t255, .string t256, .int .i64 t257, .int .i64 t258] 26 (0, 0)) (by (with_reducible repeat (first | refine blk_drewN ?_ _ | refine blk_drew ?_ | refine blk_alloc ?_ _)); exact BK261.out) hb); have n1_ := Aside0.mk (below_step (by repeat (first | (with_reducible first | exact HB.out | apply below_alloc | apply pw_below_drewN | apply below_drew1 | refine below_set ?_ GE261.out) | exact HB.out)) hb); have n2_ := Aside0.mk (hbox); have n3_ := Aside0.mk ((by rw [hg]; exact (below_size (by repeat (first | (with_reducible first | exact HB.out | apply below_alloc | apply pw_below_drewN | apply below_drew1 | refine below_set ?_ GE261.out) | exact HB.out))) : w.heap.size ≤ gb268)); have n4_ := Aside0.mk ((by rw [hg]; exact (below_size (by repeat (first | (with_reducible first | exact HB.out | apply below_alloc | apply pw_below_drewN | apply below_drew1 | refine below_set ?_ GE261.out) | exact HB.out))) : w.heap.size ≤ gb268)); have n5_ := Aside0.mk ((by rw [hg]; exact Nat.ne_of_lt (blk_lt (g := gb261) (o := .cells #[.int .i64 t255, .string t256, .int .i64 t257, .int .i64 t258] 26 (0, 0)) (by (with_reducible repeat (first | refine blk_drewN ?_ _ | refine blk_drew ?_ | refine blk_alloc ?_ _)); exact BK261.out)) : gb261 ≠ gb268)); have n6_ := Aside0.mk ((by rw [hg]; exact Nat.ne_of_gt (blk_lt (g := gb261) (o := .cells #[.int .i64 t255, .string t256, .int .i64 t257, .int .i64 t258] 26 (0, 0)) (by (with_reducible repeat (first | refine blk_drewN ?_ _ | refine blk_drew ?_ | refine blk_alloc ?_ _)); exact BK261.out)) : gb268 ≠ gb261)); clear BK261; clear HB; have BK261 := n0_; have HB := n1_; have BK268 := n2_; have GW268 := n3_; have GE268 := n4_; have NB261_268 := n5_; have NB268_261 := n6_; clear n0_ n1_ n2_ n3_ n4_ n5_ n6_; clear hb hbox hg; have hnb32 := NB268_261.out; have hnc32 := NB261_268.out; have hcz33_0 : w31.cell? ⟨gb268, 0, none⟩ = some (.int .i64 0) := (blk_cell BK268.out 0).trans rfl; have hcz33_1 : w31.cell? ⟨gb268, 1, none⟩ = some (.string (⟨#[]⟩ : ByteArray)) := (blk_cell BK268.out 1).trans rfl; have hcz33_2 : w31.cell? ⟨gb268, 2, none⟩ = some (.int .i64 0) := (blk_cell BK268.out 2).trans rfl; have hcz33_3 : w31.cell? ⟨gb268, 3, none⟩ = some (.int .i64 0) := (blk_cell BK268.out 3).trans rfl; have hfz33_0 := blk_frozen BK268.out 0; have hfz33_1 := blk_frozen BK268.out 1; have hfz33_2 := blk_frozen BK268.out 2; have hfz33_3 := blk_frozen BK268.out 3) | ((with_reducible refine gate_callee (f := 8) rfl ?_); refine goesL_ (some 63) rfl rfl Tryz.func8 (by kernel_rfl) rfl #[.string a0] rfl gz ?_; (with_reducible refine (lex_Lex.calls a0 t269 t270 t271 _ A16.out (hL.low (by repeat (first | (with_reducible first | exact HB.out | apply below_alloc | apply pw_below_drewN | apply below_drew1) | exact HB.out | refine below_set ?_ GE261.out | refine below_set ?_ GE268.out | exact Below.refl _ _)))).mono ?_); rintro e w34 ⟨v272, rfl, ho0, hb⟩; refine ⟨_, rfl, ?_⟩; have n0_ := Aside0.mk (Kd.R_lower (Kd.R_newB (Kd.R_newB ho0 (g := gb261) (o := .cells #[.int .i64 t255, .string t256, .int .i64 t257, .int .i64 t258] 26 (0, 0)) (by (with_reducible repeat (first | refine blk_drewN ?_ _ | refine blk_drew ?_ | refine blk_alloc ?_ _)); refine blk_far ?_ NB261_268.out _; (with_reducible repeat (first | refine blk_drewN ?_ _ | refine blk_drew ?_ | refine blk_alloc ?_ _)); refine blk_far ?_ NB261_268.out _; (with_reducible repeat (first | refine blk_drewN ?_ _ | refine blk_drew ?_ | refine blk_alloc ?_ _)); refine blk_far ?_ NB261_268.out _; (with_reducible repeat (first | refine blk_drewN ?_ _ | refine blk_drew ?_ | refine blk_alloc ?_ _)); refine blk_far ?_ NB261_268.out _; (with_reducible repeat (first | refine blk_drewN ?_ _ | refine blk_drew ?_ | refine blk_alloc ?_ _)); exact BK261.out)) (g := gb268) (o := .cells #[.int .i64 t262, .string t263, .int .i64 t264, .int .i64 t265] 26 (0, 0)) (by (with_reducible repeat (first | refine blk_drewN ?_ _ | refine blk_drew ?_ | refine blk_alloc ?_ _)); refine blk_put (cs := #[.int .i64 t262, .string t263, .int .i64 t264, .int .i64 0]) ?_ 3 _ rfl; (with_reducible repeat (first | refine blk_drewN ?_ _ | refine blk_drew ?_ | refine blk_alloc ?_ _)); refine blk_put (cs := #[.int .i64 t262, .string t263, .int .i64 0, .int .i64 0]) ?_ 2 _ rfl; (with_reducible repeat (first | refine blk_drewN ?_ _ | refine blk_drew ?_ | refine blk_alloc ?_ _)); refine blk_put (cs := #[.int .i64 t262, .string (⟨#[]⟩ : ByteArray), .int .i64 0, .int .i64 0]) ?_ 1 _ rfl; (with_reducible repeat (first | refine blk_drewN ?_ _ | refine blk_drew ?_ | refine blk_alloc ?_ _)); refine blk_put (cs := #[.int .i64 0, .string (⟨#[]⟩ : ByteArray), .int .i64 0, .int .i64 0]) ?_ 0 _ rfl; (with_reducible repeat (first | refine blk_drewN ?_ _ | refine blk_drew ?_ | refine blk_alloc ?_ _)); exact BK268.out)) (below_size (by repeat (first | (with_reducible first | exact HB.out | apply below_alloc | apply pw_below_drewN | apply below_drew1 | refine below_set ?_ GE261.out | refine below_set ?_ GE268.out) | exact HB.out)))); have n1_ := Aside0.mk (blk_below (g := gb261) (o := .cells #[.int .i64 t255, .string t256, .int .i64 t257, .int .i64 t258] 26 (0, 0)) (by (with_reducible repeat (first | refine blk_drewN ?_ _ | refine blk_drew ?_ | refine blk_alloc ?_ _)); refine blk_far ?_ NB261_268.out _; (with_reducible repeat (first | refine blk_drewN ?_ _ | refine blk_drew ?_ | refine blk_alloc ?_ _)); refine blk_far ?_ NB261_268.out _; (with_reducible repeat (first | refine blk_drewN ?_ _ | refine blk_drew ?_ | refine blk_alloc ?_ _)); refine blk_far ?_ NB261_268.out _; (with_reducible repeat (first | refine blk_drewN ?_ _ | refine blk_drew ?_ | refine blk_alloc ?_ _)); refine blk_far ?_ NB261_268.out _; (with_reducible repeat (first | refine blk_drewN ?_ _ | refine blk_drew ?_ | refine blk_alloc ?_ _)); exact BK261.out) hb); have n2_ := Aside0.mk (blk_below (g := gb268) (o := .cells #[.int .i64 t262, .string t263, .int .i64 t264, .int .i64 t265] 26 (0, 0)) (by (with_reducible repeat (first | refine blk_drewN ?_ _ | refine blk_drew ?_ | refine blk_alloc ?_ _)); refine blk_put (cs := #[.int .i64 t262, .string t263, .int .i64 t264, .int .i64 0]) ?_ 3 _ rfl; (with_reducible repeat (first | refine blk_drewN ?_ _ | refine blk_drew ?_ | refine blk_alloc ?_ _)); refine blk_put (cs := #[.int .i64 t262, .string t263, .int .i64 0, .int .i64 0]) ?_ 2 _ rfl; (with_reducible repeat (first | refine blk_drewN ?_ _ | refine blk_drew ?_ | refine blk_alloc ?_ _)); refine blk_put (cs := #[.int .i64 t262, .string (⟨#[]⟩ : ByteArray), .int .i64 0, .int .i64 0]) ?_ 1 _ rfl; (with_reducible repeat (first | refine blk_drewN ?_ _ | refine blk_drew ?_ | refine blk_alloc ?_ _)); refine blk_put (cs := #[.int .i64 0, .string (⟨#[]⟩ : ByteArray), .int .i64 0, .int .i64 0]) ?_ 0 _ rfl; (with_reducible repeat (first | refine blk_drewN ?_ _ | refine blk_drew ?_ | refine blk_alloc ?_ _)); exact BK268.out) hb); have n3_ := Aside0.mk (below_step (by repeat (first | (with_reducible first | exact HB.out | apply below_alloc | apply pw_below_drewN | apply below_drew1 | refine below_set ?_ GE261.out | refine below_set ?_ GE268.out) | exact HB.out)) hb); clear BK261; clear BK268; clear HB; have HO273 := n0_; have BK261 := n1_; have BK268 := n2_; have HB := n3_; clear n0_ n1_ n2_ n3_; (try clear hb); (try clear hb2); (try clear hk); (try clear hi); (try clear ho0)) | ((with_reducible refine gate_callee (f := 9) rfl ?_); refine goesL_ (some 69) rfl rfl Tryz.func9 (by kernel_rfl) rfl #[.string a0] rfl gz ?_; (with_reducible refine (copperplateref09_Lex.calls kj7 a0 t274 t275 t276 _ A17.out).mono ?_); rintro e w35 ⟨v277, rfl, ho0, hb⟩; refine ⟨_, rfl, ?_⟩; have n0_ := Aside0.mk (Kd.R_elder' (by (with_reducible repeat (first | apply Kd.R_alloc | apply Kd.R_drewN | apply Kd.R_drew)); exact HO273.out) (Kd.R_base ho0) hb); have n1_ := Aside0.mk (Kd.R_lower (Kd.R_newB (Kd.R_newB (Kd.R_new' ho0 (Kd.R_lt (by (with_reducible repeat (first | apply Kd.R_alloc | apply Kd.R_drewN | apply Kd.R_drew)); exact HO273.out))) (g := gb261) (o := .cells #[.int .i64 t255, .string t256, .int .i64 t257, .int .i64 t258] 26 (0, 0)) (by (with_reducible repeat (first | refine blk_drewN ?_ _ | refine blk_drew ?_ | refine blk_alloc ?_ _)); exact BK261.out)) (g := gb268) (o := .cells #[.int .i64 t262, .string t263, .int .i64 t264, .int .i64 t265] 26 (0, 0)) (by (with_reducible repeat (first | refine blk_drewN ?_ _ | refine blk_drew ?_ | refine blk_alloc ?_ _)); exact BK268.out)) (below_size (by repeat (first | (with_reducible first | exact HB.out | apply below_alloc | apply pw_below_drewN | apply below_drew1 | refine below_set ?_ GE261.out | refine below_set ?_ GE268.out) | exact HB.out)))); have n2_ := Aside0.mk (blk_below (g := gb261) (o := .cells #[.int .i64 t255, .string t256, .int .i64 t257, .int .i64 t258] 26 (0, 0)) (by (with_reducible repeat (first | refine blk_drewN ?_ _ | refine blk_drew ?_ | refine blk_alloc ?_ _)); exact BK261.out) hb); have n3_ := Aside0.mk (blk_below (g := gb268) (o := .cells #[.int .i64 t262, .string t263, .int .i64 t264, .int .i64 t265] 26 (0, 0)) (by (with_reducible repeat (first | refine blk_drewN ?_ _ | refine blk_drew ?_ | refine blk_alloc ?_ _)); exact BK268.out) hb); have n4_ := Aside0.mk (below_step (by repeat (first | (with_reducible first | exact HB.out | apply below_alloc | apply pw_below_drewN | apply below_drew1 | refine below_set ?_ GE261.out | refine below_set ?_ GE268.out) | exact HB.out)) hb); clear HO273; clear BK261; clear BK268; clear HB; have HO273 := n0_; have HO278 := n1_; have BK261 := n2_; have BK268 := n3_; have HB := n4_; clear n0_ n1_ n2_ n3_ n4_; (try clear hb); (try clear hb2); (try clear hk); (try clear hi); (try clear ho0); obtain ⟨Ao36, co36, eo36⟩ := Kd.R_slice HO273.out; subst eo36; obtain ⟨Ao37, co37, eo37⟩ := Kd.R_slice HO278.out; subst eo37) | ((with_reducible refine gate_callee (f := 10) rfl ?_); refine goesL_ (some 75) rfl rfl Tryz.func10 (by kernel_rfl) rfl #[.slice Ao36 t269.length co36, .slice Ao37 t274.length co37] rfl gz ?_; (with_reducible refine (copperplateref09_Exact.calls kj7 _ _ t269 _ _ t274 true _ ?side1 ?side2 ?side3 ?side4 A18.out).mono ?_); (case side1 => repeat (first | exact (Kd.R_reads' HO273.out).2.2 | (with_reducible refine Kd.C_alloc ?_ _) | (with_reducible refine Kd.C_drewN ?_ _) | (with_reducible refine Kd.C_drew ?_))); (case side2 => exact (Kd.R_reads' HO273.out).2.1); (case side3 => repeat (first | exact (Kd.R_reads' HO278.out).2.2 | (with_reducible refine Kd.C_alloc ?_ _) | (with_reducible refine Kd.C_drewN ?_ _) | (with_reducible refine Kd.C_drew ?_))); (case side4 => exact (Kd.R_reads' HO278.out).2.1); rintro e w' ⟨rfl, ⟨nd, rfl⟩⟩; refine ⟨_, rfl, ?_⟩) | ((with_reducible refine gate_callee (f := 11) rfl ?_); refine goesL_ (some 78) rfl rfl Tryz.func11 (by kernel_rfl) rfl #[.slice A2 l2.length c2, .slice A3 l3.length c3] rfl gz ?_; (with_reducible refine (copperplateref09_Same.calls kj7 _ _ l2 _ _ l3 t280 _ ?side1 ?side2 ?side3 ?side4 A19.out).mono ?_); (case side1 => repeat (first | exact (Kd.C_below HR2.out (by repeat (first | (with_reducible first | exact HB.out | apply below_alloc | apply pw_below_drewN | apply below_drew1 | refine below_set ?_ GE261.out | refine below_set ?_ GE268.out) | exact HB.out))) | (with_reducible refine Kd.C_alloc ?_ _) | (with_reducible refine Kd.C_drewN ?_ _) | (with_reducible refine Kd.C_drew ?_))); (case side2 => exact HC2.out); (case side3 => repeat (first | exact (Kd.C_below HR3.out (by repeat (first | (with_reducible first | exact HB.out | apply below_alloc | apply pw_below_drewN | apply below_drew1 | refine below_set ?_ GE261.out | refine below_set ?_ GE268.out) | exact HB.out))) | (with_reducible refine Kd.C_alloc ?_ _) | (with_reducible refine Kd.C_drewN ?_ _) | (with_reducible refine Kd.C_drew ?_))); (case side4 => exact HC3.out); rintro e w' ⟨rfl, ⟨nd, rfl⟩⟩; refine ⟨_, rfl, ?_⟩; have hcz38_0 : w35.cell? ⟨gb261, 0, none⟩ = some (.int .i64 t255) := (blk_cell BK261.out 0).trans rfl; have hcz38_1 : w35.cell? ⟨gb261, 1, none⟩ = some (.string t256) := (blk_cell BK261.out 1).trans rfl; have hcz38_2 : w35.cell? ⟨gb261, 2, none⟩ = some (.int .i64 t257) := (blk_cell BK261.out 2).trans rfl; have hcz38_3 : w35.cell? ⟨gb261, 3, none⟩ = some (.int .i64 t258) := (blk_cell BK261.out 3).trans rfl; have hfz38_0 := blk_frozen BK261.out 0; have hfz38_1 := blk_frozen BK261.out 1; have hfz38_2 := blk_frozen BK261.out 2; have hfz38_3 := blk_frozen BK261.out 3; have hcz39_0 : w35.cell? ⟨gb268, 0, none⟩ = some (.int .i64 t262) := (blk_cell BK268.out 0).trans rfl; have hcz39_1 : w35.cell? ⟨gb268, 1, none⟩ = some (.string t263) := (blk_cell BK268.out 1).trans rfl; have hcz39_2 : w35.cell? ⟨gb268, 2, none⟩ = some (.int .i64 t264) := (blk_cell BK268.out 2).trans rfl; have hcz39_3 : w35.cell? ⟨gb268, 3, none⟩ = some (.int .i64 t265) := (blk_cell BK268.out 3).trans rfl; have hfz39_0 := blk_frozen BK268.out 0; have hfz39_1 := blk_frozen BK268.out 1; have hfz39_2 := blk_frozen BK268.out 2; have hfz39_3 := blk_frozen BK268.out 3) | (go_at_call 12; (with_reducible refine (lex_Same.calls _ _ l2 _ _ l3 t281 _ ?side1 ?side2 ?side3 ?side4 A26.out).mono ?_); (case side1 => repeat (first | exact (Kd.C_below HR2.out (by repeat (first | (with_reducible first | exact HB.out | apply below_alloc | apply pw_below_drewN | apply below_drew1 | refine below_set ?_ GE261.out | refine below_set ?_ GE268.out) | exact HB.out))) | (with_reducible refine Kd.C_alloc ?_ _) | (with_reducible refine Kd.C_drewN ?_ _) | (with_reducible refine Kd.C_drew ?_))); (case side2 => exact HC2.out); (case side3 => repeat (first | exact (Kd.C_below HR3.out (by repeat (first | (with_reducible first | exact HB.out | apply below_alloc | apply pw_below_drewN | apply below_drew1 | refine below_set ?_ GE261.out | refine below_set ?_ GE268.out) | exact HB.out))) | (with_reducible refine Kd.C_alloc ?_ _) | (with_reducible refine Kd.C_drewN ?_ _) | (with_reducible refine Kd.C_drew ?_))); (case side4 => exact HC3.out); rintro e w40 ⟨rfl, hb⟩; have n0_ := Aside0.mk (Kd.R_below (by (with_reducible repeat (first | apply Kd.R_alloc | apply Kd.R_drewN | apply Kd.R_drew)); exact HO273.out) hb); have n1_ := Aside0.mk (Kd.R_below (by (with_reducible repeat (first | apply Kd.R_alloc | apply Kd.R_drewN | apply Kd.R_drew)); exact HO278.out) hb); have n2_ := Aside0.mk (blk_below (g := gb261) (o := .cells #[.int .i64 t255, .string t256, .int .i64 t257, .int .i64 t258] 26 (0, 0)) (by (with_reducible repeat (first | refine blk_drewN ?_ _ | refine blk_drew ?_ | refine blk_alloc ?_ _)); exact BK261.out) hb); have n3_ := Aside0.mk (blk_below (g := gb268) (o := .cells #[.int .i64 t262, .string t263, .int .i64 t264, .int .i64 t265] 26 (0, 0)) (by (with_reducible repeat (first | refine blk_drewN ?_ _ | refine blk_drew ?_ | refine blk_alloc ?_ _)); exact BK268.out) hb); have n4_ := Aside0.mk (below_step (by repeat (first | (with_reducible first | exact HB.out | apply below_alloc | apply pw_below_drewN | apply below_drew1 | refine below_set ?_ GE261.out | refine below_set ?_ GE268.out) | exact HB.out)) hb); clear HO273; clear HO278; clear BK261; clear BK268; clear HB; have HO273 := n0_; have HO278 := n1_; have BK261 := n2_; have BK268 := n3_; have HB := n4_; clear n0_ n1_ n2_ n3_ n4_; (try clear hb); (try clear hb2); (try clear hk); (try clear hi)))
          go_ret
          exact ⟨by first | rfl | (simp [errW_none, errW_some] <;> rfl) | (simp [*, errW_none, errW_some] <;> rfl), by repeat (first | (with_reducible first | exact HB.out | apply below_alloc | apply pw_below_drewN | apply below_drew1 | refine below_set ?_ GE261.out | refine below_set ?_ GE268.out) | exact HB.out)⟩
         ·rw [if_neg c25] at H
          have c25b0 : (t271 == t276) = false := beq_eq_false_iff_ne.mpr c25
          have c25b1 : (t271 != t276) = true := bne_iff_ne.mpr c25
          obtain rfl := Option.some.inj H
          cases hr_
        ·rw [if_neg c24] at H
         have c24b0 : (t270 == t275) = false := beq_eq_false_iff_ne.mpr c24
         have c24b1 : (t270 != t275) = true := bne_iff_ne.mpr c24
         obtain rfl := Option.some.inj H
         cases hr_
       ·replace c23 := Bool.eq_false_iff.mpr c23
        subst c23
        have H1 : (some false) = some r := by rw [if_neg (show ¬ (false = true) by decide)] at H; exact H
        clear H
        have H := H1
        clear H1
        obtain rfl := Option.some.inj H
        cases hr_
      ·rw [if_neg c22] at H
       have c22b0 : (t260 == t267) = false := beq_eq_false_iff_ne.mpr c22
       have c22b1 : (t260 != t267) = true := bne_iff_ne.mpr c22
       obtain rfl := Option.some.inj H
       cases hr_
     ·rw [if_neg c21] at H
      have c21b0 : (t259 == t266) = false := beq_eq_false_iff_ne.mpr c21
      have c21b1 : (t259 != t266) = true := bne_iff_ne.mpr c21
      obtain rfl := Option.some.inj H
      cases hr_
    ·rw [if_neg c20] at H
     have c20b0 : (t255 == t262 && (t256.toList == t263.toList && (t257 == t264 && (t258 == t265)))) = false := by simpa using c20
     (try (have c20b1 : decide (t255 = t262 && (t256.toList == t263.toList && (t257 == t264 && (t258 == t265)))) = false := by simpa using c20))
     (try (have c20b2 : (t255 == t262 && (t256.toList == t263.toList && (t257 == t264 && (t258 == t265)))) = false := by simpa using c20))
     (try (have c20b3 : ¬ (t255 = t262 && (t256.toList == t263.toList && (t257 == t264 && (t258 == t265)))) := by simpa using c20))
     clear c20
     obtain rfl := Option.some.inj H
     cases hr_
end Go.Proofs.YtjgpmfjkcioinaaGreatDoor.Q
