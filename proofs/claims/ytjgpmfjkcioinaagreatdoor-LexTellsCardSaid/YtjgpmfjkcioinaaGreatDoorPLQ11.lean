/-
  Texts of this seat, put together by bundle.py.
-/
import Derived.Test.YtjgpmfjkcioinaaGreatDoorPLGG9
import Derived.Test.YtjgpmfjkcioinaaGreatDoorPLQ2
import Derived.Test.YtjgpmfjkcioinaaGreatDoorPLQ3
import Derived.Test.YtjgpmfjkcioinaaGreatDoorPLQ10
namespace Go.Proofs.YtjgpmfjkcioinaaGreatDoor.Q
open Go.Proofs.YtjgpmfjkcioinaaGreatDoor.G
open Go.RowKit Go.Proofs.YtjgpmfjkcioinaaGreatDoorW.PrintWords Go.Proofs.YtjgpmfjkcioinaaGreatDoorW.PrintLast Go.Proofs.YtjgpmfjkcioinaaGreatDoorW.PrintMore
attribute [local go_sem] max2_int min2_int max_two min_two max_three min_three max_four min_four
set_option linter.unusedVariables false
set_option linter.unusedSimpArgs false
mutual
def copperplateref09_One.j0 : Nat → ByteArray → Int → Bool → Option (Int × ByteArray × Int × Int × Int × Int)
 | 0, _, _, _ => none
 | k + 1, x0, x1, x22 => if x22 = true then (some (0, (⟨#[]⟩ : ByteArray), 0, 0, 2, x1)) else (if 0 ≤ x1 then (if x1 < (x0.size : Int) then ((copperplateref04_Begins.f (bt x0 x1)).bind fun t206 => (if t206 = true then ((copperplateref04_Name.f k x0 x1).bind fun t207 => ((copperplateref09_tok.f x0 2 x1 t207).bind fun bt208 => (some (bt208.1, bt208.2.1, bt208.2.2.1, bt208.2.2.2, 0, t207)))) else (if (bt x0 x1) = 33 then (copperplateref09_One.j1 k x0 x1 (bt x0 x1) ((bt x0 x1) == 33)) else (if (bt x0 x1) = 36 then (copperplateref09_One.j1 k x0 x1 (bt x0 x1) ((bt x0 x1) == 36)) else (if (bt x0 x1) = 38 then (copperplateref09_One.j1 k x0 x1 (bt x0 x1) ((bt x0 x1) == 38)) else (if (bt x0 x1) = 40 then (copperplateref09_One.j1 k x0 x1 (bt x0 x1) ((bt x0 x1) == 40)) else (if (bt x0 x1) = 41 then (copperplateref09_One.j1 k x0 x1 (bt x0 x1) ((bt x0 x1) == 41)) else (if (bt x0 x1) = 58 then (copperplateref09_One.j1 k x0 x1 (bt x0 x1) ((bt x0 x1) == 58)) else (if (bt x0 x1) = 61 then (copperplateref09_One.j1 k x0 x1 (bt x0 x1) ((bt x0 x1) == 61)) else (if (bt x0 x1) = 64 then (copperplateref09_One.j1 k x0 x1 (bt x0 x1) ((bt x0 x1) == 64)) else (if (bt x0 x1) = 91 then (copperplateref09_One.j1 k x0 x1 (bt x0 x1) ((bt x0 x1) == 91)) else (if (bt x0 x1) = 93 then (copperplateref09_One.j1 k x0 x1 (bt x0 x1) ((bt x0 x1) == 93)) else (if (bt x0 x1) = 123 then (copperplateref09_One.j1 k x0 x1 (bt x0 x1) ((bt x0 x1) == 123)) else (if (bt x0 x1) = 124 then (copperplateref09_One.j1 k x0 x1 (bt x0 x1) ((bt x0 x1) == 124)) else (copperplateref09_One.j1 k x0 x1 (bt x0 x1) ((bt x0 x1) == 125)))))))))))))))) else (none)) else (none))
def copperplateref09_One.j1 : Nat → ByteArray → Int → Int → Bool → Option (Int × ByteArray × Int × Int × Int × Int)
 | 0, _, _, _, _ => none
 | k + 1, x0, x1, x40, x41 => if x41 = true then ((copperplateref09_tok.f x0 1 x1 (wrap64 (x1 + 1))).bind fun bt212 => (some (bt212.1, bt212.2.1, bt212.2.2.1, bt212.2.2.2, 0, wrap64 (x1 + 1)))) else (if x40 = 46 then (if (wrap64 ((x0.size : Int) - x1)) ≥ 3 then (if 0 ≤ x1 then (if x1 ≤ (wrap64 (x1 + 3)) then (if (wrap64 (x1 + 3)) ≤ (x0.size : Int) then (if (x0.extract (x1 : Int).toNat ((wrap64 (x1 + 3)) : Int).toNat).toList = ([46, 46, 46] : List UInt8) then ((copperplateref09_tok.f x0 1 x1 (wrap64 (x1 + 3))).bind fun bt216 => (some (bt216.1, bt216.2.1, bt216.2.2.1, bt216.2.2.2, 0, wrap64 (x1 + 3)))) else (some (0, (⟨#[]⟩ : ByteArray), 0, 0, 2, x1))) else (none)) else (none)) else (none)) else (some (0, (⟨#[]⟩ : ByteArray), 0, 0, 2, x1))) else (if x40 = 45 then (copperplateref09_One.j2 k x0 x1 x40 (x40 == 45)) else (if x40 = 48 then (copperplateref09_One.j2 k x0 x1 x40 (x40 == 48)) else (if x40 = 49 then (copperplateref09_One.j2 k x0 x1 x40 (x40 == 49)) else (if x40 = 50 then (copperplateref09_One.j2 k x0 x1 x40 (x40 == 50)) else (if x40 = 51 then (copperplateref09_One.j2 k x0 x1 x40 (x40 == 51)) else (if x40 = 52 then (copperplateref09_One.j2 k x0 x1 x40 (x40 == 52)) else (if x40 = 53 then (copperplateref09_One.j2 k x0 x1 x40 (x40 == 53)) else (if x40 = 54 then (copperplateref09_One.j2 k x0 x1 x40 (x40 == 54)) else (if x40 = 55 then (copperplateref09_One.j2 k x0 x1 x40 (x40 == 55)) else (if x40 = 56 then (copperplateref09_One.j2 k x0 x1 x40 (x40 == 56)) else (copperplateref09_One.j2 k x0 x1 x40 (x40 == 57)))))))))))))
def copperplateref09_One.j2 : Nat → ByteArray → Int → Int → Bool → Option (Int × ByteArray × Int × Int × Int × Int)
 | 0, _, _, _, _ => none
 | k + 1, x0, x1, x40, x84 => if x84 = true then ((copperplateref05_Number.f k x0 x1).bind fun bt220 => (if bt220.2.2 = true then ((copperplateref09_tok.f x0 bt220.1 x1 bt220.2.1).bind fun bt223 => (some (bt223.1, bt223.2.1, bt223.2.2.1, bt223.2.2.2, 0, bt220.2.1))) else (some (0, (⟨#[]⟩ : ByteArray), 0, 0, 3, bt220.2.1)))) else (if x40 = 34 then ((copperplateref09_some.f k x0 x1).bind fun bt227 => (if bt227.2.2 = true then (some (5, bt227.1, x1, bt227.2.1, 0, bt227.2.1)) else (some (0, (⟨#[]⟩ : ByteArray), 0, 0, 4, bt227.2.1)))) else (some (0, (⟨#[]⟩ : ByteArray), 0, 0, 2, x1)))
end
def copperplateref09_One.f (k : Nat) (a0 : ByteArray) (a1 : Int) : Option (Int × ByteArray × Int × Int × Int × Int) := if a1 < 0 then (copperplateref09_One.j0 k a0 a1 true) else (copperplateref09_One.j0 k a0 a1 (decide (a1 ≥ (a0.size : Int))))
theorem copperplateref09_One.mono_l : ∀ k, (∀ y0 y1 y2, LeO (copperplateref09_One.j0 k y0 y1 y2) (copperplateref09_One.j0 (k + 1) y0 y1 y2)) ∧ (∀ y0 y1 y2 y3, LeO (copperplateref09_One.j1 k y0 y1 y2 y3) (copperplateref09_One.j1 (k + 1) y0 y1 y2 y3)) ∧ (∀ y0 y1 y2 y3, LeO (copperplateref09_One.j2 k y0 y1 y2 y3) (copperplateref09_One.j2 (k + 1) y0 y1 y2 y3))
 | 0 => ⟨fun _ _ _ r h => by simp [copperplateref09_One.j0] at h, fun _ _ _ _ r h => by simp [copperplateref09_One.j1] at h, fun _ _ _ _ r h => by simp [copperplateref09_One.j2] at h⟩
 | k + 1 => by
  obtain ⟨ih0, ih1, ih2⟩ := copperplateref09_One.mono_l k
  refine ⟨?_, ?_, ?_⟩
  ·intro y0 y1 y2
   unfold copperplateref09_One.j0
   repeat' first
   | (with_reducible exact ih0 _ _ _)
   | (with_reducible exact ih1 _ _ _ _)
   | (with_reducible exact ih2 _ _ _ _)
   | (with_reducible exact copperplateref04_Name.mono _ _ _)
   | (with_reducible exact copperplateref05_Number.mono _ _ _)
   | (with_reducible exact copperplateref09_some.mono _ _ _)
   | (with_reducible exact LeO.refl _)
   | (with_reducible exact LeO.none _)
   | (with_reducible refine LeO.ite ?_ ?_)
   | (with_reducible refine LeO.bind ?_ (fun _ => ?_))
   | exact ih0 _ _ _
   | exact ih1 _ _ _ _
   | exact ih2 _ _ _ _
   | exact copperplateref04_Name.mono _ _ _
   | exact copperplateref05_Number.mono _ _ _
   | exact copperplateref09_some.mono _ _ _
   | exact LeO.none _
   | refine LeO.ite ?_ ?_
   | refine LeO.bind ?_ (fun _ => ?_)
  ·intro y0 y1 y2 y3
   unfold copperplateref09_One.j1
   repeat' first
   | (with_reducible exact ih0 _ _ _)
   | (with_reducible exact ih1 _ _ _ _)
   | (with_reducible exact ih2 _ _ _ _)
   | (with_reducible exact copperplateref04_Name.mono _ _ _)
   | (with_reducible exact copperplateref05_Number.mono _ _ _)
   | (with_reducible exact copperplateref09_some.mono _ _ _)
   | (with_reducible exact LeO.refl _)
   | (with_reducible exact LeO.none _)
   | (with_reducible refine LeO.ite ?_ ?_)
   | (with_reducible refine LeO.bind ?_ (fun _ => ?_))
   | exact ih0 _ _ _
   | exact ih1 _ _ _ _
   | exact ih2 _ _ _ _
   | exact copperplateref04_Name.mono _ _ _
   | exact copperplateref05_Number.mono _ _ _
   | exact copperplateref09_some.mono _ _ _
   | exact LeO.none _
   | refine LeO.ite ?_ ?_
   | refine LeO.bind ?_ (fun _ => ?_)
  ·intro y0 y1 y2 y3
   unfold copperplateref09_One.j2
   repeat' first
   | (with_reducible exact ih0 _ _ _)
   | (with_reducible exact ih1 _ _ _ _)
   | (with_reducible exact ih2 _ _ _ _)
   | (with_reducible exact copperplateref04_Name.mono _ _ _)
   | (with_reducible exact copperplateref05_Number.mono _ _ _)
   | (with_reducible exact copperplateref09_some.mono _ _ _)
   | (with_reducible exact LeO.refl _)
   | (with_reducible exact LeO.none _)
   | (with_reducible refine LeO.ite ?_ ?_)
   | (with_reducible refine LeO.bind ?_ (fun _ => ?_))
   | exact ih0 _ _ _
   | exact ih1 _ _ _ _
   | exact ih2 _ _ _ _
   | exact copperplateref04_Name.mono _ _ _
   | exact copperplateref05_Number.mono _ _ _
   | exact copperplateref09_some.mono _ _ _
   | exact LeO.none _
   | refine LeO.ite ?_ ?_
   | refine LeO.bind ?_ (fun _ => ?_)
theorem copperplateref09_One.mono : ∀ a0 a1 k, LeO (copperplateref09_One.f k a0 a1) (copperplateref09_One.f (k + 1) a0 a1) := by
 intro a0 a1 k
 obtain ⟨ih0, ih1, ih2⟩ := copperplateref09_One.mono_l k
 unfold copperplateref09_One.f
 repeat' first
   | (with_reducible exact ih0 _ _ _)
   | (with_reducible exact ih1 _ _ _ _)
   | (with_reducible exact ih2 _ _ _ _)
   | (with_reducible exact copperplateref04_Name.mono _ _ _)
   | (with_reducible exact copperplateref05_Number.mono _ _ _)
   | (with_reducible exact copperplateref09_some.mono _ _ _)
   | (with_reducible exact LeO.refl _)
   | (with_reducible exact LeO.none _)
   | (with_reducible refine LeO.ite ?_ ?_)
   | (with_reducible refine LeO.bind ?_ (fun _ => ?_))
   | exact ih0 _ _ _
   | exact ih1 _ _ _ _
   | exact ih2 _ _ _ _
   | exact copperplateref04_Name.mono _ _ _
   | exact copperplateref05_Number.mono _ _ _
   | exact copperplateref09_some.mono _ _ _
   | exact LeO.none _
   | refine LeO.ite ?_ ?_
   | refine LeO.bind ?_ (fun _ => ?_)
set_option maxHeartbeats 8000000 in
set_option maxRecDepth 100000 in
theorem copperplateref09_One.calls (k : Nat) (a0 : ByteArray) (a1 : Int) (r1 : Int) (r2 : ByteArray) (r3 : Int) (r4 : Int) (r5 : Int) (r6 : Int) (w : World) (h : copperplateref09_One.f k a0 a1 = some (r1, r2, r3, r4, r5, r6)) :
  Calls Tryz.prog 7 #[.string a0, .int .i64 a1] w fun e w' => e = .returned (.tuple #[.agg #[.int .i64 r1, .string r2, .int .i64 r3, .int .i64 r4], .int .i64 r5, .int .i64 r6]) ∧ Below w.heap.size w w' := by
 have hu26 := Tryz.underlying26
 have HB := Aside0.mk (Below.refl w.heap.size w)
 have H : (if a1 < 0 then (copperplateref09_One.j0 k a0 a1 true) else (copperplateref09_One.j0 k a0 a1 (decide (a1 ≥ (a0.size : Int))))) = some (r1, r2, r3, r4, r5, r6) := h
 clear h
 have HC3 := Aside0.mk H
 clear H
 go_enter Tryz.func7, Tryz.ntmps7
 go_upto_region 1 with (first | ((with_reducible refine gate_dst (N := 4) rfl ?_); (try (refine gate_guard (by rfl) ?_; dsimp only)); refine box_event ?hg (N := 4) ?hd (cs := #[.int .i64 0, .string (⟨#[]⟩ : ByteArray), .int .i64 0, .int .i64 0]) (t := 26) ?hr ?_; (case hd => rfl); (case hg => rfl); (case hr => first | (go_simp; done) | (go_simp; rfl)); intro gb205 hg w4 hbox hb; have n0_ := Aside0.mk (below_step hbz hb); have n1_ := Aside0.mk (hbox); have n2_ := Aside0.mk ((by rw [hg]; exact (below_size hbz) : w.heap.size ≤ gb205)); have n3_ := Aside0.mk ((by rw [hg]; exact (below_size hbz) : w.heap.size ≤ gb205)); clear HB; have HB := n0_; have BK205 := n1_; have GW205 := n2_; have GE205 := n3_; clear n0_ n1_ n2_ n3_; clear hb hbox hg))
 (try simp only [Act.put, List.setIfInBounds_toArray, List.set_cons_zero, List.set_cons_succ])
 go_cut [22] (fun v22 wc => ∃ (kq : Nat) (x22_2 : Bool), v22 = .bool x22_2 ∧ Aside0 (copperplateref09_One.j0 kq a0 a1 x22_2 = some (r1, r2, r3, r4, r5, r6)) ∧ Aside0 (kq ≤ k) ∧ Aside0 (wc.heap[gb205]? = some (.cells #[.int .i64 0, .string (⟨#[]⟩ : ByteArray), .int .i64 0, .int .i64 0] 26 (0, 0))) ∧ Aside0 (Below w.heap.size w wc))
 case first =>
  have H := HC3.out
  clear HC3
  by_cases c5 : a1 < 0
  ·rw [if_pos c5] at H
   have c5b0 : decide (a1 < 0) = true := decide_eq_true c5
   clear c5
   (first | rw [c5b0] | (simp only [i64_w, i32_w]; rw [c5b0]) | skip)
   have H' := Aside0.mk H
   clear H
   go_wp2
   go_meet
   case rel => exact ⟨_, (true), (by first | rfl | (simp; done) | (simp [*]; done)), H', ⟨by first | omega | exact Nat.le_refl _⟩, ⟨by (with_reducible repeat (first | refine blk_drewN ?_ _ | refine blk_drew ?_ | refine blk_alloc ?_ _)); exact BK205.out⟩, ⟨by repeat (first | (with_reducible first | exact HB.out | apply below_alloc | apply pw_below_drewN | apply below_drew1 | refine below_set ?_ GE205.out) | exact HB.out)⟩⟩
  ·rw [if_neg c5] at H
   have c5b0 : decide (a1 < 0) = false := decide_eq_false c5
   clear c5
   (first | rw [c5b0] | (simp only [i64_w, i32_w]; rw [c5b0]) | skip)
   have H' := Aside0.mk H
   clear H
   go_wp2
   go_meet
   case rel => exact ⟨_, (decide (a1 ≥ (a0.size : Int))), (by first | rfl | (simp; done) | (simp [*]; done)), H', ⟨by first | omega | exact Nat.le_refl _⟩, ⟨by (with_reducible repeat (first | refine blk_drewN ?_ _ | refine blk_drew ?_ | refine blk_alloc ?_ _)); exact BK205.out⟩, ⟨by repeat (first | (with_reducible first | exact HB.out | apply below_alloc | apply pw_below_drewN | apply below_drew1 | refine below_set ?_ GE205.out) | exact HB.out)⟩⟩
 case rest =>
  clear HC3
  try clear p2
  try clear c5
  try clear c5b0
  obtain ⟨kq, x22_2, rfl, HA, HJ2, BK205, HB⟩ := hcut
  cases kq with
  | zero => exact absurd HA.out (by simp [copperplateref09_One.j0])
  | succ kj2 =>
   have H := HA.out
   clear HA
   simp only [copperplateref09_One.j0] at H
   by_cases c6 : x22_2 = true
   ·subst c6
    have H1 : (some (0, (⟨#[]⟩ : ByteArray), 0, 0, 2, a1)) = some (r1, r2, r3, r4, r5, r6) := by rw [if_pos rfl] at H; exact H
    clear H
    have H := H1
    clear H1
    simp only [Option.some.injEq, Prod.mk.injEq] at H
    obtain ⟨rfl, rfl, rfl, rfl, rfl, rfl⟩ := H
    have hcz7_0 : wc.cell? ⟨gb205, 0, none⟩ = some (.int .i64 0) := (blk_cell BK205.out 0).trans rfl
    have hcz7_1 : wc.cell? ⟨gb205, 1, none⟩ = some (.string (⟨#[]⟩ : ByteArray)) := (blk_cell BK205.out 1).trans rfl
    have hcz7_2 : wc.cell? ⟨gb205, 2, none⟩ = some (.int .i64 0) := (blk_cell BK205.out 2).trans rfl
    have hcz7_3 : wc.cell? ⟨gb205, 3, none⟩ = some (.int .i64 0) := (blk_cell BK205.out 3).trans rfl
    have hfz7_0 := blk_frozen BK205.out 0
    have hfz7_1 := blk_frozen BK205.out 1
    have hfz7_2 := blk_frozen BK205.out 2
    have hfz7_3 := blk_frozen BK205.out 3
    go_wp2
    refine bodyPost_ret (results_ctt rfl _ _ gb205 26 #[.int .i64 0, .string (⟨#[]⟩ : ByteArray), .int .i64 0, .int .i64 0] (0, 0) _ rfl (by (with_reducible repeat (first | refine blk_drewN ?_ _ | refine blk_drew ?_ | refine blk_alloc ?_ _)); refine blk_put (cs := #[.int .i64 0, .string (⟨#[]⟩ : ByteArray), .int .i64 0, .int .i64 0]) ?_ 3 _ rfl; (with_reducible repeat (first | refine blk_drewN ?_ _ | refine blk_drew ?_ | refine blk_alloc ?_ _)); refine blk_put (cs := #[.int .i64 0, .string (⟨#[]⟩ : ByteArray), .int .i64 0, .int .i64 0]) ?_ 2 _ rfl; (with_reducible repeat (first | refine blk_drewN ?_ _ | refine blk_drew ?_ | refine blk_alloc ?_ _)); refine blk_put (cs := #[.int .i64 0, .string (⟨#[]⟩ : ByteArray), .int .i64 0, .int .i64 0]) ?_ 1 _ rfl; (with_reducible repeat (first | refine blk_drewN ?_ _ | refine blk_drew ?_ | refine blk_alloc ?_ _)); refine blk_put (cs := #[.int .i64 0, .string (⟨#[]⟩ : ByteArray), .int .i64 0, .int .i64 0]) ?_ 0 _ rfl; (with_reducible repeat (first | refine blk_drewN ?_ _ | refine blk_drew ?_ | refine blk_alloc ?_ _)); exact BK205.out) Tryz.underlying26 rfl (by kernel_rfl)) rfl ?_
    exact ⟨by first | rfl | (simp [errW_none, errW_some] <;> rfl) | (simp [*, errW_none, errW_some] <;> rfl), by repeat (first | (with_reducible first | exact HB.out | apply below_alloc | apply pw_below_drewN | apply below_drew1 | refine below_set ?_ GE205.out) | exact HB.out)⟩
   ·replace c6 := Bool.eq_false_iff.mpr c6
    subst c6
    have H1 : (if 0 ≤ a1 then (if a1 < (a0.size : Int) then ((copperplateref04_Begins.f (bt a0 a1)).bind fun t206 => (if t206 = true then ((copperplateref04_Name.f kj2 a0 a1).bind fun t207 => ((copperplateref09_tok.f a0 2 a1 t207).bind fun bt208 => (some (bt208.1, bt208.2.1, bt208.2.2.1, bt208.2.2.2, 0, t207)))) else (if (bt a0 a1) = 33 then (copperplateref09_One.j1 kj2 a0 a1 (bt a0 a1) ((bt a0 a1) == 33)) else (if (bt a0 a1) = 36 then (copperplateref09_One.j1 kj2 a0 a1 (bt a0 a1) ((bt a0 a1) == 36)) else (if (bt a0 a1) = 38 then (copperplateref09_One.j1 kj2 a0 a1 (bt a0 a1) ((bt a0 a1) == 38)) else (if (bt a0 a1) = 40 then (copperplateref09_One.j1 kj2 a0 a1 (bt a0 a1) ((bt a0 a1) == 40)) else (if (bt a0 a1) = 41 then (copperplateref09_One.j1 kj2 a0 a1 (bt a0 a1) ((bt a0 a1) == 41)) else (if (bt a0 a1) = 58 then (copperplateref09_One.j1 kj2 a0 a1 (bt a0 a1) ((bt a0 a1) == 58)) else (if (bt a0 a1) = 61 then (copperplateref09_One.j1 kj2 a0 a1 (bt a0 a1) ((bt a0 a1) == 61)) else (if (bt a0 a1) = 64 then (copperplateref09_One.j1 kj2 a0 a1 (bt a0 a1) ((bt a0 a1) == 64)) else (if (bt a0 a1) = 91 then (copperplateref09_One.j1 kj2 a0 a1 (bt a0 a1) ((bt a0 a1) == 91)) else (if (bt a0 a1) = 93 then (copperplateref09_One.j1 kj2 a0 a1 (bt a0 a1) ((bt a0 a1) == 93)) else (if (bt a0 a1) = 123 then (copperplateref09_One.j1 kj2 a0 a1 (bt a0 a1) ((bt a0 a1) == 123)) else (if (bt a0 a1) = 124 then (copperplateref09_One.j1 kj2 a0 a1 (bt a0 a1) ((bt a0 a1) == 124)) else (copperplateref09_One.j1 kj2 a0 a1 (bt a0 a1) ((bt a0 a1) == 125)))))))))))))))) else (none)) else (none)) = some (r1, r2, r3, r4, r5, r6) := by rw [if_neg (show ¬ (false = true) by decide)] at H; exact H
    clear H
    have H := H1
    clear H1
    by_cases c8 : 0 ≤ a1
    ·rw [if_pos c8] at H
     have c8b0 : decide (0 ≤ a1) = true := decide_eq_true c8
     clear c8
     by_cases c9 : a1 < (a0.size : Int)
     ·rw [if_pos c9] at H
      have c9b0 : decide (a1 < (a0.size : Int)) = true := decide_eq_true c9
      clear c9
      replace H := Option.bind_eq_some_iff.mp H
      obtain ⟨t206, A110, H⟩ := H
      replace H : (if t206 = true then ((copperplateref04_Name.f kj2 a0 a1).bind fun t207 => ((copperplateref09_tok.f a0 2 a1 t207).bind fun bt208 => (some (bt208.1, bt208.2.1, bt208.2.2.1, bt208.2.2.2, 0, t207)))) else (if (bt a0 a1) = 33 then (copperplateref09_One.j1 kj2 a0 a1 (bt a0 a1) ((bt a0 a1) == 33)) else (if (bt a0 a1) = 36 then (copperplateref09_One.j1 kj2 a0 a1 (bt a0 a1) ((bt a0 a1) == 36)) else (if (bt a0 a1) = 38 then (copperplateref09_One.j1 kj2 a0 a1 (bt a0 a1) ((bt a0 a1) == 38)) else (if (bt a0 a1) = 40 then (copperplateref09_One.j1 kj2 a0 a1 (bt a0 a1) ((bt a0 a1) == 40)) else (if (bt a0 a1) = 41 then (copperplateref09_One.j1 kj2 a0 a1 (bt a0 a1) ((bt a0 a1) == 41)) else (if (bt a0 a1) = 58 then (copperplateref09_One.j1 kj2 a0 a1 (bt a0 a1) ((bt a0 a1) == 58)) else (if (bt a0 a1) = 61 then (copperplateref09_One.j1 kj2 a0 a1 (bt a0 a1) ((bt a0 a1) == 61)) else (if (bt a0 a1) = 64 then (copperplateref09_One.j1 kj2 a0 a1 (bt a0 a1) ((bt a0 a1) == 64)) else (if (bt a0 a1) = 91 then (copperplateref09_One.j1 kj2 a0 a1 (bt a0 a1) ((bt a0 a1) == 91)) else (if (bt a0 a1) = 93 then (copperplateref09_One.j1 kj2 a0 a1 (bt a0 a1) ((bt a0 a1) == 93)) else (if (bt a0 a1) = 123 then (copperplateref09_One.j1 kj2 a0 a1 (bt a0 a1) ((bt a0 a1) == 123)) else (if (bt a0 a1) = 124 then (copperplateref09_One.j1 kj2 a0 a1 (bt a0 a1) ((bt a0 a1) == 124)) else (copperplateref09_One.j1 kj2 a0 a1 (bt a0 a1) ((bt a0 a1) == 125))))))))))))))) = some (r1, r2, r3, r4, r5, r6) := H
      have A11 := Aside0.mk A110
      clear A110
      by_cases c12 : t206 = true
      ·subst c12
       have H1 : ((copperplateref04_Name.f kj2 a0 a1).bind fun t207 => ((copperplateref09_tok.f a0 2 a1 t207).bind fun bt208 => (some (bt208.1, bt208.2.1, bt208.2.2.1, bt208.2.2.2, 0, t207)))) = some (r1, r2, r3, r4, r5, r6) := by rw [if_pos rfl] at H; exact H
       clear H
       have H := H1
       clear H1
       replace H := Option.bind_eq_some_iff.mp H
       obtain ⟨t207, A130, H⟩ := H
       replace H : ((copperplateref09_tok.f a0 2 a1 t207).bind fun bt208 => (some (bt208.1, bt208.2.1, bt208.2.2.1, bt208.2.2.2, 0, t207))) = some (r1, r2, r3, r4, r5, r6) := H
       have A13 := Aside0.mk A130
       clear A130
       replace H := Option.bind_eq_some_iff.mp H
       obtain ⟨⟨t208, t209, t210, t211⟩, A140, H⟩ := H
       replace H : (some (t208, t209, t210, t211, 0, t207)) = some (r1, r2, r3, r4, r5, r6) := H
       have A14 := Aside0.mk A140
       clear A140
       simp only [Option.some.injEq, Prod.mk.injEq] at H
       obtain ⟨rfl, rfl, rfl, rfl, rfl, rfl⟩ := H
       have p10 : 0 ≤ (a1 : Int) := of_decide_eq_true (by first | (with_reducible assumption) | assumption)
       have q10 : a1 < (a0.size : Int) := of_decide_eq_true (by first | (with_reducible assumption) | assumption)
       have hx10 := bt_at a0 a1
       replace p10 := eq_true p10
       replace q10 := eq_true q10
       go_wp2_with (first | ((with_reducible refine gate_callee (f := 23) rfl ?_); refine goesL_ (some 28) rfl rfl Tryz.func23 (by kernel_rfl) rfl #[.int .u8 (bt a0 a1)] rfl gz ?_; (with_reducible refine (copperplateref04_Begins.calls (bt a0 a1) true _ A11.out).mono ?_); rintro e w' ⟨rfl, ⟨nd, rfl⟩⟩; refine ⟨_, rfl, ?_⟩; (try (rw [drewN_self wc]; generalize hq_ : World.drewN wc _ = wc; have n0_ : Aside0 (wc.heap[gb205]? = some (.cells #[.int .i64 0, .string (⟨#[]⟩ : ByteArray), .int .i64 0, .int .i64 0] 26 (0, 0))) := ⟨by rw [← hq_]; exact (by (with_reducible repeat (first | refine blk_drewN ?_ _ | refine blk_drew ?_ | refine blk_alloc ?_ _)); exact BK205.out)⟩; have n1_ : Aside0 (Below w.heap.size w wc) := ⟨by rw [← hq_]; exact (by repeat (first | (with_reducible first | exact HB.out | apply below_alloc | apply pw_below_drewN | apply below_drew1 | refine below_set ?_ GE205.out) | exact HB.out))⟩; clear BK205 HB hq_; have BK205 := n0_; have HB := n1_; clear n0_ n1_))) | ((with_reducible refine gate_callee (f := 24) rfl ?_); refine goesL_ (some 32) rfl rfl Tryz.func24 (by kernel_rfl) rfl #[.string a0, .int .i64 a1] rfl gz ?_; (with_reducible refine (copperplateref04_Name.calls kj2 a0 a1 t207 _ A13.out).mono ?_); rintro e w' ⟨rfl, ⟨nd, rfl⟩⟩; refine ⟨_, rfl, ?_⟩; (try (rw [drewN_self wc]; generalize hq_ : World.drewN wc _ = wc; have n0_ : Aside0 (wc.heap[gb205]? = some (.cells #[.int .i64 0, .string (⟨#[]⟩ : ByteArray), .int .i64 0, .int .i64 0] 26 (0, 0))) := ⟨by rw [← hq_]; exact (by (with_reducible repeat (first | refine blk_drewN ?_ _ | refine blk_drew ?_ | refine blk_alloc ?_ _)); exact BK205.out)⟩; have n1_ : Aside0 (Below w.heap.size w wc) := ⟨by rw [← hq_]; exact (by repeat (first | (with_reducible first | exact HB.out | apply below_alloc | apply pw_below_drewN | apply below_drew1 | refine below_set ?_ GE205.out) | exact HB.out))⟩; clear BK205 HB hq_; have BK205 := n0_; have HB := n1_; clear n0_ n1_))) | ((with_reducible refine gate_callee (f := 25) rfl ?_); refine goesL_ (some 36) rfl rfl Tryz.func25 (by kernel_rfl) rfl #[.string a0, .int .i64 2, .int .i64 a1, .int .i64 t207] rfl gz ?_; (with_reducible refine (copperplateref09_tok.calls a0 2 a1 t207 t208 t209 t210 t211 _ A14.out).mono ?_); rintro e w15 ⟨rfl, hb⟩; refine ⟨_, rfl, ?_⟩; have n0_ := Aside0.mk (blk_below (g := gb205) (o := .cells #[.int .i64 0, .string (⟨#[]⟩ : ByteArray), .int .i64 0, .int .i64 0] 26 (0, 0)) (by (with_reducible repeat (first | refine blk_drewN ?_ _ | refine blk_drew ?_ | refine blk_alloc ?_ _)); exact BK205.out) hb); have n1_ := Aside0.mk (below_step (by repeat (first | (with_reducible first | exact HB.out | apply below_alloc | apply pw_below_drewN | apply below_drew1 | refine below_set ?_ GE205.out) | exact HB.out)) hb); clear BK205; clear HB; have BK205 := n0_; have HB := n1_; clear n0_ n1_; (try clear hb); (try clear hb2); (try clear hk); (try clear hi); have hcz16_0 : w15.cell? ⟨gb205, 0, none⟩ = some (.int .i64 0) := (blk_cell BK205.out 0).trans rfl; have hcz16_1 : w15.cell? ⟨gb205, 1, none⟩ = some (.string (⟨#[]⟩ : ByteArray)) := (blk_cell BK205.out 1).trans rfl; have hcz16_2 : w15.cell? ⟨gb205, 2, none⟩ = some (.int .i64 0) := (blk_cell BK205.out 2).trans rfl; have hcz16_3 : w15.cell? ⟨gb205, 3, none⟩ = some (.int .i64 0) := (blk_cell BK205.out 3).trans rfl; have hfz16_0 := blk_frozen BK205.out 0; have hfz16_1 := blk_frozen BK205.out 1; have hfz16_2 := blk_frozen BK205.out 2; have hfz16_3 := blk_frozen BK205.out 3))
       refine bodyPost_ret (results_ctt rfl _ _ gb205 26 #[.int .i64 t208, .string t209, .int .i64 t210, .int .i64 t211] (0, 0) _ rfl (by (with_reducible repeat (first | refine blk_drewN ?_ _ | refine blk_drew ?_ | refine blk_alloc ?_ _)); refine blk_put (cs := #[.int .i64 t208, .string t209, .int .i64 t210, .int .i64 0]) ?_ 3 _ rfl; (with_reducible repeat (first | refine blk_drewN ?_ _ | refine blk_drew ?_ | refine blk_alloc ?_ _)); refine blk_put (cs := #[.int .i64 t208, .string t209, .int .i64 0, .int .i64 0]) ?_ 2 _ rfl; (with_reducible repeat (first | refine blk_drewN ?_ _ | refine blk_drew ?_ | refine blk_alloc ?_ _)); refine blk_put (cs := #[.int .i64 t208, .string (⟨#[]⟩ : ByteArray), .int .i64 0, .int .i64 0]) ?_ 1 _ rfl; (with_reducible repeat (first | refine blk_drewN ?_ _ | refine blk_drew ?_ | refine blk_alloc ?_ _)); refine blk_put (cs := #[.int .i64 0, .string (⟨#[]⟩ : ByteArray), .int .i64 0, .int .i64 0]) ?_ 0 _ rfl; (with_reducible repeat (first | refine blk_drewN ?_ _ | refine blk_drew ?_ | refine blk_alloc ?_ _)); exact BK205.out) Tryz.underlying26 rfl (by kernel_rfl)) rfl ?_
       exact ⟨by first | rfl | (simp [errW_none, errW_some] <;> rfl) | (simp [*, errW_none, errW_some] <;> rfl), by repeat (first | (with_reducible first | exact HB.out | apply below_alloc | apply pw_below_drewN | apply below_drew1 | refine below_set ?_ GE205.out) | exact HB.out)⟩
      ·replace c12 := Bool.eq_false_iff.mpr c12
       subst c12
       have H1 : (if (bt a0 a1) = 33 then (copperplateref09_One.j1 kj2 a0 a1 (bt a0 a1) ((bt a0 a1) == 33)) else (if (bt a0 a1) = 36 then (copperplateref09_One.j1 kj2 a0 a1 (bt a0 a1) ((bt a0 a1) == 36)) else (if (bt a0 a1) = 38 then (copperplateref09_One.j1 kj2 a0 a1 (bt a0 a1) ((bt a0 a1) == 38)) else (if (bt a0 a1) = 40 then (copperplateref09_One.j1 kj2 a0 a1 (bt a0 a1) ((bt a0 a1) == 40)) else (if (bt a0 a1) = 41 then (copperplateref09_One.j1 kj2 a0 a1 (bt a0 a1) ((bt a0 a1) == 41)) else (if (bt a0 a1) = 58 then (copperplateref09_One.j1 kj2 a0 a1 (bt a0 a1) ((bt a0 a1) == 58)) else (if (bt a0 a1) = 61 then (copperplateref09_One.j1 kj2 a0 a1 (bt a0 a1) ((bt a0 a1) == 61)) else (if (bt a0 a1) = 64 then (copperplateref09_One.j1 kj2 a0 a1 (bt a0 a1) ((bt a0 a1) == 64)) else (if (bt a0 a1) = 91 then (copperplateref09_One.j1 kj2 a0 a1 (bt a0 a1) ((bt a0 a1) == 91)) else (if (bt a0 a1) = 93 then (copperplateref09_One.j1 kj2 a0 a1 (bt a0 a1) ((bt a0 a1) == 93)) else (if (bt a0 a1) = 123 then (copperplateref09_One.j1 kj2 a0 a1 (bt a0 a1) ((bt a0 a1) == 123)) else (if (bt a0 a1) = 124 then (copperplateref09_One.j1 kj2 a0 a1 (bt a0 a1) ((bt a0 a1) == 124)) else (copperplateref09_One.j1 kj2 a0 a1 (bt a0 a1) ((bt a0 a1) == 125)))))))))))))) = some (r1, r2, r3, r4, r5, r6) := by rw [if_neg (show ¬ (false = true) by decide)] at H; exact H
       clear H
       have H := H1
       clear H1
       have HC18 := Aside0.mk H
       clear H
       have p10 : 0 ≤ (a1 : Int) := of_decide_eq_true (by first | (with_reducible assumption) | assumption)
       have q10 : a1 < (a0.size : Int) := of_decide_eq_true (by first | (with_reducible assumption) | assumption)
       have hx10 := bt_at a0 a1
       replace p10 := eq_true p10
       replace q10 := eq_true q10
       go_upto_if 41 with (first | ((with_reducible refine gate_callee (f := 23) rfl ?_); refine goesL_ (some 28) rfl rfl Tryz.func23 (by kernel_rfl) rfl #[.int .u8 (bt a0 a1)] rfl gz ?_; (with_reducible refine (copperplateref04_Begins.calls (bt a0 a1) false _ A11.out).mono ?_); rintro e w' ⟨rfl, ⟨nd, rfl⟩⟩; refine ⟨_, rfl, ?_⟩; have p17 : 0 ≤ (a1 : Int) := of_decide_eq_true (by first | (with_reducible assumption) | assumption); have q17 : a1 < (a0.size : Int) := of_decide_eq_true (by first | (with_reducible assumption) | assumption); have hx17 := bt_at a0 a1; replace p17 := eq_true p17; replace q17 := eq_true q17))
       (try simp only [Act.put, List.setIfInBounds_toArray, List.set_cons_zero, List.set_cons_succ])
       go_cut [41] (fun v41 wc => ∃ (kq : Nat) (x41_17 : Bool), v41 = .bool x41_17 ∧ Aside0 (copperplateref09_One.j1 kq a0 a1 (bt a0 a1) x41_17 = some (r1, r2, r3, r4, r5, r6)) ∧ Aside0 (kq ≤ kj2) ∧ Aside0 (wc.heap[gb205]? = some (.cells #[.int .i64 0, .string (⟨#[]⟩ : ByteArray), .int .i64 0, .int .i64 0] 26 (0, 0))) ∧ Aside0 (Below w.heap.size w wc))
       case first =>
        have H := HC18.out
        clear HC18
        by_cases c19 : (bt a0 a1) = 33
        ·rw [if_pos c19] at H
         have c19b0 : ((bt a0 a1) == 33) = true := beq_iff_eq.mpr c19
         have c19b1 : ((bt a0 a1) != 33) = false := bne_eq_false_iff_eq.mpr c19
         clear c19
         (first | rw [c19b0] | (simp only [i64_w, i32_w]; rw [c19b0]) | skip)
         have H' := Aside0.mk H
         clear H
         go_wp2
         go_meet
         case rel => exact ⟨_, (((bt a0 a1) == 33)), (by first | rfl | (simp; done) | (simp [*]; done)), H', ⟨by have := HJ2.out; first | omega | exact Nat.le_refl _⟩, ⟨by (with_reducible repeat (first | refine blk_drewN ?_ _ | refine blk_drew ?_ | refine blk_alloc ?_ _)); exact BK205.out⟩, ⟨by repeat (first | (with_reducible first | exact HB.out | apply below_alloc | apply pw_below_drewN | apply below_drew1 | refine below_set ?_ GE205.out) | exact HB.out)⟩⟩
        ·rw [if_neg c19] at H
         have c19b0 : ((bt a0 a1) == 33) = false := beq_eq_false_iff_ne.mpr c19
         have c19b1 : ((bt a0 a1) != 33) = true := bne_iff_ne.mpr c19
         (first | rw [c19b0] | (simp only [i64_w, i32_w]; rw [c19b0]) | skip)
         by_cases c20 : (bt a0 a1) = 36
         ·rw [if_pos c20] at H
          have c20b0 : ((bt a0 a1) == 36) = true := beq_iff_eq.mpr c20
          have c20b1 : ((bt a0 a1) != 36) = false := bne_eq_false_iff_eq.mpr c20
          clear c20
          have H' := Aside0.mk H
          clear H
          go_wp2
          go_meet
          case rel => exact ⟨_, (((bt a0 a1) == 36)), (by first | rfl | (simp; done) | (simp [*]; done)), H', ⟨by have := HJ2.out; first | omega | exact Nat.le_refl _⟩, ⟨by (with_reducible repeat (first | refine blk_drewN ?_ _ | refine blk_drew ?_ | refine blk_alloc ?_ _)); exact BK205.out⟩, ⟨by repeat (first | (with_reducible first | exact HB.out | apply below_alloc | apply pw_below_drewN | apply below_drew1 | refine below_set ?_ GE205.out) | exact HB.out)⟩⟩
         ·rw [if_neg c20] at H
          have c20b0 : ((bt a0 a1) == 36) = false := beq_eq_false_iff_ne.mpr c20
          have c20b1 : ((bt a0 a1) != 36) = true := bne_iff_ne.mpr c20
          by_cases c21 : (bt a0 a1) = 38
          ·rw [if_pos c21] at H
           have c21b0 : ((bt a0 a1) == 38) = true := beq_iff_eq.mpr c21
           have c21b1 : ((bt a0 a1) != 38) = false := bne_eq_false_iff_eq.mpr c21
           clear c21
           have H' := Aside0.mk H
           clear H
           go_wp2
           go_meet
           case rel => exact ⟨_, (((bt a0 a1) == 38)), (by first | rfl | (simp; done) | (simp [*]; done)), H', ⟨by have := HJ2.out; first | omega | exact Nat.le_refl _⟩, ⟨by (with_reducible repeat (first | refine blk_drewN ?_ _ | refine blk_drew ?_ | refine blk_alloc ?_ _)); exact BK205.out⟩, ⟨by repeat (first | (with_reducible first | exact HB.out | apply below_alloc | apply pw_below_drewN | apply below_drew1 | refine below_set ?_ GE205.out) | exact HB.out)⟩⟩
          ·rw [if_neg c21] at H
           have c21b0 : ((bt a0 a1) == 38) = false := beq_eq_false_iff_ne.mpr c21
           have c21b1 : ((bt a0 a1) != 38) = true := bne_iff_ne.mpr c21
           by_cases c22 : (bt a0 a1) = 40
           ·rw [if_pos c22] at H
            have c22b0 : ((bt a0 a1) == 40) = true := beq_iff_eq.mpr c22
            have c22b1 : ((bt a0 a1) != 40) = false := bne_eq_false_iff_eq.mpr c22
            clear c22
            have H' := Aside0.mk H
            clear H
            go_wp2
            go_meet
            case rel => exact ⟨_, (((bt a0 a1) == 40)), (by first | rfl | (simp; done) | (simp [*]; done)), H', ⟨by have := HJ2.out; first | omega | exact Nat.le_refl _⟩, ⟨by (with_reducible repeat (first | refine blk_drewN ?_ _ | refine blk_drew ?_ | refine blk_alloc ?_ _)); exact BK205.out⟩, ⟨by repeat (first | (with_reducible first | exact HB.out | apply below_alloc | apply pw_below_drewN | apply below_drew1 | refine below_set ?_ GE205.out) | exact HB.out)⟩⟩
           ·rw [if_neg c22] at H
            have c22b0 : ((bt a0 a1) == 40) = false := beq_eq_false_iff_ne.mpr c22
            have c22b1 : ((bt a0 a1) != 40) = true := bne_iff_ne.mpr c22
            by_cases c23 : (bt a0 a1) = 41
            ·rw [if_pos c23] at H
             have c23b0 : ((bt a0 a1) == 41) = true := beq_iff_eq.mpr c23
             have c23b1 : ((bt a0 a1) != 41) = false := bne_eq_false_iff_eq.mpr c23
             clear c23
             have H' := Aside0.mk H
             clear H
             go_wp2
             go_meet
             case rel => exact ⟨_, (((bt a0 a1) == 41)), (by first | rfl | (simp; done) | (simp [*]; done)), H', ⟨by have := HJ2.out; first | omega | exact Nat.le_refl _⟩, ⟨by (with_reducible repeat (first | refine blk_drewN ?_ _ | refine blk_drew ?_ | refine blk_alloc ?_ _)); exact BK205.out⟩, ⟨by repeat (first | (with_reducible first | exact HB.out | apply below_alloc | apply pw_below_drewN | apply below_drew1 | refine below_set ?_ GE205.out) | exact HB.out)⟩⟩
            ·rw [if_neg c23] at H
             have c23b0 : ((bt a0 a1) == 41) = false := beq_eq_false_iff_ne.mpr c23
             have c23b1 : ((bt a0 a1) != 41) = true := bne_iff_ne.mpr c23
             by_cases c24 : (bt a0 a1) = 58
             ·rw [if_pos c24] at H
              have c24b0 : ((bt a0 a1) == 58) = true := beq_iff_eq.mpr c24
              have c24b1 : ((bt a0 a1) != 58) = false := bne_eq_false_iff_eq.mpr c24
              clear c24
              have H' := Aside0.mk H
              clear H
              go_wp2
              go_meet
              case rel => exact ⟨_, (((bt a0 a1) == 58)), (by first | rfl | (simp; done) | (simp [*]; done)), H', ⟨by have := HJ2.out; first | omega | exact Nat.le_refl _⟩, ⟨by (with_reducible repeat (first | refine blk_drewN ?_ _ | refine blk_drew ?_ | refine blk_alloc ?_ _)); exact BK205.out⟩, ⟨by repeat (first | (with_reducible first | exact HB.out | apply below_alloc | apply pw_below_drewN | apply below_drew1 | refine below_set ?_ GE205.out) | exact HB.out)⟩⟩
             ·rw [if_neg c24] at H
              have c24b0 : ((bt a0 a1) == 58) = false := beq_eq_false_iff_ne.mpr c24
              have c24b1 : ((bt a0 a1) != 58) = true := bne_iff_ne.mpr c24
              by_cases c25 : (bt a0 a1) = 61
              ·rw [if_pos c25] at H
               have c25b0 : ((bt a0 a1) == 61) = true := beq_iff_eq.mpr c25
               have c25b1 : ((bt a0 a1) != 61) = false := bne_eq_false_iff_eq.mpr c25
               clear c25
               have H' := Aside0.mk H
               clear H
               go_wp2
               go_meet
               case rel => exact ⟨_, (((bt a0 a1) == 61)), (by first | rfl | (simp; done) | (simp [*]; done)), H', ⟨by have := HJ2.out; first | omega | exact Nat.le_refl _⟩, ⟨by (with_reducible repeat (first | refine blk_drewN ?_ _ | refine blk_drew ?_ | refine blk_alloc ?_ _)); exact BK205.out⟩, ⟨by repeat (first | (with_reducible first | exact HB.out | apply below_alloc | apply pw_below_drewN | apply below_drew1 | refine below_set ?_ GE205.out) | exact HB.out)⟩⟩
              ·rw [if_neg c25] at H
               have c25b0 : ((bt a0 a1) == 61) = false := beq_eq_false_iff_ne.mpr c25
               have c25b1 : ((bt a0 a1) != 61) = true := bne_iff_ne.mpr c25
               by_cases c26 : (bt a0 a1) = 64
               ·rw [if_pos c26] at H
                have c26b0 : ((bt a0 a1) == 64) = true := beq_iff_eq.mpr c26
                have c26b1 : ((bt a0 a1) != 64) = false := bne_eq_false_iff_eq.mpr c26
                clear c26
                have H' := Aside0.mk H
                clear H
                go_wp2
                go_meet
                case rel => exact ⟨_, (((bt a0 a1) == 64)), (by first | rfl | (simp; done) | (simp [*]; done)), H', ⟨by have := HJ2.out; first | omega | exact Nat.le_refl _⟩, ⟨by (with_reducible repeat (first | refine blk_drewN ?_ _ | refine blk_drew ?_ | refine blk_alloc ?_ _)); exact BK205.out⟩, ⟨by repeat (first | (with_reducible first | exact HB.out | apply below_alloc | apply pw_below_drewN | apply below_drew1 | refine below_set ?_ GE205.out) | exact HB.out)⟩⟩
               ·rw [if_neg c26] at H
                have c26b0 : ((bt a0 a1) == 64) = false := beq_eq_false_iff_ne.mpr c26
                have c26b1 : ((bt a0 a1) != 64) = true := bne_iff_ne.mpr c26
                by_cases c27 : (bt a0 a1) = 91
                ·rw [if_pos c27] at H
                 have c27b0 : ((bt a0 a1) == 91) = true := beq_iff_eq.mpr c27
                 have c27b1 : ((bt a0 a1) != 91) = false := bne_eq_false_iff_eq.mpr c27
                 clear c27
                 have H' := Aside0.mk H
                 clear H
                 go_wp2
                 go_meet
                 case rel => exact ⟨_, (((bt a0 a1) == 91)), (by first | rfl | (simp; done) | (simp [*]; done)), H', ⟨by have := HJ2.out; first | omega | exact Nat.le_refl _⟩, ⟨by (with_reducible repeat (first | refine blk_drewN ?_ _ | refine blk_drew ?_ | refine blk_alloc ?_ _)); exact BK205.out⟩, ⟨by repeat (first | (with_reducible first | exact HB.out | apply below_alloc | apply pw_below_drewN | apply below_drew1 | refine below_set ?_ GE205.out) | exact HB.out)⟩⟩
                ·rw [if_neg c27] at H
                 have c27b0 : ((bt a0 a1) == 91) = false := beq_eq_false_iff_ne.mpr c27
                 have c27b1 : ((bt a0 a1) != 91) = true := bne_iff_ne.mpr c27
                 by_cases c28 : (bt a0 a1) = 93
                 ·rw [if_pos c28] at H
                  have c28b0 : ((bt a0 a1) == 93) = true := beq_iff_eq.mpr c28
                  have c28b1 : ((bt a0 a1) != 93) = false := bne_eq_false_iff_eq.mpr c28
                  clear c28
                  have H' := Aside0.mk H
                  clear H
                  go_wp2
                  go_meet
                  case rel => exact ⟨_, (((bt a0 a1) == 93)), (by first | rfl | (simp; done) | (simp [*]; done)), H', ⟨by have := HJ2.out; first | omega | exact Nat.le_refl _⟩, ⟨by (with_reducible repeat (first | refine blk_drewN ?_ _ | refine blk_drew ?_ | refine blk_alloc ?_ _)); exact BK205.out⟩, ⟨by repeat (first | (with_reducible first | exact HB.out | apply below_alloc | apply pw_below_drewN | apply below_drew1 | refine below_set ?_ GE205.out) | exact HB.out)⟩⟩
                 ·rw [if_neg c28] at H
                  have c28b0 : ((bt a0 a1) == 93) = false := beq_eq_false_iff_ne.mpr c28
                  have c28b1 : ((bt a0 a1) != 93) = true := bne_iff_ne.mpr c28
                  by_cases c29 : (bt a0 a1) = 123
                  ·rw [if_pos c29] at H
                   have c29b0 : ((bt a0 a1) == 123) = true := beq_iff_eq.mpr c29
                   have c29b1 : ((bt a0 a1) != 123) = false := bne_eq_false_iff_eq.mpr c29
                   clear c29
                   have H' := Aside0.mk H
                   clear H
                   go_wp2
                   go_meet
                   case rel => exact ⟨_, (((bt a0 a1) == 123)), (by first | rfl | (simp; done) | (simp [*]; done)), H', ⟨by have := HJ2.out; first | omega | exact Nat.le_refl _⟩, ⟨by (with_reducible repeat (first | refine blk_drewN ?_ _ | refine blk_drew ?_ | refine blk_alloc ?_ _)); exact BK205.out⟩, ⟨by repeat (first | (with_reducible first | exact HB.out | apply below_alloc | apply pw_below_drewN | apply below_drew1 | refine below_set ?_ GE205.out) | exact HB.out)⟩⟩
                  ·rw [if_neg c29] at H
                   have c29b0 : ((bt a0 a1) == 123) = false := beq_eq_false_iff_ne.mpr c29
                   have c29b1 : ((bt a0 a1) != 123) = true := bne_iff_ne.mpr c29
                   by_cases c30 : (bt a0 a1) = 124
                   ·rw [if_pos c30] at H
                    have c30b0 : ((bt a0 a1) == 124) = true := beq_iff_eq.mpr c30
                    have c30b1 : ((bt a0 a1) != 124) = false := bne_eq_false_iff_eq.mpr c30
                    clear c30
                    have H' := Aside0.mk H
                    clear H
                    go_wp2
                    go_meet
                    case rel => exact ⟨_, (((bt a0 a1) == 124)), (by first | rfl | (simp; done) | (simp [*]; done)), H', ⟨by have := HJ2.out; first | omega | exact Nat.le_refl _⟩, ⟨by (with_reducible repeat (first | refine blk_drewN ?_ _ | refine blk_drew ?_ | refine blk_alloc ?_ _)); exact BK205.out⟩, ⟨by repeat (first | (with_reducible first | exact HB.out | apply below_alloc | apply pw_below_drewN | apply below_drew1 | refine below_set ?_ GE205.out) | exact HB.out)⟩⟩
                   ·rw [if_neg c30] at H
                    have c30b0 : ((bt a0 a1) == 124) = false := beq_eq_false_iff_ne.mpr c30
                    have c30b1 : ((bt a0 a1) != 124) = true := bne_iff_ne.mpr c30
                    have H' := Aside0.mk H
                    clear H
                    go_wp2
                    go_meet
                    case rel => exact ⟨_, (((bt a0 a1) == 125)), (by first | rfl | (simp; done) | (simp [*]; done)), H', ⟨by have := HJ2.out; first | omega | exact Nat.le_refl _⟩, ⟨by (with_reducible repeat (first | refine blk_drewN ?_ _ | refine blk_drew ?_ | refine blk_alloc ?_ _)); exact BK205.out⟩, ⟨by repeat (first | (with_reducible first | exact HB.out | apply below_alloc | apply pw_below_drewN | apply below_drew1 | refine below_set ?_ GE205.out) | exact HB.out)⟩⟩
       case rest =>
        clear HC18
        try clear c1
        try clear p1
        try clear q1
        try clear hx1
        try clear c2
        try clear p2
        try clear c3
        try clear c5
        try clear c5b0
        try clear c6
        try clear c7
        try clear c8
        try clear c8b0
        try clear c9
        try clear c9b0
        try clear p10
        try clear q10
        try clear hx10
        try clear c12
        try clear p17
        try clear q17
        try clear hx17
        try clear c19
        try clear c19b0
        try clear c19b1
        try clear c20
        try clear c20b0
        try clear c20b1
        try clear c21
        try clear c21b0
        try clear c21b1
        try clear c22
        try clear c22b0
        try clear c22b1
        try clear c23
        try clear c23b0
        try clear c23b1
        try clear c24
        try clear c24b0
        try clear c24b1
        try clear c25
        try clear c25b0
        try clear c25b1
        try clear c26
        try clear c26b0
        try clear c26b1
        try clear c27
        try clear c27b0
        try clear c27b1
        try clear c28
        try clear c28b0
        try clear c28b1
        try clear c29
        try clear c29b0
        try clear c29b1
        try clear c30
        try clear c30b0
        try clear c30b1
        try clear hcz16_0
        try clear hcz16_1
        try clear hcz16_2
        try clear hcz16_3
        try clear hcz7_0
        try clear hcz7_1
        try clear hcz7_2
        try clear hcz7_3
        try clear hfz16_0
        try clear hfz16_1
        try clear hfz16_2
        try clear hfz16_3
        try clear hfz7_0
        try clear hfz7_1
        try clear hfz7_2
        try clear hfz7_3
        try clear p10
        try clear p17
        try clear p2
        try clear q10
        try clear q17
        obtain ⟨kq, x41_17, rfl, HA, HJ17, BK205, HB⟩ := hcut
        cases kq with
        | zero => exact absurd HA.out (by simp [copperplateref09_One.j1])
        | succ kj17 =>
         have H := HA.out
         clear HA
         simp only [copperplateref09_One.j1] at H
         by_cases c31 : x41_17 = true
         ·subst c31
          have H1 : ((copperplateref09_tok.f a0 1 a1 (wrap64 (a1 + 1))).bind fun bt212 => (some (bt212.1, bt212.2.1, bt212.2.2.1, bt212.2.2.2, 0, wrap64 (a1 + 1)))) = some (r1, r2, r3, r4, r5, r6) := by rw [if_pos rfl] at H; exact H
          clear H
          have H := H1
          clear H1
          replace H := Option.bind_eq_some_iff.mp H
          obtain ⟨⟨t212, t213, t214, t215⟩, A320, H⟩ := H
          replace H : (some (t212, t213, t214, t215, 0, wrap64 (a1 + 1))) = some (r1, r2, r3, r4, r5, r6) := H
          have A32 := Aside0.mk A320
          clear A320
          simp only [Option.some.injEq, Prod.mk.injEq] at H
          obtain ⟨rfl, rfl, rfl, rfl, rfl, rfl⟩ := H
          go_wp2_with (first | ((with_reducible refine gate_callee (f := 25) rfl ?_); refine goesL_ (some 59) rfl rfl Tryz.func25 (by kernel_rfl) rfl #[.string a0, .int .i64 1, .int .i64 a1, .int .i64 (wrap64 (a1 + 1))] rfl gz ?_; (with_reducible refine (copperplateref09_tok.calls a0 1 a1 (wrap64 (a1 + 1)) t212 t213 t214 t215 _ A32.out).mono ?_); rintro e w33 ⟨rfl, hb⟩; refine ⟨_, rfl, ?_⟩; have n0_ := Aside0.mk (blk_below (g := gb205) (o := .cells #[.int .i64 0, .string (⟨#[]⟩ : ByteArray), .int .i64 0, .int .i64 0] 26 (0, 0)) (by (with_reducible repeat (first | refine blk_drewN ?_ _ | refine blk_drew ?_ | refine blk_alloc ?_ _)); exact BK205.out) hb); have n1_ := Aside0.mk (below_step (by repeat (first | (with_reducible first | exact HB.out | apply below_alloc | apply pw_below_drewN | apply below_drew1 | refine below_set ?_ GE205.out) | exact HB.out)) hb); clear BK205; clear HB; have BK205 := n0_; have HB := n1_; clear n0_ n1_; (try clear hb); (try clear hb2); (try clear hk); (try clear hi); have hcz34_0 : w33.cell? ⟨gb205, 0, none⟩ = some (.int .i64 0) := (blk_cell BK205.out 0).trans rfl; have hcz34_1 : w33.cell? ⟨gb205, 1, none⟩ = some (.string (⟨#[]⟩ : ByteArray)) := (blk_cell BK205.out 1).trans rfl; have hcz34_2 : w33.cell? ⟨gb205, 2, none⟩ = some (.int .i64 0) := (blk_cell BK205.out 2).trans rfl; have hcz34_3 : w33.cell? ⟨gb205, 3, none⟩ = some (.int .i64 0) := (blk_cell BK205.out 3).trans rfl; have hfz34_0 := blk_frozen BK205.out 0; have hfz34_1 := blk_frozen BK205.out 1; have hfz34_2 := blk_frozen BK205.out 2; have hfz34_3 := blk_frozen BK205.out 3))
          refine bodyPost_ret (results_ctt rfl _ _ gb205 26 #[.int .i64 t212, .string t213, .int .i64 t214, .int .i64 t215] (0, 0) _ rfl (by (with_reducible repeat (first | refine blk_drewN ?_ _ | refine blk_drew ?_ | refine blk_alloc ?_ _)); refine blk_put (cs := #[.int .i64 t212, .string t213, .int .i64 t214, .int .i64 0]) ?_ 3 _ rfl; (with_reducible repeat (first | refine blk_drewN ?_ _ | refine blk_drew ?_ | refine blk_alloc ?_ _)); refine blk_put (cs := #[.int .i64 t212, .string t213, .int .i64 0, .int .i64 0]) ?_ 2 _ rfl; (with_reducible repeat (first | refine blk_drewN ?_ _ | refine blk_drew ?_ | refine blk_alloc ?_ _)); refine blk_put (cs := #[.int .i64 t212, .string (⟨#[]⟩ : ByteArray), .int .i64 0, .int .i64 0]) ?_ 1 _ rfl; (with_reducible repeat (first | refine blk_drewN ?_ _ | refine blk_drew ?_ | refine blk_alloc ?_ _)); refine blk_put (cs := #[.int .i64 0, .string (⟨#[]⟩ : ByteArray), .int .i64 0, .int .i64 0]) ?_ 0 _ rfl; (with_reducible repeat (first | refine blk_drewN ?_ _ | refine blk_drew ?_ | refine blk_alloc ?_ _)); exact BK205.out) Tryz.underlying26 rfl (by kernel_rfl)) rfl ?_
          exact ⟨by first | rfl | (simp [errW_none, errW_some] <;> rfl) | (simp [*, errW_none, errW_some] <;> rfl), by repeat (first | (with_reducible first | exact HB.out | apply below_alloc | apply pw_below_drewN | apply below_drew1 | refine below_set ?_ GE205.out) | exact HB.out)⟩
         ·replace c31 := Bool.eq_false_iff.mpr c31
          subst c31
          have H1 : (if (bt a0 a1) = 46 then (if (wrap64 ((a0.size : Int) - a1)) ≥ 3 then (if 0 ≤ a1 then (if a1 ≤ (wrap64 (a1 + 3)) then (if (wrap64 (a1 + 3)) ≤ (a0.size : Int) then (if (a0.extract (a1 : Int).toNat ((wrap64 (a1 + 3)) : Int).toNat).toList = ([46, 46, 46] : List UInt8) then ((copperplateref09_tok.f a0 1 a1 (wrap64 (a1 + 3))).bind fun bt216 => (some (bt216.1, bt216.2.1, bt216.2.2.1, bt216.2.2.2, 0, wrap64 (a1 + 3)))) else (some (0, (⟨#[]⟩ : ByteArray), 0, 0, 2, a1))) else (none)) else (none)) else (none)) else (some (0, (⟨#[]⟩ : ByteArray), 0, 0, 2, a1))) else (if (bt a0 a1) = 45 then (copperplateref09_One.j2 kj17 a0 a1 (bt a0 a1) ((bt a0 a1) == 45)) else (if (bt a0 a1) = 48 then (copperplateref09_One.j2 kj17 a0 a1 (bt a0 a1) ((bt a0 a1) == 48)) else (if (bt a0 a1) = 49 then (copperplateref09_One.j2 kj17 a0 a1 (bt a0 a1) ((bt a0 a1) == 49)) else (if (bt a0 a1) = 50 then (copperplateref09_One.j2 kj17 a0 a1 (bt a0 a1) ((bt a0 a1) == 50)) else (if (bt a0 a1) = 51 then (copperplateref09_One.j2 kj17 a0 a1 (bt a0 a1) ((bt a0 a1) == 51)) else (if (bt a0 a1) = 52 then (copperplateref09_One.j2 kj17 a0 a1 (bt a0 a1) ((bt a0 a1) == 52)) else (if (bt a0 a1) = 53 then (copperplateref09_One.j2 kj17 a0 a1 (bt a0 a1) ((bt a0 a1) == 53)) else (if (bt a0 a1) = 54 then (copperplateref09_One.j2 kj17 a0 a1 (bt a0 a1) ((bt a0 a1) == 54)) else (if (bt a0 a1) = 55 then (copperplateref09_One.j2 kj17 a0 a1 (bt a0 a1) ((bt a0 a1) == 55)) else (if (bt a0 a1) = 56 then (copperplateref09_One.j2 kj17 a0 a1 (bt a0 a1) ((bt a0 a1) == 56)) else (copperplateref09_One.j2 kj17 a0 a1 (bt a0 a1) ((bt a0 a1) == 57))))))))))))) = some (r1, r2, r3, r4, r5, r6) := by rw [if_neg (show ¬ (false = true) by decide)] at H; exact H
          clear H
          have H := H1
          clear H1
          by_cases c35 : (bt a0 a1) = 46
          ·rw [if_pos c35] at H
           have c35b0 : ((bt a0 a1) == 46) = true := beq_iff_eq.mpr c35
           have c35b1 : ((bt a0 a1) != 46) = false := bne_eq_false_iff_eq.mpr c35
           clear c35
           by_cases c36 : (wrap64 ((a0.size : Int) - a1)) ≥ 3
           ·rw [if_pos c36] at H
            have c36b0 : decide (3 ≤ (wrap64 ((a0.size : Int) - a1))) = true := decide_eq_true c36
            clear c36
            by_cases c37 : 0 ≤ a1
            ·rw [if_pos c37] at H
             have c37b0 := eq_true c37
             have c37b1 : decide (0 ≤ a1) = true := decide_eq_true c37
             clear c37
             by_cases c38 : a1 ≤ (wrap64 (a1 + 3))
             ·rw [if_pos c38] at H
              have c38b0 := eq_true c38
              have c38b1 : decide (a1 ≤ (wrap64 (a1 + 3))) = true := decide_eq_true c38
              by_cases c39 : (wrap64 (a1 + 3)) ≤ (a0.size : Int)
              ·rw [if_pos c39] at H
               have c39b0 := eq_true c39
               have c39b1 : decide ((wrap64 (a1 + 3)) ≤ (a0.size : Int)) = true := decide_eq_true c39
               by_cases c40 : (a0.extract (a1 : Int).toNat ((wrap64 (a1 + 3)) : Int).toNat).toList = ([46, 46, 46] : List UInt8)
               ·rw [if_pos c40] at H
                have c40b0 : ((a0.extract (a1 : Int).toNat ((wrap64 (a1 + 3)) : Int).toNat).toList == ([46, 46, 46] : List UInt8)) = true := beq_iff_eq.mpr c40
                have c40b1 : ((a0.extract (a1 : Int).toNat ((wrap64 (a1 + 3)) : Int).toNat).toList != ([46, 46, 46] : List UInt8)) = false := bne_eq_false_iff_eq.mpr c40
                clear c40
                replace H := Option.bind_eq_some_iff.mp H
                obtain ⟨⟨t216, t217, t218, t219⟩, A410, H⟩ := H
                replace H : (some (t216, t217, t218, t219, 0, wrap64 (a1 + 3))) = some (r1, r2, r3, r4, r5, r6) := H
                have A41 := Aside0.mk A410
                clear A410
                simp only [Option.some.injEq, Prod.mk.injEq] at H
                obtain ⟨rfl, rfl, rfl, rfl, rfl, rfl⟩ := H
                go_wp2_with (first | ((with_reducible refine gate_callee (f := 25) rfl ?_); refine goesL_ (some 81) rfl rfl Tryz.func25 (by kernel_rfl) rfl #[.string a0, .int .i64 1, .int .i64 a1, .int .i64 (wrap64 (a1 + 3))] rfl gz ?_; (with_reducible refine (copperplateref09_tok.calls a0 1 a1 (wrap64 (a1 + 3)) t216 t217 t218 t219 _ A41.out).mono ?_); rintro e w42 ⟨rfl, hb⟩; refine ⟨_, rfl, ?_⟩; have n0_ := Aside0.mk (blk_below (g := gb205) (o := .cells #[.int .i64 0, .string (⟨#[]⟩ : ByteArray), .int .i64 0, .int .i64 0] 26 (0, 0)) (by (with_reducible repeat (first | refine blk_drewN ?_ _ | refine blk_drew ?_ | refine blk_alloc ?_ _)); exact BK205.out) hb); have n1_ := Aside0.mk (below_step (by repeat (first | (with_reducible first | exact HB.out | apply below_alloc | apply pw_below_drewN | apply below_drew1 | refine below_set ?_ GE205.out) | exact HB.out)) hb); clear BK205; clear HB; have BK205 := n0_; have HB := n1_; clear n0_ n1_; (try clear hb); (try clear hb2); (try clear hk); (try clear hi); have hcz43_0 : w42.cell? ⟨gb205, 0, none⟩ = some (.int .i64 0) := (blk_cell BK205.out 0).trans rfl; have hcz43_1 : w42.cell? ⟨gb205, 1, none⟩ = some (.string (⟨#[]⟩ : ByteArray)) := (blk_cell BK205.out 1).trans rfl; have hcz43_2 : w42.cell? ⟨gb205, 2, none⟩ = some (.int .i64 0) := (blk_cell BK205.out 2).trans rfl; have hcz43_3 : w42.cell? ⟨gb205, 3, none⟩ = some (.int .i64 0) := (blk_cell BK205.out 3).trans rfl; have hfz43_0 := blk_frozen BK205.out 0; have hfz43_1 := blk_frozen BK205.out 1; have hfz43_2 := blk_frozen BK205.out 2; have hfz43_3 := blk_frozen BK205.out 3))
                refine bodyPost_ret (results_ctt rfl _ _ gb205 26 #[.int .i64 t216, .string t217, .int .i64 t218, .int .i64 t219] (0, 0) _ rfl (by (with_reducible repeat (first | refine blk_drewN ?_ _ | refine blk_drew ?_ | refine blk_alloc ?_ _)); refine blk_put (cs := #[.int .i64 t216, .string t217, .int .i64 t218, .int .i64 0]) ?_ 3 _ rfl; (with_reducible repeat (first | refine blk_drewN ?_ _ | refine blk_drew ?_ | refine blk_alloc ?_ _)); refine blk_put (cs := #[.int .i64 t216, .string t217, .int .i64 0, .int .i64 0]) ?_ 2 _ rfl; (with_reducible repeat (first | refine blk_drewN ?_ _ | refine blk_drew ?_ | refine blk_alloc ?_ _)); refine blk_put (cs := #[.int .i64 t216, .string (⟨#[]⟩ : ByteArray), .int .i64 0, .int .i64 0]) ?_ 1 _ rfl; (with_reducible repeat (first | refine blk_drewN ?_ _ | refine blk_drew ?_ | refine blk_alloc ?_ _)); refine blk_put (cs := #[.int .i64 0, .string (⟨#[]⟩ : ByteArray), .int .i64 0, .int .i64 0]) ?_ 0 _ rfl; (with_reducible repeat (first | refine blk_drewN ?_ _ | refine blk_drew ?_ | refine blk_alloc ?_ _)); exact BK205.out) Tryz.underlying26 rfl (by kernel_rfl)) rfl ?_
                exact ⟨by first | rfl | (simp [errW_none, errW_some] <;> rfl) | (simp [*, errW_none, errW_some] <;> rfl), by repeat (first | (with_reducible first | exact HB.out | apply below_alloc | apply pw_below_drewN | apply below_drew1 | refine below_set ?_ GE205.out) | exact HB.out)⟩
               ·rw [if_neg c40] at H
                have c40b0 : ((a0.extract (a1 : Int).toNat ((wrap64 (a1 + 3)) : Int).toNat).toList == ([46, 46, 46] : List UInt8)) = false := beq_eq_false_iff_ne.mpr c40
                have c40b1 : ((a0.extract (a1 : Int).toNat ((wrap64 (a1 + 3)) : Int).toNat).toList != ([46, 46, 46] : List UInt8)) = true := bne_iff_ne.mpr c40
                simp only [Option.some.injEq, Prod.mk.injEq] at H
                obtain ⟨rfl, rfl, rfl, rfl, rfl, rfl⟩ := H
                have hcz44_0 : wc.cell? ⟨gb205, 0, none⟩ = some (.int .i64 0) := (blk_cell BK205.out 0).trans rfl
                have hcz44_1 : wc.cell? ⟨gb205, 1, none⟩ = some (.string (⟨#[]⟩ : ByteArray)) := (blk_cell BK205.out 1).trans rfl
                have hcz44_2 : wc.cell? ⟨gb205, 2, none⟩ = some (.int .i64 0) := (blk_cell BK205.out 2).trans rfl
                have hcz44_3 : wc.cell? ⟨gb205, 3, none⟩ = some (.int .i64 0) := (blk_cell BK205.out 3).trans rfl
                have hfz44_0 := blk_frozen BK205.out 0
                have hfz44_1 := blk_frozen BK205.out 1
                have hfz44_2 := blk_frozen BK205.out 2
                have hfz44_3 := blk_frozen BK205.out 3
                go_wp2
                refine bodyPost_ret (results_ctt rfl _ _ gb205 26 #[.int .i64 0, .string (⟨#[]⟩ : ByteArray), .int .i64 0, .int .i64 0] (0, 0) _ rfl (by (with_reducible repeat (first | refine blk_drewN ?_ _ | refine blk_drew ?_ | refine blk_alloc ?_ _)); refine blk_put (cs := #[.int .i64 0, .string (⟨#[]⟩ : ByteArray), .int .i64 0, .int .i64 0]) ?_ 3 _ rfl; (with_reducible repeat (first | refine blk_drewN ?_ _ | refine blk_drew ?_ | refine blk_alloc ?_ _)); refine blk_put (cs := #[.int .i64 0, .string (⟨#[]⟩ : ByteArray), .int .i64 0, .int .i64 0]) ?_ 2 _ rfl; (with_reducible repeat (first | refine blk_drewN ?_ _ | refine blk_drew ?_ | refine blk_alloc ?_ _)); refine blk_put (cs := #[.int .i64 0, .string (⟨#[]⟩ : ByteArray), .int .i64 0, .int .i64 0]) ?_ 1 _ rfl; (with_reducible repeat (first | refine blk_drewN ?_ _ | refine blk_drew ?_ | refine blk_alloc ?_ _)); refine blk_put (cs := #[.int .i64 0, .string (⟨#[]⟩ : ByteArray), .int .i64 0, .int .i64 0]) ?_ 0 _ rfl; (with_reducible repeat (first | refine blk_drewN ?_ _ | refine blk_drew ?_ | refine blk_alloc ?_ _)); exact BK205.out) Tryz.underlying26 rfl (by kernel_rfl)) rfl ?_
                exact ⟨by first | rfl | (simp [errW_none, errW_some] <;> rfl) | (simp [*, errW_none, errW_some] <;> rfl), by repeat (first | (with_reducible first | exact HB.out | apply below_alloc | apply pw_below_drewN | apply below_drew1 | refine below_set ?_ GE205.out) | exact HB.out)⟩
              ·rw [if_neg c39] at H
               exact absurd H (by simp)
             ·rw [if_neg c38] at H
              exact absurd H (by simp)
            ·rw [if_neg c37] at H
             exact absurd H (by simp)
           ·rw [if_neg c36] at H
            have c36b0 : decide (3 ≤ (wrap64 ((a0.size : Int) - a1))) = false := decide_eq_false c36
            clear c36
            simp only [Option.some.injEq, Prod.mk.injEq] at H
            obtain ⟨rfl, rfl, rfl, rfl, rfl, rfl⟩ := H
            have hcz45_0 : wc.cell? ⟨gb205, 0, none⟩ = some (.int .i64 0) := (blk_cell BK205.out 0).trans rfl
            have hcz45_1 : wc.cell? ⟨gb205, 1, none⟩ = some (.string (⟨#[]⟩ : ByteArray)) := (blk_cell BK205.out 1).trans rfl
            have hcz45_2 : wc.cell? ⟨gb205, 2, none⟩ = some (.int .i64 0) := (blk_cell BK205.out 2).trans rfl
            have hcz45_3 : wc.cell? ⟨gb205, 3, none⟩ = some (.int .i64 0) := (blk_cell BK205.out 3).trans rfl
            have hfz45_0 := blk_frozen BK205.out 0
            have hfz45_1 := blk_frozen BK205.out 1
            have hfz45_2 := blk_frozen BK205.out 2
            have hfz45_3 := blk_frozen BK205.out 3
            go_wp2
            refine bodyPost_ret (results_ctt rfl _ _ gb205 26 #[.int .i64 0, .string (⟨#[]⟩ : ByteArray), .int .i64 0, .int .i64 0] (0, 0) _ rfl (by (with_reducible repeat (first | refine blk_drewN ?_ _ | refine blk_drew ?_ | refine blk_alloc ?_ _)); refine blk_put (cs := #[.int .i64 0, .string (⟨#[]⟩ : ByteArray), .int .i64 0, .int .i64 0]) ?_ 3 _ rfl; (with_reducible repeat (first | refine blk_drewN ?_ _ | refine blk_drew ?_ | refine blk_alloc ?_ _)); refine blk_put (cs := #[.int .i64 0, .string (⟨#[]⟩ : ByteArray), .int .i64 0, .int .i64 0]) ?_ 2 _ rfl; (with_reducible repeat (first | refine blk_drewN ?_ _ | refine blk_drew ?_ | refine blk_alloc ?_ _)); refine blk_put (cs := #[.int .i64 0, .string (⟨#[]⟩ : ByteArray), .int .i64 0, .int .i64 0]) ?_ 1 _ rfl; (with_reducible repeat (first | refine blk_drewN ?_ _ | refine blk_drew ?_ | refine blk_alloc ?_ _)); refine blk_put (cs := #[.int .i64 0, .string (⟨#[]⟩ : ByteArray), .int .i64 0, .int .i64 0]) ?_ 0 _ rfl; (with_reducible repeat (first | refine blk_drewN ?_ _ | refine blk_drew ?_ | refine blk_alloc ?_ _)); exact BK205.out) Tryz.underlying26 rfl (by kernel_rfl)) rfl ?_
            exact ⟨by first | rfl | (simp [errW_none, errW_some] <;> rfl) | (simp [*, errW_none, errW_some] <;> rfl), by repeat (first | (with_reducible first | exact HB.out | apply below_alloc | apply pw_below_drewN | apply below_drew1 | refine below_set ?_ GE205.out) | exact HB.out)⟩
          ·rw [if_neg c35] at H
           have c35b0 : ((bt a0 a1) == 46) = false := beq_eq_false_iff_ne.mpr c35
           have c35b1 : ((bt a0 a1) != 46) = true := bne_iff_ne.mpr c35
           have HC46 := Aside0.mk H
           clear H
           go_upto_if 84 with (fail)
           go_cut [84] (fun v84 wc => ∃ (kq : Nat) (x84_45 : Bool), v84 = .bool x84_45 ∧ Aside0 (copperplateref09_One.j2 kq a0 a1 (bt a0 a1) x84_45 = some (r1, r2, r3, r4, r5, r6)) ∧ Aside0 (kq ≤ kj17) ∧ Aside0 (wc.heap[gb205]? = some (.cells #[.int .i64 0, .string (⟨#[]⟩ : ByteArray), .int .i64 0, .int .i64 0] 26 (0, 0))) ∧ Aside0 (Below w.heap.size w wc))
           case first =>
            have H := HC46.out
            clear HC46
            by_cases c47 : (bt a0 a1) = 45
            ·rw [if_pos c47] at H
             have c47b0 : ((bt a0 a1) == 45) = true := beq_iff_eq.mpr c47
             have c47b1 : ((bt a0 a1) != 45) = false := bne_eq_false_iff_eq.mpr c47
             clear c47
             (first | rw [c47b0] | (simp only [i64_w, i32_w]; rw [c47b0]) | skip)
             have H' := Aside0.mk H
             clear H
             go_wp2
             go_meet
             case rel => exact ⟨_, (((bt a0 a1) == 45)), (by first | rfl | (simp; done) | (simp [*]; done)), H', ⟨by have := HJ2.out; have := HJ17.out; first | omega | exact Nat.le_refl _⟩, ⟨by (with_reducible repeat (first | refine blk_drewN ?_ _ | refine blk_drew ?_ | refine blk_alloc ?_ _)); exact BK205.out⟩, ⟨by repeat (first | (with_reducible first | exact HB.out | apply below_alloc | apply pw_below_drewN | apply below_drew1 | refine below_set ?_ GE205.out) | exact HB.out)⟩⟩
            ·rw [if_neg c47] at H
             have c47b0 : ((bt a0 a1) == 45) = false := beq_eq_false_iff_ne.mpr c47
             have c47b1 : ((bt a0 a1) != 45) = true := bne_iff_ne.mpr c47
             (first | rw [c47b0] | (simp only [i64_w, i32_w]; rw [c47b0]) | skip)
             by_cases c48 : (bt a0 a1) = 48
             ·rw [if_pos c48] at H
              have c48b0 : ((bt a0 a1) == 48) = true := beq_iff_eq.mpr c48
              have c48b1 : ((bt a0 a1) != 48) = false := bne_eq_false_iff_eq.mpr c48
              clear c48
              have H' := Aside0.mk H
              clear H
              go_wp2
              go_meet
              case rel => exact ⟨_, (((bt a0 a1) == 48)), (by first | rfl | (simp; done) | (simp [*]; done)), H', ⟨by have := HJ2.out; have := HJ17.out; first | omega | exact Nat.le_refl _⟩, ⟨by (with_reducible repeat (first | refine blk_drewN ?_ _ | refine blk_drew ?_ | refine blk_alloc ?_ _)); exact BK205.out⟩, ⟨by repeat (first | (with_reducible first | exact HB.out | apply below_alloc | apply pw_below_drewN | apply below_drew1 | refine below_set ?_ GE205.out) | exact HB.out)⟩⟩
             ·rw [if_neg c48] at H
              have c48b0 : ((bt a0 a1) == 48) = false := beq_eq_false_iff_ne.mpr c48
              have c48b1 : ((bt a0 a1) != 48) = true := bne_iff_ne.mpr c48
              by_cases c49 : (bt a0 a1) = 49
              ·rw [if_pos c49] at H
               have c49b0 : ((bt a0 a1) == 49) = true := beq_iff_eq.mpr c49
               have c49b1 : ((bt a0 a1) != 49) = false := bne_eq_false_iff_eq.mpr c49
               clear c49
               have H' := Aside0.mk H
               clear H
               go_wp2
               go_meet
               case rel => exact ⟨_, (((bt a0 a1) == 49)), (by first | rfl | (simp; done) | (simp [*]; done)), H', ⟨by have := HJ2.out; have := HJ17.out; first | omega | exact Nat.le_refl _⟩, ⟨by (with_reducible repeat (first | refine blk_drewN ?_ _ | refine blk_drew ?_ | refine blk_alloc ?_ _)); exact BK205.out⟩, ⟨by repeat (first | (with_reducible first | exact HB.out | apply below_alloc | apply pw_below_drewN | apply below_drew1 | refine below_set ?_ GE205.out) | exact HB.out)⟩⟩
              ·rw [if_neg c49] at H
               have c49b0 : ((bt a0 a1) == 49) = false := beq_eq_false_iff_ne.mpr c49
               have c49b1 : ((bt a0 a1) != 49) = true := bne_iff_ne.mpr c49
               by_cases c50 : (bt a0 a1) = 50
               ·rw [if_pos c50] at H
                have c50b0 : ((bt a0 a1) == 50) = true := beq_iff_eq.mpr c50
                have c50b1 : ((bt a0 a1) != 50) = false := bne_eq_false_iff_eq.mpr c50
                clear c50
                have H' := Aside0.mk H
                clear H
                go_wp2
                go_meet
                case rel => exact ⟨_, (((bt a0 a1) == 50)), (by first | rfl | (simp; done) | (simp [*]; done)), H', ⟨by have := HJ2.out; have := HJ17.out; first | omega | exact Nat.le_refl _⟩, ⟨by (with_reducible repeat (first | refine blk_drewN ?_ _ | refine blk_drew ?_ | refine blk_alloc ?_ _)); exact BK205.out⟩, ⟨by repeat (first | (with_reducible first | exact HB.out | apply below_alloc | apply pw_below_drewN | apply below_drew1 | refine below_set ?_ GE205.out) | exact HB.out)⟩⟩
               ·rw [if_neg c50] at H
                have c50b0 : ((bt a0 a1) == 50) = false := beq_eq_false_iff_ne.mpr c50
                have c50b1 : ((bt a0 a1) != 50) = true := bne_iff_ne.mpr c50
                by_cases c51 : (bt a0 a1) = 51
                ·rw [if_pos c51] at H
                 have c51b0 : ((bt a0 a1) == 51) = true := beq_iff_eq.mpr c51
                 have c51b1 : ((bt a0 a1) != 51) = false := bne_eq_false_iff_eq.mpr c51
                 clear c51
                 have H' := Aside0.mk H
                 clear H
                 go_wp2
                 go_meet
                 case rel => exact ⟨_, (((bt a0 a1) == 51)), (by first | rfl | (simp; done) | (simp [*]; done)), H', ⟨by have := HJ2.out; have := HJ17.out; first | omega | exact Nat.le_refl _⟩, ⟨by (with_reducible repeat (first | refine blk_drewN ?_ _ | refine blk_drew ?_ | refine blk_alloc ?_ _)); exact BK205.out⟩, ⟨by repeat (first | (with_reducible first | exact HB.out | apply below_alloc | apply pw_below_drewN | apply below_drew1 | refine below_set ?_ GE205.out) | exact HB.out)⟩⟩
                ·rw [if_neg c51] at H
                 have c51b0 : ((bt a0 a1) == 51) = false := beq_eq_false_iff_ne.mpr c51
                 have c51b1 : ((bt a0 a1) != 51) = true := bne_iff_ne.mpr c51
                 by_cases c52 : (bt a0 a1) = 52
                 ·rw [if_pos c52] at H
                  have c52b0 : ((bt a0 a1) == 52) = true := beq_iff_eq.mpr c52
                  have c52b1 : ((bt a0 a1) != 52) = false := bne_eq_false_iff_eq.mpr c52
                  clear c52
                  have H' := Aside0.mk H
                  clear H
                  go_wp2
                  go_meet
                  case rel => exact ⟨_, (((bt a0 a1) == 52)), (by first | rfl | (simp; done) | (simp [*]; done)), H', ⟨by have := HJ2.out; have := HJ17.out; first | omega | exact Nat.le_refl _⟩, ⟨by (with_reducible repeat (first | refine blk_drewN ?_ _ | refine blk_drew ?_ | refine blk_alloc ?_ _)); exact BK205.out⟩, ⟨by repeat (first | (with_reducible first | exact HB.out | apply below_alloc | apply pw_below_drewN | apply below_drew1 | refine below_set ?_ GE205.out) | exact HB.out)⟩⟩
                 ·rw [if_neg c52] at H
                  have c52b0 : ((bt a0 a1) == 52) = false := beq_eq_false_iff_ne.mpr c52
                  have c52b1 : ((bt a0 a1) != 52) = true := bne_iff_ne.mpr c52
                  by_cases c53 : (bt a0 a1) = 53
                  ·rw [if_pos c53] at H
                   have c53b0 : ((bt a0 a1) == 53) = true := beq_iff_eq.mpr c53
                   have c53b1 : ((bt a0 a1) != 53) = false := bne_eq_false_iff_eq.mpr c53
                   clear c53
                   have H' := Aside0.mk H
                   clear H
                   go_wp2
                   go_meet
                   case rel => exact ⟨_, (((bt a0 a1) == 53)), (by first | rfl | (simp; done) | (simp [*]; done)), H', ⟨by have := HJ2.out; have := HJ17.out; first | omega | exact Nat.le_refl _⟩, ⟨by (with_reducible repeat (first | refine blk_drewN ?_ _ | refine blk_drew ?_ | refine blk_alloc ?_ _)); exact BK205.out⟩, ⟨by repeat (first | (with_reducible first | exact HB.out | apply below_alloc | apply pw_below_drewN | apply below_drew1 | refine below_set ?_ GE205.out) | exact HB.out)⟩⟩
                  ·rw [if_neg c53] at H
                   have c53b0 : ((bt a0 a1) == 53) = false := beq_eq_false_iff_ne.mpr c53
                   have c53b1 : ((bt a0 a1) != 53) = true := bne_iff_ne.mpr c53
                   by_cases c54 : (bt a0 a1) = 54
                   ·rw [if_pos c54] at H
                    have c54b0 : ((bt a0 a1) == 54) = true := beq_iff_eq.mpr c54
                    have c54b1 : ((bt a0 a1) != 54) = false := bne_eq_false_iff_eq.mpr c54
                    clear c54
                    have H' := Aside0.mk H
                    clear H
                    go_wp2
                    go_meet
                    case rel => exact ⟨_, (((bt a0 a1) == 54)), (by first | rfl | (simp; done) | (simp [*]; done)), H', ⟨by have := HJ2.out; have := HJ17.out; first | omega | exact Nat.le_refl _⟩, ⟨by (with_reducible repeat (first | refine blk_drewN ?_ _ | refine blk_drew ?_ | refine blk_alloc ?_ _)); exact BK205.out⟩, ⟨by repeat (first | (with_reducible first | exact HB.out | apply below_alloc | apply pw_below_drewN | apply below_drew1 | refine below_set ?_ GE205.out) | exact HB.out)⟩⟩
                   ·rw [if_neg c54] at H
                    have c54b0 : ((bt a0 a1) == 54) = false := beq_eq_false_iff_ne.mpr c54
                    have c54b1 : ((bt a0 a1) != 54) = true := bne_iff_ne.mpr c54
                    by_cases c55 : (bt a0 a1) = 55
                    ·rw [if_pos c55] at H
                     have c55b0 : ((bt a0 a1) == 55) = true := beq_iff_eq.mpr c55
                     have c55b1 : ((bt a0 a1) != 55) = false := bne_eq_false_iff_eq.mpr c55
                     clear c55
                     have H' := Aside0.mk H
                     clear H
                     go_wp2
                     go_meet
                     case rel => exact ⟨_, (((bt a0 a1) == 55)), (by first | rfl | (simp; done) | (simp [*]; done)), H', ⟨by have := HJ2.out; have := HJ17.out; first | omega | exact Nat.le_refl _⟩, ⟨by (with_reducible repeat (first | refine blk_drewN ?_ _ | refine blk_drew ?_ | refine blk_alloc ?_ _)); exact BK205.out⟩, ⟨by repeat (first | (with_reducible first | exact HB.out | apply below_alloc | apply pw_below_drewN | apply below_drew1 | refine below_set ?_ GE205.out) | exact HB.out)⟩⟩
                    ·rw [if_neg c55] at H
                     have c55b0 : ((bt a0 a1) == 55) = false := beq_eq_false_iff_ne.mpr c55
                     have c55b1 : ((bt a0 a1) != 55) = true := bne_iff_ne.mpr c55
                     by_cases c56 : (bt a0 a1) = 56
                     ·rw [if_pos c56] at H
                      have c56b0 : ((bt a0 a1) == 56) = true := beq_iff_eq.mpr c56
                      have c56b1 : ((bt a0 a1) != 56) = false := bne_eq_false_iff_eq.mpr c56
                      clear c56
                      have H' := Aside0.mk H
                      clear H
                      go_wp2
                      go_meet
                      case rel => exact ⟨_, (((bt a0 a1) == 56)), (by first | rfl | (simp; done) | (simp [*]; done)), H', ⟨by have := HJ2.out; have := HJ17.out; first | omega | exact Nat.le_refl _⟩, ⟨by (with_reducible repeat (first | refine blk_drewN ?_ _ | refine blk_drew ?_ | refine blk_alloc ?_ _)); exact BK205.out⟩, ⟨by repeat (first | (with_reducible first | exact HB.out | apply below_alloc | apply pw_below_drewN | apply below_drew1 | refine below_set ?_ GE205.out) | exact HB.out)⟩⟩
                     ·rw [if_neg c56] at H
                      have c56b0 : ((bt a0 a1) == 56) = false := beq_eq_false_iff_ne.mpr c56
                      have c56b1 : ((bt a0 a1) != 56) = true := bne_iff_ne.mpr c56
                      have H' := Aside0.mk H
                      clear H
                      go_wp2
                      go_meet
                      case rel => exact ⟨_, (((bt a0 a1) == 57)), (by first | rfl | (simp; done) | (simp [*]; done)), H', ⟨by have := HJ2.out; have := HJ17.out; first | omega | exact Nat.le_refl _⟩, ⟨by (with_reducible repeat (first | refine blk_drewN ?_ _ | refine blk_drew ?_ | refine blk_alloc ?_ _)); exact BK205.out⟩, ⟨by repeat (first | (with_reducible first | exact HB.out | apply below_alloc | apply pw_below_drewN | apply below_drew1 | refine below_set ?_ GE205.out) | exact HB.out)⟩⟩
           case rest =>
            clear HC46
            try clear c1
            try clear p1
            try clear q1
            try clear hx1
            try clear c2
            try clear p2
            try clear c3
            try clear c4
            try clear c5
            try clear c5b0
            try clear c6
            try clear p6
            try clear c7
            try clear c8
            try clear c8b0
            try clear c9
            try clear c9b0
            try clear p10
            try clear q10
            try clear hx10
            try clear c12
            try clear p17
            try clear q17
            try clear hx17
            try clear c19
            try clear c19b0
            try clear c19b1
            try clear c20
            try clear c20b0
            try clear c20b1
            try clear c21
            try clear c21b0
            try clear c21b1
            try clear c22
            try clear c22b0
            try clear c22b1
            try clear c23
            try clear c23b0
            try clear c23b1
            try clear c24
            try clear c24b0
            try clear c24b1
            try clear c25
            try clear c25b0
            try clear c25b1
            try clear c26
            try clear c26b0
            try clear c26b1
            try clear c27
            try clear c27b0
            try clear c27b1
            try clear c28
            try clear c28b0
            try clear c28b1
            try clear c29
            try clear c29b0
            try clear c29b1
            try clear c30
            try clear c30b0
            try clear c30b1
            try clear c31
            try clear c35
            try clear c35b0
            try clear c35b1
            try clear c36
            try clear c36b0
            try clear c37
            try clear c37b0
            try clear c37b1
            try clear c38
            try clear c38b0
            try clear c38b1
            try clear c39
            try clear c39b0
            try clear c39b1
            try clear c40
            try clear c40b0
            try clear c40b1
            try clear c47
            try clear c47b0
            try clear c47b1
            try clear c48
            try clear c48b0
            try clear c48b1
            try clear c49
            try clear c49b0
            try clear c49b1
            try clear c50
            try clear c50b0
            try clear c50b1
            try clear c51
            try clear c51b0
            try clear c51b1
            try clear c52
            try clear c52b0
            try clear c52b1
            try clear c53
            try clear c53b0
            try clear c53b1
            try clear c54
            try clear c54b0
            try clear c54b1
            try clear c55
            try clear c55b0
            try clear c55b1
            try clear c56
            try clear c56b0
            try clear c56b1
            try clear hcz16_0
            try clear hcz16_1
            try clear hcz16_2
            try clear hcz16_3
            try clear hcz34_0
            try clear hcz34_1
            try clear hcz34_2
            try clear hcz34_3
            try clear hcz43_0
            try clear hcz43_1
            try clear hcz43_2
            try clear hcz43_3
            try clear hcz44_0
            try clear hcz44_1
            try clear hcz44_2
            try clear hcz44_3
            try clear hcz45_0
            try clear hcz45_1
            try clear hcz45_2
            try clear hcz45_3
            try clear hcz7_0
            try clear hcz7_1
            try clear hcz7_2
            try clear hcz7_3
            try clear hfz16_0
            try clear hfz16_1
            try clear hfz16_2
            try clear hfz16_3
            try clear hfz34_0
            try clear hfz34_1
            try clear hfz34_2
            try clear hfz34_3
            try clear hfz43_0
            try clear hfz43_1
            try clear hfz43_2
            try clear hfz43_3
            try clear hfz44_0
            try clear hfz44_1
            try clear hfz44_2
            try clear hfz44_3
            try clear hfz45_0
            try clear hfz45_1
            try clear hfz45_2
            try clear hfz45_3
            try clear hfz7_0
            try clear hfz7_1
            try clear hfz7_2
            try clear hfz7_3
            try clear p1
            try clear p10
            try clear p17
            try clear p2
            try clear q1
            try clear q10
            try clear q17
            obtain ⟨kq, x84_45, rfl, HA, HJ45, BK205, HB⟩ := hcut
            cases kq with
            | zero => exact absurd HA.out (by simp [copperplateref09_One.j2])
            | succ kj45 =>
             have H := HA.out
             clear HA
             simp only [copperplateref09_One.j2] at H
             by_cases c57 : x84_45 = true
             ·subst c57
              have H1 : ((copperplateref05_Number.f kj45 a0 a1).bind fun bt220 => (if bt220.2.2 = true then ((copperplateref09_tok.f a0 bt220.1 a1 bt220.2.1).bind fun bt223 => (some (bt223.1, bt223.2.1, bt223.2.2.1, bt223.2.2.2, 0, bt220.2.1))) else (some (0, (⟨#[]⟩ : ByteArray), 0, 0, 3, bt220.2.1)))) = some (r1, r2, r3, r4, r5, r6) := by rw [if_pos rfl] at H; exact H
              clear H
              have H := H1
              clear H1
              replace H := Option.bind_eq_some_iff.mp H
              obtain ⟨⟨t220, t221, t222⟩, A580, H⟩ := H
              replace H : (if t222 = true then ((copperplateref09_tok.f a0 t220 a1 t221).bind fun bt223 => (some (bt223.1, bt223.2.1, bt223.2.2.1, bt223.2.2.2, 0, t221))) else (some (0, (⟨#[]⟩ : ByteArray), 0, 0, 3, t221))) = some (r1, r2, r3, r4, r5, r6) := H
              have A58 := Aside0.mk A580
              clear A580
              by_cases c59 : t222 = true
              ·subst c59
               have H1 : ((copperplateref09_tok.f a0 t220 a1 t221).bind fun bt223 => (some (bt223.1, bt223.2.1, bt223.2.2.1, bt223.2.2.2, 0, t221))) = some (r1, r2, r3, r4, r5, r6) := by rw [if_pos rfl] at H; exact H
               clear H
               have H := H1
               clear H1
               replace H := Option.bind_eq_some_iff.mp H
               obtain ⟨⟨t223, t224, t225, t226⟩, A600, H⟩ := H
               replace H : (some (t223, t224, t225, t226, 0, t221)) = some (r1, r2, r3, r4, r5, r6) := H
               have A60 := Aside0.mk A600
               clear A600
               simp only [Option.some.injEq, Prod.mk.injEq] at H
               obtain ⟨rfl, rfl, rfl, rfl, rfl, rfl⟩ := H
               go_wp2_with (first | ((with_reducible refine gate_callee (f := 26) rfl ?_); refine goesL_ (some 99) rfl rfl Tryz.func26 (by kernel_rfl) rfl #[.string a0, .int .i64 a1] rfl gz ?_; (with_reducible refine (copperplateref05_Number.calls kj45 a0 a1 t220 t221 true _ A58.out).mono ?_); rintro e w' ⟨rfl, ⟨nd, rfl⟩⟩; refine ⟨_, rfl, ?_⟩; (try (rw [drewN_self wc]; generalize hq_ : World.drewN wc _ = wc; have n0_ : Aside0 (wc.heap[gb205]? = some (.cells #[.int .i64 0, .string (⟨#[]⟩ : ByteArray), .int .i64 0, .int .i64 0] 26 (0, 0))) := ⟨by rw [← hq_]; exact (by (with_reducible repeat (first | refine blk_drewN ?_ _ | refine blk_drew ?_ | refine blk_alloc ?_ _)); exact BK205.out)⟩; have n1_ : Aside0 (Below w.heap.size w wc) := ⟨by rw [← hq_]; exact (by repeat (first | (with_reducible first | exact HB.out | apply below_alloc | apply pw_below_drewN | apply below_drew1 | refine below_set ?_ GE205.out) | exact HB.out))⟩; clear BK205 HB hq_; have BK205 := n0_; have HB := n1_; clear n0_ n1_))) | ((with_reducible refine gate_callee (f := 25) rfl ?_); refine goesL_ (some 111) rfl rfl Tryz.func25 (by kernel_rfl) rfl #[.string a0, .int .i64 t220, .int .i64 a1, .int .i64 t221] rfl gz ?_; (with_reducible refine (copperplateref09_tok.calls a0 t220 a1 t221 t223 t224 t225 t226 _ A60.out).mono ?_); rintro e w61 ⟨rfl, hb⟩; refine ⟨_, rfl, ?_⟩; have n0_ := Aside0.mk (blk_below (g := gb205) (o := .cells #[.int .i64 0, .string (⟨#[]⟩ : ByteArray), .int .i64 0, .int .i64 0] 26 (0, 0)) (by (with_reducible repeat (first | refine blk_drewN ?_ _ | refine blk_drew ?_ | refine blk_alloc ?_ _)); exact BK205.out) hb); have n1_ := Aside0.mk (below_step (by repeat (first | (with_reducible first | exact HB.out | apply below_alloc | apply pw_below_drewN | apply below_drew1 | refine below_set ?_ GE205.out) | exact HB.out)) hb); clear BK205; clear HB; have BK205 := n0_; have HB := n1_; clear n0_ n1_; (try clear hb); (try clear hb2); (try clear hk); (try clear hi); have hcz62_0 : w61.cell? ⟨gb205, 0, none⟩ = some (.int .i64 0) := (blk_cell BK205.out 0).trans rfl; have hcz62_1 : w61.cell? ⟨gb205, 1, none⟩ = some (.string (⟨#[]⟩ : ByteArray)) := (blk_cell BK205.out 1).trans rfl; have hcz62_2 : w61.cell? ⟨gb205, 2, none⟩ = some (.int .i64 0) := (blk_cell BK205.out 2).trans rfl; have hcz62_3 : w61.cell? ⟨gb205, 3, none⟩ = some (.int .i64 0) := (blk_cell BK205.out 3).trans rfl; have hfz62_0 := blk_frozen BK205.out 0; have hfz62_1 := blk_frozen BK205.out 1; have hfz62_2 := blk_frozen BK205.out 2; have hfz62_3 := blk_frozen BK205.out 3))
               refine bodyPost_ret (results_ctt rfl _ _ gb205 26 #[.int .i64 t223, .string t224, .int .i64 t225, .int .i64 t226] (0, 0) _ rfl (by (with_reducible repeat (first | refine blk_drewN ?_ _ | refine blk_drew ?_ | refine blk_alloc ?_ _)); refine blk_put (cs := #[.int .i64 t223, .string t224, .int .i64 t225, .int .i64 0]) ?_ 3 _ rfl; (with_reducible repeat (first | refine blk_drewN ?_ _ | refine blk_drew ?_ | refine blk_alloc ?_ _)); refine blk_put (cs := #[.int .i64 t223, .string t224, .int .i64 0, .int .i64 0]) ?_ 2 _ rfl; (with_reducible repeat (first | refine blk_drewN ?_ _ | refine blk_drew ?_ | refine blk_alloc ?_ _)); refine blk_put (cs := #[.int .i64 t223, .string (⟨#[]⟩ : ByteArray), .int .i64 0, .int .i64 0]) ?_ 1 _ rfl; (with_reducible repeat (first | refine blk_drewN ?_ _ | refine blk_drew ?_ | refine blk_alloc ?_ _)); refine blk_put (cs := #[.int .i64 0, .string (⟨#[]⟩ : ByteArray), .int .i64 0, .int .i64 0]) ?_ 0 _ rfl; (with_reducible repeat (first | refine blk_drewN ?_ _ | refine blk_drew ?_ | refine blk_alloc ?_ _)); exact BK205.out) Tryz.underlying26 rfl (by kernel_rfl)) rfl ?_
               exact ⟨by first | rfl | (simp [errW_none, errW_some] <;> rfl) | (simp [*, errW_none, errW_some] <;> rfl), by repeat (first | (with_reducible first | exact HB.out | apply below_alloc | apply pw_below_drewN | apply below_drew1 | refine below_set ?_ GE205.out) | exact HB.out)⟩
              ·replace c59 := Bool.eq_false_iff.mpr c59
               subst c59
               have H1 : (some (0, (⟨#[]⟩ : ByteArray), 0, 0, 3, t221)) = some (r1, r2, r3, r4, r5, r6) := by rw [if_neg (show ¬ (false = true) by decide)] at H; exact H
               clear H
               have H := H1
               clear H1
               simp only [Option.some.injEq, Prod.mk.injEq] at H
               obtain ⟨rfl, rfl, rfl, rfl, rfl, rfl⟩ := H
               go_wp2_with (first | ((with_reducible refine gate_callee (f := 26) rfl ?_); refine goesL_ (some 99) rfl rfl Tryz.func26 (by kernel_rfl) rfl #[.string a0, .int .i64 a1] rfl gz ?_; (with_reducible refine (copperplateref05_Number.calls kj45 a0 a1 t220 t221 false _ A58.out).mono ?_); rintro e w' ⟨rfl, ⟨nd, rfl⟩⟩; refine ⟨_, rfl, ?_⟩; (try (rw [drewN_self wc]; generalize hq_ : World.drewN wc _ = wc; have n0_ : Aside0 (wc.heap[gb205]? = some (.cells #[.int .i64 0, .string (⟨#[]⟩ : ByteArray), .int .i64 0, .int .i64 0] 26 (0, 0))) := ⟨by rw [← hq_]; exact (by (with_reducible repeat (first | refine blk_drewN ?_ _ | refine blk_drew ?_ | refine blk_alloc ?_ _)); exact BK205.out)⟩; have n1_ : Aside0 (Below w.heap.size w wc) := ⟨by rw [← hq_]; exact (by repeat (first | (with_reducible first | exact HB.out | apply below_alloc | apply pw_below_drewN | apply below_drew1 | refine below_set ?_ GE205.out) | exact HB.out))⟩; clear BK205 HB hq_; have BK205 := n0_; have HB := n1_; clear n0_ n1_)); have hcz63_0 : wc.cell? ⟨gb205, 0, none⟩ = some (.int .i64 0) := (blk_cell BK205.out 0).trans rfl; have hcz63_1 : wc.cell? ⟨gb205, 1, none⟩ = some (.string (⟨#[]⟩ : ByteArray)) := (blk_cell BK205.out 1).trans rfl; have hcz63_2 : wc.cell? ⟨gb205, 2, none⟩ = some (.int .i64 0) := (blk_cell BK205.out 2).trans rfl; have hcz63_3 : wc.cell? ⟨gb205, 3, none⟩ = some (.int .i64 0) := (blk_cell BK205.out 3).trans rfl; have hfz63_0 := blk_frozen BK205.out 0; have hfz63_1 := blk_frozen BK205.out 1; have hfz63_2 := blk_frozen BK205.out 2; have hfz63_3 := blk_frozen BK205.out 3))
               refine bodyPost_ret (results_ctt rfl _ _ gb205 26 #[.int .i64 0, .string (⟨#[]⟩ : ByteArray), .int .i64 0, .int .i64 0] (0, 0) _ rfl (by (with_reducible repeat (first | refine blk_drewN ?_ _ | refine blk_drew ?_ | refine blk_alloc ?_ _)); refine blk_put (cs := #[.int .i64 0, .string (⟨#[]⟩ : ByteArray), .int .i64 0, .int .i64 0]) ?_ 3 _ rfl; (with_reducible repeat (first | refine blk_drewN ?_ _ | refine blk_drew ?_ | refine blk_alloc ?_ _)); refine blk_put (cs := #[.int .i64 0, .string (⟨#[]⟩ : ByteArray), .int .i64 0, .int .i64 0]) ?_ 2 _ rfl; (with_reducible repeat (first | refine blk_drewN ?_ _ | refine blk_drew ?_ | refine blk_alloc ?_ _)); refine blk_put (cs := #[.int .i64 0, .string (⟨#[]⟩ : ByteArray), .int .i64 0, .int .i64 0]) ?_ 1 _ rfl; (with_reducible repeat (first | refine blk_drewN ?_ _ | refine blk_drew ?_ | refine blk_alloc ?_ _)); refine blk_put (cs := #[.int .i64 0, .string (⟨#[]⟩ : ByteArray), .int .i64 0, .int .i64 0]) ?_ 0 _ rfl; (with_reducible repeat (first | refine blk_drewN ?_ _ | refine blk_drew ?_ | refine blk_alloc ?_ _)); exact BK205.out) Tryz.underlying26 rfl (by kernel_rfl)) rfl ?_
               exact ⟨by first | rfl | (simp [errW_none, errW_some] <;> rfl) | (simp [*, errW_none, errW_some] <;> rfl), by repeat (first | (with_reducible first | exact HB.out | apply below_alloc | apply pw_below_drewN | apply below_drew1 | refine below_set ?_ GE205.out) | exact HB.out)⟩
             ·replace c57 := Bool.eq_false_iff.mpr c57
              subst c57
              have H1 : (if (bt a0 a1) = 34 then ((copperplateref09_some.f kj45 a0 a1).bind fun bt227 => (if bt227.2.2 = true then (some (5, bt227.1, a1, bt227.2.1, 0, bt227.2.1)) else (some (0, (⟨#[]⟩ : ByteArray), 0, 0, 4, bt227.2.1)))) else (some (0, (⟨#[]⟩ : ByteArray), 0, 0, 2, a1))) = some (r1, r2, r3, r4, r5, r6) := by rw [if_neg (show ¬ (false = true) by decide)] at H; exact H
              clear H
              have H := H1
              clear H1
              by_cases c64 : (bt a0 a1) = 34
              ·rw [if_pos c64] at H
               have c64b0 : ((bt a0 a1) == 34) = true := beq_iff_eq.mpr c64
               have c64b1 : ((bt a0 a1) != 34) = false := bne_eq_false_iff_eq.mpr c64
               clear c64
               replace H := Option.bind_eq_some_iff.mp H
               obtain ⟨⟨t227, t228, t229⟩, A650, H⟩ := H
               replace H : (if t229 = true then (some (5, t227, a1, t228, 0, t228)) else (some (0, (⟨#[]⟩ : ByteArray), 0, 0, 4, t228))) = some (r1, r2, r3, r4, r5, r6) := H
               have A65 := Aside0.mk A650
               clear A650
               by_cases c66 : t229 = true
               ·subst c66
                have H1 : (some (5, t227, a1, t228, 0, t228)) = some (r1, r2, r3, r4, r5, r6) := by rw [if_pos rfl] at H; exact H
                clear H
                have H := H1
                clear H1
                simp only [Option.some.injEq, Prod.mk.injEq] at H
                obtain ⟨rfl, rfl, rfl, rfl, rfl, rfl⟩ := H
                go_wp2_with (first | ((with_reducible refine gate_callee (f := 27) rfl ?_); refine goesL_ (some 118) rfl rfl Tryz.func27 (by kernel_rfl) rfl #[.string a0, .int .i64 a1] rfl gz ?_; (with_reducible refine (copperplateref09_some.calls kj45 a0 a1 t227 t228 true _ A65.out).mono ?_); rintro e w67 ⟨rfl, hb⟩; refine ⟨_, rfl, ?_⟩; have n0_ := Aside0.mk (blk_below (g := gb205) (o := .cells #[.int .i64 0, .string (⟨#[]⟩ : ByteArray), .int .i64 0, .int .i64 0] 26 (0, 0)) (by (with_reducible repeat (first | refine blk_drewN ?_ _ | refine blk_drew ?_ | refine blk_alloc ?_ _)); exact BK205.out) hb); have n1_ := Aside0.mk (below_step (by repeat (first | (with_reducible first | exact HB.out | apply below_alloc | apply pw_below_drewN | apply below_drew1 | refine below_set ?_ GE205.out) | exact HB.out)) hb); clear BK205; clear HB; have BK205 := n0_; have HB := n1_; clear n0_ n1_; (try clear hb); (try clear hb2); (try clear hk); (try clear hi); have hcz68_0 : w67.cell? ⟨gb205, 0, none⟩ = some (.int .i64 0) := (blk_cell BK205.out 0).trans rfl; have hcz68_1 : w67.cell? ⟨gb205, 1, none⟩ = some (.string (⟨#[]⟩ : ByteArray)) := (blk_cell BK205.out 1).trans rfl; have hcz68_2 : w67.cell? ⟨gb205, 2, none⟩ = some (.int .i64 0) := (blk_cell BK205.out 2).trans rfl; have hcz68_3 : w67.cell? ⟨gb205, 3, none⟩ = some (.int .i64 0) := (blk_cell BK205.out 3).trans rfl; have hfz68_0 := blk_frozen BK205.out 0; have hfz68_1 := blk_frozen BK205.out 1; have hfz68_2 := blk_frozen BK205.out 2; have hfz68_3 := blk_frozen BK205.out 3))
                refine bodyPost_ret (results_ctt rfl _ _ gb205 26 #[.int .i64 5, .string t227, .int .i64 a1, .int .i64 t228] (0, 0) _ rfl (by (with_reducible repeat (first | refine blk_drewN ?_ _ | refine blk_drew ?_ | refine blk_alloc ?_ _)); refine blk_put (cs := #[.int .i64 5, .string t227, .int .i64 a1, .int .i64 0]) ?_ 3 _ rfl; (with_reducible repeat (first | refine blk_drewN ?_ _ | refine blk_drew ?_ | refine blk_alloc ?_ _)); refine blk_put (cs := #[.int .i64 5, .string t227, .int .i64 0, .int .i64 0]) ?_ 2 _ rfl; (with_reducible repeat (first | refine blk_drewN ?_ _ | refine blk_drew ?_ | refine blk_alloc ?_ _)); refine blk_put (cs := #[.int .i64 5, .string (⟨#[]⟩ : ByteArray), .int .i64 0, .int .i64 0]) ?_ 1 _ rfl; (with_reducible repeat (first | refine blk_drewN ?_ _ | refine blk_drew ?_ | refine blk_alloc ?_ _)); refine blk_put (cs := #[.int .i64 0, .string (⟨#[]⟩ : ByteArray), .int .i64 0, .int .i64 0]) ?_ 0 _ rfl; (with_reducible repeat (first | refine blk_drewN ?_ _ | refine blk_drew ?_ | refine blk_alloc ?_ _)); exact BK205.out) Tryz.underlying26 rfl (by kernel_rfl)) rfl ?_
                exact ⟨by first | rfl | (simp [errW_none, errW_some] <;> rfl) | (simp [*, errW_none, errW_some] <;> rfl), by repeat (first | (with_reducible first | exact HB.out | apply below_alloc | apply pw_below_drewN | apply below_drew1 | refine below_set ?_ GE205.out) | exact HB.out)⟩
               ·replace c66 := Bool.eq_false_iff.mpr c66
                subst c66
                have H1 : (some (0, (⟨#[]⟩ : ByteArray), 0, 0, 4, t228)) = some (r1, r2, r3, r4, r5, r6) := by rw [if_neg (show ¬ (false = true) by decide)] at H; exact H
                clear H
                have H := H1
                clear H1
                simp only [Option.some.injEq, Prod.mk.injEq] at H
                obtain ⟨rfl, rfl, rfl, rfl, rfl, rfl⟩ := H
                go_wp2_with (first | ((with_reducible refine gate_callee (f := 27) rfl ?_); refine goesL_ (some 118) rfl rfl Tryz.func27 (by kernel_rfl) rfl #[.string a0, .int .i64 a1] rfl gz ?_; (with_reducible refine (copperplateref09_some.calls kj45 a0 a1 t227 t228 false _ A65.out).mono ?_); rintro e w69 ⟨rfl, hb⟩; refine ⟨_, rfl, ?_⟩; have n0_ := Aside0.mk (blk_below (g := gb205) (o := .cells #[.int .i64 0, .string (⟨#[]⟩ : ByteArray), .int .i64 0, .int .i64 0] 26 (0, 0)) (by (with_reducible repeat (first | refine blk_drewN ?_ _ | refine blk_drew ?_ | refine blk_alloc ?_ _)); exact BK205.out) hb); have n1_ := Aside0.mk (below_step (by repeat (first | (with_reducible first | exact HB.out | apply below_alloc | apply pw_below_drewN | apply below_drew1 | refine below_set ?_ GE205.out) | exact HB.out)) hb); clear BK205; clear HB; have BK205 := n0_; have HB := n1_; clear n0_ n1_; (try clear hb); (try clear hb2); (try clear hk); (try clear hi); have hcz70_0 : w69.cell? ⟨gb205, 0, none⟩ = some (.int .i64 0) := (blk_cell BK205.out 0).trans rfl; have hcz70_1 : w69.cell? ⟨gb205, 1, none⟩ = some (.string (⟨#[]⟩ : ByteArray)) := (blk_cell BK205.out 1).trans rfl; have hcz70_2 : w69.cell? ⟨gb205, 2, none⟩ = some (.int .i64 0) := (blk_cell BK205.out 2).trans rfl; have hcz70_3 : w69.cell? ⟨gb205, 3, none⟩ = some (.int .i64 0) := (blk_cell BK205.out 3).trans rfl; have hfz70_0 := blk_frozen BK205.out 0; have hfz70_1 := blk_frozen BK205.out 1; have hfz70_2 := blk_frozen BK205.out 2; have hfz70_3 := blk_frozen BK205.out 3))
                refine bodyPost_ret (results_ctt rfl _ _ gb205 26 #[.int .i64 0, .string (⟨#[]⟩ : ByteArray), .int .i64 0, .int .i64 0] (0, 0) _ rfl (by (with_reducible repeat (first | refine blk_drewN ?_ _ | refine blk_drew ?_ | refine blk_alloc ?_ _)); refine blk_put (cs := #[.int .i64 0, .string (⟨#[]⟩ : ByteArray), .int .i64 0, .int .i64 0]) ?_ 3 _ rfl; (with_reducible repeat (first | refine blk_drewN ?_ _ | refine blk_drew ?_ | refine blk_alloc ?_ _)); refine blk_put (cs := #[.int .i64 0, .string (⟨#[]⟩ : ByteArray), .int .i64 0, .int .i64 0]) ?_ 2 _ rfl; (with_reducible repeat (first | refine blk_drewN ?_ _ | refine blk_drew ?_ | refine blk_alloc ?_ _)); refine blk_put (cs := #[.int .i64 0, .string (⟨#[]⟩ : ByteArray), .int .i64 0, .int .i64 0]) ?_ 1 _ rfl; (with_reducible repeat (first | refine blk_drewN ?_ _ | refine blk_drew ?_ | refine blk_alloc ?_ _)); refine blk_put (cs := #[.int .i64 0, .string (⟨#[]⟩ : ByteArray), .int .i64 0, .int .i64 0]) ?_ 0 _ rfl; (with_reducible repeat (first | refine blk_drewN ?_ _ | refine blk_drew ?_ | refine blk_alloc ?_ _)); exact BK205.out) Tryz.underlying26 rfl (by kernel_rfl)) rfl ?_
                exact ⟨by first | rfl | (simp [errW_none, errW_some] <;> rfl) | (simp [*, errW_none, errW_some] <;> rfl), by repeat (first | (with_reducible first | exact HB.out | apply below_alloc | apply pw_below_drewN | apply below_drew1 | refine below_set ?_ GE205.out) | exact HB.out)⟩
              ·rw [if_neg c64] at H
               have c64b0 : ((bt a0 a1) == 34) = false := beq_eq_false_iff_ne.mpr c64
               have c64b1 : ((bt a0 a1) != 34) = true := bne_iff_ne.mpr c64
               simp only [Option.some.injEq, Prod.mk.injEq] at H
               obtain ⟨rfl, rfl, rfl, rfl, rfl, rfl⟩ := H
               have hcz71_0 : wc.cell? ⟨gb205, 0, none⟩ = some (.int .i64 0) := (blk_cell BK205.out 0).trans rfl
               have hcz71_1 : wc.cell? ⟨gb205, 1, none⟩ = some (.string (⟨#[]⟩ : ByteArray)) := (blk_cell BK205.out 1).trans rfl
               have hcz71_2 : wc.cell? ⟨gb205, 2, none⟩ = some (.int .i64 0) := (blk_cell BK205.out 2).trans rfl
               have hcz71_3 : wc.cell? ⟨gb205, 3, none⟩ = some (.int .i64 0) := (blk_cell BK205.out 3).trans rfl
               have hfz71_0 := blk_frozen BK205.out 0
               have hfz71_1 := blk_frozen BK205.out 1
               have hfz71_2 := blk_frozen BK205.out 2
               have hfz71_3 := blk_frozen BK205.out 3
               go_wp2
               refine bodyPost_ret (results_ctt rfl _ _ gb205 26 #[.int .i64 0, .string (⟨#[]⟩ : ByteArray), .int .i64 0, .int .i64 0] (0, 0) _ rfl (by (with_reducible repeat (first | refine blk_drewN ?_ _ | refine blk_drew ?_ | refine blk_alloc ?_ _)); refine blk_put (cs := #[.int .i64 0, .string (⟨#[]⟩ : ByteArray), .int .i64 0, .int .i64 0]) ?_ 3 _ rfl; (with_reducible repeat (first | refine blk_drewN ?_ _ | refine blk_drew ?_ | refine blk_alloc ?_ _)); refine blk_put (cs := #[.int .i64 0, .string (⟨#[]⟩ : ByteArray), .int .i64 0, .int .i64 0]) ?_ 2 _ rfl; (with_reducible repeat (first | refine blk_drewN ?_ _ | refine blk_drew ?_ | refine blk_alloc ?_ _)); refine blk_put (cs := #[.int .i64 0, .string (⟨#[]⟩ : ByteArray), .int .i64 0, .int .i64 0]) ?_ 1 _ rfl; (with_reducible repeat (first | refine blk_drewN ?_ _ | refine blk_drew ?_ | refine blk_alloc ?_ _)); refine blk_put (cs := #[.int .i64 0, .string (⟨#[]⟩ : ByteArray), .int .i64 0, .int .i64 0]) ?_ 0 _ rfl; (with_reducible repeat (first | refine blk_drewN ?_ _ | refine blk_drew ?_ | refine blk_alloc ?_ _)); exact BK205.out) Tryz.underlying26 rfl (by kernel_rfl)) rfl ?_
               exact ⟨by first | rfl | (simp [errW_none, errW_some] <;> rfl) | (simp [*, errW_none, errW_some] <;> rfl), by repeat (first | (with_reducible first | exact HB.out | apply below_alloc | apply pw_below_drewN | apply below_drew1 | refine below_set ?_ GE205.out) | exact HB.out)⟩
     ·rw [if_neg c9] at H
      exact absurd H (by simp)
    ·rw [if_neg c8] at H
     exact absurd H (by simp)
end Go.Proofs.YtjgpmfjkcioinaaGreatDoor.Q
