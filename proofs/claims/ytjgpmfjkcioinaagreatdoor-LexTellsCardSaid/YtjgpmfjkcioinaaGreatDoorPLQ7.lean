/-
  Texts of this seat, put together by bundle.py.
-/
import Derived.Test.YtjgpmfjkcioinaaGreatDoorPLGG9
import Derived.Test.YtjgpmfjkcioinaaGreatDoorPLQ6
namespace Go.Proofs.YtjgpmfjkcioinaaGreatDoor.Q
open Go.Proofs.YtjgpmfjkcioinaaGreatDoor.G
open Go.RowKit Go.Proofs.YtjgpmfjkcioinaaGreatDoorW.PrintWords Go.Proofs.YtjgpmfjkcioinaaGreatDoorW.PrintLast Go.Proofs.YtjgpmfjkcioinaaGreatDoorW.PrintMore
attribute [local go_sem] max2_int min2_int max_two min_two max_three min_three max_four min_four
set_option linter.unusedVariables false
set_option linter.unusedSimpArgs false
mutual
def copperplateref07_Fold.l0 : Nat → List ByteArray → Int → List ByteArray → Int → Option (ByteArray)
 | 0, _, _, _, _ => none
 | k + 1, x3, x4, x5, x6 => if x6 < (x3.length : Int) then (if 0 ≤ x6 then (if x6 > 0 then (if x4 > 0 then ((copperplateref07_cut.f (rdOf ByteArray.empty x3 x6) x4).bind fun t154 => (if x5.length < 8796093022208 then (copperplateref07_Fold.l0 k x3 x4 (x5 ++ [t154]) (wrap64 (x6 + 1))) else (none))) else (if x5.length < 8796093022208 then (copperplateref07_Fold.l0 k x3 x4 (x5 ++ [rdOf ByteArray.empty x3 x6]) (wrap64 (x6 + 1))) else (none))) else (if x5.length < 8796093022208 then (copperplateref07_Fold.l0 k x3 x4 (x5 ++ [rdOf ByteArray.empty x3 x6]) (wrap64 (x6 + 1))) else (none))) else (none)) else (copperplateref07_Fold.l1 k x5)
def copperplateref07_Fold.j2 : Nat → List ByteArray → Option (ByteArray)
 | 0, _ => none
 | k + 1, x5 => copperplateref07_Fold.l2 k x5
def copperplateref07_Fold.j4 : Nat → List ByteArray → Option (ByteArray)
 | 0, _ => none
 | k + 1, x5 => copperplateref07_Fold.l3 k x5 (⟨#[]⟩ : ByteArray) 0
def copperplateref07_Fold.l3 : Nat → List ByteArray → ByteArray → Int → Option (ByteArray)
 | 0, _, _, _ => none
 | k + 1, x5, x8, x9 => if x9 < (x5.length : Int) then (if x9 > 0 then (if x8.size + 1 ≤ 9223372036854775807 then (if 0 ≤ x9 then (if (x8 ++ (⟨#[10]⟩ : ByteArray)).size + (rdOf ByteArray.empty x5 x9).size ≤ 9223372036854775807 then (copperplateref07_Fold.l3 k x5 ((x8 ++ (⟨#[10]⟩ : ByteArray)) ++ (rdOf ByteArray.empty x5 x9)) (wrap64 (x9 + 1))) else (none)) else (none)) else (none)) else (if 0 ≤ x9 then (if x8.size + (rdOf ByteArray.empty x5 x9).size ≤ 9223372036854775807 then (copperplateref07_Fold.l3 k x5 (x8 ++ (rdOf ByteArray.empty x5 x9)) (wrap64 (x9 + 1))) else (none)) else (none))) else (some x8)
def copperplateref07_Fold.l2 : Nat → List ByteArray → Option (ByteArray)
 | 0, _ => none
 | k + 1, x5 => if (x5.length : Int) > 0 then (if 0 ≤ (wrap64 ((x5.length : Int) - 1)) then (if (wrap64 ((x5.length : Int) - 1)) < (x5.length : Int) then ((copperplateref07_Margin.f k (rdOf ByteArray.empty x5 (wrap64 ((x5.length : Int) - 1)))).bind fun t171 => (if t171 = ((rdOf ByteArray.empty x5 (wrap64 ((x5.length : Int) - 1))).size : Int) then (if (wrap64 ((x5.length : Int) - 1)) ≤ (x5.length : Int) then (copperplateref07_Fold.l2 k (x5.take ((wrap64 ((x5.length : Int) - 1)) : Int).toNat)) else (none)) else (copperplateref07_Fold.j4 k x5))) else (none)) else (none)) else (copperplateref07_Fold.j4 k x5)
def copperplateref07_Fold.l1 : Nat → List ByteArray → Option (ByteArray)
 | 0, _ => none
 | k + 1, x5 => if (x5.length : Int) > 0 then (if 0 < (x5.length : Int) then ((copperplateref07_Margin.f k (rdOf ByteArray.empty x5 0)).bind fun t165 => (if t165 = ((rdOf ByteArray.empty x5 0).size : Int) then (if 1 ≤ (x5.length : Int) then (copperplateref07_Fold.l1 k (x5.drop (1 : Int).toNat)) else (none)) else (copperplateref07_Fold.j2 k x5))) else (none)) else (copperplateref07_Fold.j2 k x5)
end
def copperplateref07_Fold.f (k : Nat) (a0 : ByteArray) : Option (ByteArray) := (copperplateref07_Lines.f k a0).bind fun t149 => ((copperplateref07_Indent.f k t149).bind fun t152 => (copperplateref07_Fold.l0 k t149 t152 ([] : List ByteArray) 0))
theorem copperplateref07_Fold.mono_l : ∀ k, (∀ y0 y1 y2 y3, LeO (copperplateref07_Fold.l0 k y0 y1 y2 y3) (copperplateref07_Fold.l0 (k + 1) y0 y1 y2 y3)) ∧ (∀ y0, LeO (copperplateref07_Fold.j2 k y0) (copperplateref07_Fold.j2 (k + 1) y0)) ∧ (∀ y0, LeO (copperplateref07_Fold.j4 k y0) (copperplateref07_Fold.j4 (k + 1) y0)) ∧ (∀ y0 y1 y2, LeO (copperplateref07_Fold.l3 k y0 y1 y2) (copperplateref07_Fold.l3 (k + 1) y0 y1 y2)) ∧ (∀ y0, LeO (copperplateref07_Fold.l2 k y0) (copperplateref07_Fold.l2 (k + 1) y0)) ∧ (∀ y0, LeO (copperplateref07_Fold.l1 k y0) (copperplateref07_Fold.l1 (k + 1) y0))
 | 0 => ⟨fun _ _ _ _ r h => by simp [copperplateref07_Fold.l0] at h, fun _ r h => by simp [copperplateref07_Fold.j2] at h, fun _ r h => by simp [copperplateref07_Fold.j4] at h, fun _ _ _ r h => by simp [copperplateref07_Fold.l3] at h, fun _ r h => by simp [copperplateref07_Fold.l2] at h, fun _ r h => by simp [copperplateref07_Fold.l1] at h⟩
 | k + 1 => by
  obtain ⟨ih0, ih1, ih2, ih3, ih4, ih5⟩ := copperplateref07_Fold.mono_l k
  refine ⟨?_, ?_, ?_, ?_, ?_, ?_⟩
  ·intro y0 y1 y2 y3
   unfold copperplateref07_Fold.l0
   repeat' first
   | (with_reducible exact ih0 _ _ _ _)
   | (with_reducible exact ih1 _)
   | (with_reducible exact ih2 _)
   | (with_reducible exact ih3 _ _ _)
   | (with_reducible exact ih4 _)
   | (with_reducible exact ih5 _)
   | (with_reducible exact copperplateref07_Indent.mono _ _)
   | (with_reducible exact copperplateref07_Lines.mono _ _)
   | (with_reducible exact copperplateref07_Margin.mono _ _)
   | (with_reducible exact LeO.refl _)
   | (with_reducible exact LeO.none _)
   | (with_reducible refine LeO.ite ?_ ?_)
   | (with_reducible refine LeO.bind ?_ (fun _ => ?_))
   | exact ih0 _ _ _ _
   | exact ih1 _
   | exact ih2 _
   | exact ih3 _ _ _
   | exact ih4 _
   | exact ih5 _
   | exact copperplateref07_Indent.mono _ _
   | exact copperplateref07_Lines.mono _ _
   | exact copperplateref07_Margin.mono _ _
   | exact LeO.none _
   | refine LeO.ite ?_ ?_
   | refine LeO.bind ?_ (fun _ => ?_)
  ·intro y0
   unfold copperplateref07_Fold.j2
   repeat' first
   | (with_reducible exact ih0 _ _ _ _)
   | (with_reducible exact ih1 _)
   | (with_reducible exact ih2 _)
   | (with_reducible exact ih3 _ _ _)
   | (with_reducible exact ih4 _)
   | (with_reducible exact ih5 _)
   | (with_reducible exact copperplateref07_Indent.mono _ _)
   | (with_reducible exact copperplateref07_Lines.mono _ _)
   | (with_reducible exact copperplateref07_Margin.mono _ _)
   | (with_reducible exact LeO.refl _)
   | (with_reducible exact LeO.none _)
   | (with_reducible refine LeO.ite ?_ ?_)
   | (with_reducible refine LeO.bind ?_ (fun _ => ?_))
   | exact ih0 _ _ _ _
   | exact ih1 _
   | exact ih2 _
   | exact ih3 _ _ _
   | exact ih4 _
   | exact ih5 _
   | exact copperplateref07_Indent.mono _ _
   | exact copperplateref07_Lines.mono _ _
   | exact copperplateref07_Margin.mono _ _
   | exact LeO.none _
   | refine LeO.ite ?_ ?_
   | refine LeO.bind ?_ (fun _ => ?_)
  ·intro y0
   unfold copperplateref07_Fold.j4
   repeat' first
   | (with_reducible exact ih0 _ _ _ _)
   | (with_reducible exact ih1 _)
   | (with_reducible exact ih2 _)
   | (with_reducible exact ih3 _ _ _)
   | (with_reducible exact ih4 _)
   | (with_reducible exact ih5 _)
   | (with_reducible exact copperplateref07_Indent.mono _ _)
   | (with_reducible exact copperplateref07_Lines.mono _ _)
   | (with_reducible exact copperplateref07_Margin.mono _ _)
   | (with_reducible exact LeO.refl _)
   | (with_reducible exact LeO.none _)
   | (with_reducible refine LeO.ite ?_ ?_)
   | (with_reducible refine LeO.bind ?_ (fun _ => ?_))
   | exact ih0 _ _ _ _
   | exact ih1 _
   | exact ih2 _
   | exact ih3 _ _ _
   | exact ih4 _
   | exact ih5 _
   | exact copperplateref07_Indent.mono _ _
   | exact copperplateref07_Lines.mono _ _
   | exact copperplateref07_Margin.mono _ _
   | exact LeO.none _
   | refine LeO.ite ?_ ?_
   | refine LeO.bind ?_ (fun _ => ?_)
  ·intro y0 y1 y2
   unfold copperplateref07_Fold.l3
   repeat' first
   | (with_reducible exact ih0 _ _ _ _)
   | (with_reducible exact ih1 _)
   | (with_reducible exact ih2 _)
   | (with_reducible exact ih3 _ _ _)
   | (with_reducible exact ih4 _)
   | (with_reducible exact ih5 _)
   | (with_reducible exact copperplateref07_Indent.mono _ _)
   | (with_reducible exact copperplateref07_Lines.mono _ _)
   | (with_reducible exact copperplateref07_Margin.mono _ _)
   | (with_reducible exact LeO.refl _)
   | (with_reducible exact LeO.none _)
   | (with_reducible refine LeO.ite ?_ ?_)
   | (with_reducible refine LeO.bind ?_ (fun _ => ?_))
   | exact ih0 _ _ _ _
   | exact ih1 _
   | exact ih2 _
   | exact ih3 _ _ _
   | exact ih4 _
   | exact ih5 _
   | exact copperplateref07_Indent.mono _ _
   | exact copperplateref07_Lines.mono _ _
   | exact copperplateref07_Margin.mono _ _
   | exact LeO.none _
   | refine LeO.ite ?_ ?_
   | refine LeO.bind ?_ (fun _ => ?_)
  ·intro y0
   unfold copperplateref07_Fold.l2
   repeat' first
   | (with_reducible exact ih0 _ _ _ _)
   | (with_reducible exact ih1 _)
   | (with_reducible exact ih2 _)
   | (with_reducible exact ih3 _ _ _)
   | (with_reducible exact ih4 _)
   | (with_reducible exact ih5 _)
   | (with_reducible exact copperplateref07_Indent.mono _ _)
   | (with_reducible exact copperplateref07_Lines.mono _ _)
   | (with_reducible exact copperplateref07_Margin.mono _ _)
   | (with_reducible exact LeO.refl _)
   | (with_reducible exact LeO.none _)
   | (with_reducible refine LeO.ite ?_ ?_)
   | (with_reducible refine LeO.bind ?_ (fun _ => ?_))
   | exact ih0 _ _ _ _
   | exact ih1 _
   | exact ih2 _
   | exact ih3 _ _ _
   | exact ih4 _
   | exact ih5 _
   | exact copperplateref07_Indent.mono _ _
   | exact copperplateref07_Lines.mono _ _
   | exact copperplateref07_Margin.mono _ _
   | exact LeO.none _
   | refine LeO.ite ?_ ?_
   | refine LeO.bind ?_ (fun _ => ?_)
  ·intro y0
   unfold copperplateref07_Fold.l1
   repeat' first
   | (with_reducible exact ih0 _ _ _ _)
   | (with_reducible exact ih1 _)
   | (with_reducible exact ih2 _)
   | (with_reducible exact ih3 _ _ _)
   | (with_reducible exact ih4 _)
   | (with_reducible exact ih5 _)
   | (with_reducible exact copperplateref07_Indent.mono _ _)
   | (with_reducible exact copperplateref07_Lines.mono _ _)
   | (with_reducible exact copperplateref07_Margin.mono _ _)
   | (with_reducible exact LeO.refl _)
   | (with_reducible exact LeO.none _)
   | (with_reducible refine LeO.ite ?_ ?_)
   | (with_reducible refine LeO.bind ?_ (fun _ => ?_))
   | exact ih0 _ _ _ _
   | exact ih1 _
   | exact ih2 _
   | exact ih3 _ _ _
   | exact ih4 _
   | exact ih5 _
   | exact copperplateref07_Indent.mono _ _
   | exact copperplateref07_Lines.mono _ _
   | exact copperplateref07_Margin.mono _ _
   | exact LeO.none _
   | refine LeO.ite ?_ ?_
   | refine LeO.bind ?_ (fun _ => ?_)
theorem copperplateref07_Fold.mono : ∀ a0 k, LeO (copperplateref07_Fold.f k a0) (copperplateref07_Fold.f (k + 1) a0) := by
 intro a0 k
 obtain ⟨ih0, ih1, ih2, ih3, ih4, ih5⟩ := copperplateref07_Fold.mono_l k
 unfold copperplateref07_Fold.f
 repeat' first
   | (with_reducible exact ih0 _ _ _ _)
   | (with_reducible exact ih1 _)
   | (with_reducible exact ih2 _)
   | (with_reducible exact ih3 _ _ _)
   | (with_reducible exact ih4 _)
   | (with_reducible exact ih5 _)
   | (with_reducible exact copperplateref07_Indent.mono _ _)
   | (with_reducible exact copperplateref07_Lines.mono _ _)
   | (with_reducible exact copperplateref07_Margin.mono _ _)
   | (with_reducible exact LeO.refl _)
   | (with_reducible exact LeO.none _)
   | (with_reducible refine LeO.ite ?_ ?_)
   | (with_reducible refine LeO.bind ?_ (fun _ => ?_))
   | exact ih0 _ _ _ _
   | exact ih1 _
   | exact ih2 _
   | exact ih3 _ _ _
   | exact ih4 _
   | exact ih5 _
   | exact copperplateref07_Indent.mono _ _
   | exact copperplateref07_Lines.mono _ _
   | exact copperplateref07_Margin.mono _ _
   | exact LeO.none _
   | refine LeO.ite ?_ ?_
   | refine LeO.bind ?_ (fun _ => ?_)
set_option maxHeartbeats 8000000 in
set_option maxRecDepth 100000 in
theorem copperplateref07_Fold.calls (k : Nat) (a0 : ByteArray) (r : ByteArray) (w : World) (h : copperplateref07_Fold.f k a0 = some r) :
  Calls Tryz.prog 61 #[.string a0] w fun e w' => e = .returned (.string r) ∧ Below w.heap.size w w' := by
 have HB := Aside0.mk (Below.refl w.heap.size w)
 have H : ((copperplateref07_Lines.f k a0).bind fun t149 => ((copperplateref07_Indent.f k t149).bind fun t152 => (copperplateref07_Fold.l0 k t149 t152 ([] : List ByteArray) 0))) = some r := h
 clear h
 replace H := Option.bind_eq_some_iff.mp H
 obtain ⟨t149, A20, H⟩ := H
 replace H : ((copperplateref07_Indent.f k t149).bind fun t152 => (copperplateref07_Fold.l0 k t149 t152 ([] : List ByteArray) 0)) = some r := H
 have A2 := Aside0.mk A20
 clear A20
 replace H := Option.bind_eq_some_iff.mp H
 obtain ⟨t152, A30, H⟩ := H
 replace H : (copperplateref07_Fold.l0 k t149 t152 ([] : List ByteArray) 0) = some r := H
 have A3 := Aside0.mk A30
 clear A30
 have H' := Aside0.mk H
 clear H
 go_enter Tryz.func61, Tryz.ntmps61
 go_wp2_with (first | (go_at_call 80; (with_reducible refine (copperplateref07_Lines.calls k a0 t149 _ A2.out).mono ?_); rintro e w4 ⟨v150, rfl, ho0, hb⟩; have n0_ := Aside0.mk (Kd.R_lower ho0 (below_size hbz)); have n1_ := Aside0.mk (below_step hbz hb); clear HB; have HO151 := n0_; have HB := n1_; clear n0_ n1_; (try clear hb); (try clear hb2); (try clear hk); (try clear hi); (try clear ho0); obtain ⟨Ao5, co5, eo5⟩ := Kd.R_slice HO151.out; subst eo5) | (go_at_call 81; (with_reducible refine (copperplateref07_Indent.calls k _ _ t149 t152 _ ?side1 ?side2 A3.out).mono ?_); (case side1 => repeat (first | exact (Kd.R_reads' HO151.out).2.2 | (with_reducible refine Kd.C_alloc ?_ _) | (with_reducible refine Kd.C_drewN ?_ _) | (with_reducible refine Kd.C_drew ?_))); (case side2 => exact (Kd.R_reads' HO151.out).2.1); rintro e w' ⟨rfl, ⟨nd, rfl⟩⟩; (try first | exact ⟨rfl, _, World.drewN_drewN _ _ _⟩ | exact ⟨rfl, _, Eq.trans (World.drewN_drewN _ _ _) (congrArg (World.drewN _) (Nat.add_assoc _ _ _))⟩)))
 repeat (go_quiet (first | (go_at_call 80; (with_reducible refine (copperplateref07_Lines.calls k a0 t149 _ A2.out).mono ?_); rintro e w4 ⟨v150, rfl, ho0, hb⟩; have n0_ := Aside0.mk (Kd.R_lower ho0 (below_size hbz)); have n1_ := Aside0.mk (below_step hbz hb); clear HB; have HO151 := n0_; have HB := n1_; clear n0_ n1_; (try clear hb); (try clear hb2); (try clear hk); (try clear hi); (try clear ho0); obtain ⟨Ao5, co5, eo5⟩ := Kd.R_slice HO151.out; subst eo5) | (go_at_call 81; (with_reducible refine (copperplateref07_Indent.calls k _ _ t149 t152 _ ?side1 ?side2 A3.out).mono ?_); (case side1 => repeat (first | exact (Kd.R_reads' HO151.out).2.2 | (with_reducible refine Kd.C_alloc ?_ _) | (with_reducible refine Kd.C_drewN ?_ _) | (with_reducible refine Kd.C_drew ?_))); (case side2 => exact (Kd.R_reads' HO151.out).2.1); rintro e w' ⟨rfl, ⟨nd, rfl⟩⟩; (try first | exact ⟨rfl, _, World.drewN_drewN _ _ _⟩ | exact ⟨rfl, _, Eq.trans (World.drewN_drewN _ _ _) (congrArg (World.drewN _) (Nat.add_assoc _ _ _))⟩))); try go_wp2_with (first | (go_at_call 80; (with_reducible refine (copperplateref07_Lines.calls k a0 t149 _ A2.out).mono ?_); rintro e w4 ⟨v150, rfl, ho0, hb⟩; have n0_ := Aside0.mk (Kd.R_lower ho0 (below_size hbz)); have n1_ := Aside0.mk (below_step hbz hb); clear HB; have HO151 := n0_; have HB := n1_; clear n0_ n1_; (try clear hb); (try clear hb2); (try clear hk); (try clear hi); (try clear ho0); obtain ⟨Ao5, co5, eo5⟩ := Kd.R_slice HO151.out; subst eo5) | (go_at_call 81; (with_reducible refine (copperplateref07_Indent.calls k _ _ t149 t152 _ ?side1 ?side2 A3.out).mono ?_); (case side1 => repeat (first | exact (Kd.R_reads' HO151.out).2.2 | (with_reducible refine Kd.C_alloc ?_ _) | (with_reducible refine Kd.C_drewN ?_ _) | (with_reducible refine Kd.C_drew ?_))); (case side2 => exact (Kd.R_reads' HO151.out).2.1); rintro e w' ⟨rfl, ⟨nd, rfl⟩⟩; (try first | exact ⟨rfl, _, World.drewN_drewN _ _ _⟩ | exact ⟨rfl, _, Eq.trans (World.drewN_drewN _ _ _) (congrArg (World.drewN _) (Nat.add_assoc _ _ _))⟩))))
 go_loopg [5, 6] k (fun kq v5 v6 w' => ∃ (x5_1 : List ByteArray) (x6_1 : Int), v6 = .int .i64 x6_1 ∧ Aside0 (copperplateref07_Fold.l0 kq t149 t152 x5_1 x6_1 = some r) ∧ Aside0 (kq ≤ k) ∧ Aside0 (Kd.R Kd.string 9 w' w.heap.size (fun k_ => some k_ ≠ (v5 : Value).ownBlock) (.slice Ao5 t149.length co5) t149) ∧ Aside0 (Kd.Q Kd.string 9 w' w.heap.size (fun k_ => some k_ ≠ ((.slice Ao5 t149.length co5) : Value).ownBlock) v5 x5_1) ∧ Aside0 (Below w.heap.size w w'))
 case atStart => exact ⟨(([] : List ByteArray)), (0), (by first | rfl | (simp; done) | (simp [*]; done)), H', ⟨Nat.le_refl _⟩, ⟨by (with_reducible repeat (first | apply Kd.R_alloc | apply Kd.R_drewN | apply Kd.R_drew)); exact Kd.R_mono HO151.out (fun _ hk => (by simp [Value.ownBlock]))⟩, ⟨Kd.Q_of_R (by first | exact Kd.R_nil _ _ _ _ _ | exact Kd.N_nil _ _ _ _ _ | exact Kd.V_nil _ _ _ _ _ | exact Kd.Q_nil _ _ _ _ _ | exact Kd.S_nil _ _ _ _ _)⟩, ⟨hbz⟩⟩
 case round =>
  clear H'
  try clear p2
  obtain ⟨x5_1, x6_1, rfl, HA, HK1, HO_3, HO_5, HB⟩ := hrel
  cases gk with
  | zero => exact absurd HA.out (by simp [copperplateref07_Fold.l0])
  | succ k1 =>
   have H := HA.out
   clear HA
   simp only [copperplateref07_Fold.l0] at H
   by_cases c6 : x6_1 < (t149.length : Int)
   ·rw [if_pos c6] at H
    have c6b0 : decide (x6_1 < (t149.length : Int)) = true := decide_eq_true c6
    clear c6
    by_cases c7 : 0 ≤ x6_1
    ·rw [if_pos c7] at H
     have c7b0 : decide (0 ≤ x6_1) = true := decide_eq_true c7
     clear c7
     by_cases c8 : x6_1 > 0
     ·rw [if_pos c8] at H
      have c8b0 : decide (0 < x6_1) = true := decide_eq_true c8
      clear c8
      by_cases c9 : t152 > 0
      ·rw [if_pos c9] at H
       have c9b0 : decide (0 < t152) = true := decide_eq_true c9
       clear c9
       replace H := Option.bind_eq_some_iff.mp H
       obtain ⟨t154, A100, H⟩ := H
       replace H : (if x5_1.length < 8796093022208 then (copperplateref07_Fold.l0 k1 t149 t152 (x5_1 ++ [t154]) (wrap64 (x6_1 + 1))) else (none)) = some r := H
       have A10 := Aside0.mk A100
       clear A100
       by_cases c11 : x5_1.length < 8796093022208
       ·rw [if_pos c11] at H
        have LMc11 := Aside0.mk c11
        clear c11
        obtain ⟨y155, hy155⟩ : ∃ y_ : List ByteArray, y_ = (x5_1 ++ [t154]) := ⟨_, rfl⟩
        replace H : (copperplateref07_Fold.l0 k1 t149 t152 y155 (wrap64 (x6_1 + 1))) = some r := by first | (rw [hy155]; with_reducible exact H) | (have H2_ := (Option.bind_some _ _).symm.trans H; rw [hy155]; with_reducible exact H2_) | (have H2_ := (Option.bind_some _ _).symm.trans H; with_reducible exact H2_) | with_reducible exact H | (rw [hy155]; exact H) | exact H
        have Ny155 := Aside0.mk hy155
        clear hy155
        have H' := Aside0.mk H
        clear H
        have p153 : 0 ≤ (x6_1 : Int) := of_decide_eq_true (by first | (with_reducible assumption) | assumption)
        have q153 : x6_1 < (t149.length : Int) := of_decide_eq_true (by first | (with_reducible assumption) | assumption)
        obtain ⟨ad153, e153, hx153_0⟩ := Kd.at_string (Kd.R_reads' HO_3.out).2.2 x6_1 p153 q153
        cases e153
        replace p153 := eq_true p153
        replace q153 := eq_true q153
        go_wp2_with (first | (go_at_call 82; (with_reducible refine (copperplateref07_cut.calls (rdOf ByteArray.empty t149 x6_1) t152 t154 _ A10.out).mono ?_); rintro e w' ⟨rfl, ⟨nd, rfl⟩⟩; (try first | exact ⟨rfl, _, World.drewN_drewN _ _ _⟩ | exact ⟨rfl, _, Eq.trans (World.drewN_drewN _ _ _) (congrArg (World.drewN _) (Nat.add_assoc _ _ _))⟩)) | ((with_reducible refine gate_builtin (b := .append) (xs := #[.tmp 33, .tmp 35]) rfl ?_); (try (refine gate_guard (by rfl) ?_; dsimp only)); at_builtin; refine Kd.Q_append Kd.string (w0 := w) w.heap.size rfl (.tmp 33) (.tmp 35) 67 9 (.string ⟨#[]⟩) 16 rfl Tryz.underlying67 info9 rfl (by decide) (by omega) u5 x5_1 t154 [.string t154] (fun k_ => some k_ ≠ (.slice (some ad153) t149.length co5 : Value).ownBlock) (fun _ => False) rfl rfl ?aP (fun _ hk => hk.elim) ?aF ?aO ?aB ?aS ?aL ?_; (case aP => exact rfl); (case aB => exact hbz); (case aF => exact (fun k_ hk => Kd.fresh' (Kd.R_lt (by (with_reducible repeat (first | apply Kd.R_alloc | apply Kd.R_drewN | apply Kd.R_drew)); exact HO_3.out)) k_ hk)); (case aO => exact (by (with_reducible repeat (first | apply Kd.Q_alloc | apply Kd.Q_drewN | apply Kd.Q_drew)); exact HO_5.out)); (case aS => exact (below_size hbz)); (case aL => have := LMc11.out; omega); intro v156 w12 ho hb hg hat; rw [← Ny155.out] at ho; have n0_ := Aside0.mk (Kd.R_after (ok := (fun _ => True)) (by (with_reducible repeat (first | apply Kd.R_alloc | apply Kd.R_drewN | apply Kd.R_drew)); exact Kd.R_mono HO_3.out (fun _ hk => ⟨trivial, hk⟩)) hg hat); have n1_ := Aside0.mk (hb); have n2_ := Aside0.mk (ho); clear HO_3; clear HB; clear HO_5; have HO_3 := n0_; have HB := n1_; have HO157 := n2_; clear n0_ n1_ n2_; clear ho hb hg hat))
        repeat (go_quiet (first | (go_at_call 82; (with_reducible refine (copperplateref07_cut.calls (rdOf ByteArray.empty t149 x6_1) t152 t154 _ A10.out).mono ?_); rintro e w' ⟨rfl, ⟨nd, rfl⟩⟩; (try first | exact ⟨rfl, _, World.drewN_drewN _ _ _⟩ | exact ⟨rfl, _, Eq.trans (World.drewN_drewN _ _ _) (congrArg (World.drewN _) (Nat.add_assoc _ _ _))⟩)) | ((with_reducible refine gate_builtin (b := .append) (xs := #[.tmp 33, .tmp 35]) rfl ?_); (try (refine gate_guard (by rfl) ?_; dsimp only)); at_builtin; refine Kd.Q_append Kd.string (w0 := w) w.heap.size rfl (.tmp 33) (.tmp 35) 67 9 (.string ⟨#[]⟩) 16 rfl Tryz.underlying67 info9 rfl (by decide) (by omega) u5 x5_1 t154 [.string t154] (fun k_ => some k_ ≠ (.slice (some ad153) t149.length co5 : Value).ownBlock) (fun _ => False) rfl rfl ?aP (fun _ hk => hk.elim) ?aF ?aO ?aB ?aS ?aL ?_; (case aP => exact rfl); (case aB => exact hbz); (case aF => exact (fun k_ hk => Kd.fresh' (Kd.R_lt (by (with_reducible repeat (first | apply Kd.R_alloc | apply Kd.R_drewN | apply Kd.R_drew)); exact HO_3.out)) k_ hk)); (case aO => exact (by (with_reducible repeat (first | apply Kd.Q_alloc | apply Kd.Q_drewN | apply Kd.Q_drew)); exact HO_5.out)); (case aS => exact (below_size hbz)); (case aL => have := LMc11.out; omega); intro v156 w12 ho hb hg hat; rw [← Ny155.out] at ho; have n0_ := Aside0.mk (Kd.R_after (ok := (fun _ => True)) (by (with_reducible repeat (first | apply Kd.R_alloc | apply Kd.R_drewN | apply Kd.R_drew)); exact Kd.R_mono HO_3.out (fun _ hk => ⟨trivial, hk⟩)) hg hat); have n1_ := Aside0.mk (hb); have n2_ := Aside0.mk (ho); clear HO_3; clear HB; clear HO_5; have HO_3 := n0_; have HB := n1_; have HO157 := n2_; clear n0_ n1_ n2_; clear ho hb hg hat)); try go_wp2_with (first | (go_at_call 82; (with_reducible refine (copperplateref07_cut.calls (rdOf ByteArray.empty t149 x6_1) t152 t154 _ A10.out).mono ?_); rintro e w' ⟨rfl, ⟨nd, rfl⟩⟩; (try first | exact ⟨rfl, _, World.drewN_drewN _ _ _⟩ | exact ⟨rfl, _, Eq.trans (World.drewN_drewN _ _ _) (congrArg (World.drewN _) (Nat.add_assoc _ _ _))⟩)) | ((with_reducible refine gate_builtin (b := .append) (xs := #[.tmp 33, .tmp 35]) rfl ?_); (try (refine gate_guard (by rfl) ?_; dsimp only)); at_builtin; refine Kd.Q_append Kd.string (w0 := w) w.heap.size rfl (.tmp 33) (.tmp 35) 67 9 (.string ⟨#[]⟩) 16 rfl Tryz.underlying67 info9 rfl (by decide) (by omega) u5 x5_1 t154 [.string t154] (fun k_ => some k_ ≠ (.slice (some ad153) t149.length co5 : Value).ownBlock) (fun _ => False) rfl rfl ?aP (fun _ hk => hk.elim) ?aF ?aO ?aB ?aS ?aL ?_; (case aP => exact rfl); (case aB => exact hbz); (case aF => exact (fun k_ hk => Kd.fresh' (Kd.R_lt (by (with_reducible repeat (first | apply Kd.R_alloc | apply Kd.R_drewN | apply Kd.R_drew)); exact HO_3.out)) k_ hk)); (case aO => exact (by (with_reducible repeat (first | apply Kd.Q_alloc | apply Kd.Q_drewN | apply Kd.Q_drew)); exact HO_5.out)); (case aS => exact (below_size hbz)); (case aL => have := LMc11.out; omega); intro v156 w12 ho hb hg hat; rw [← Ny155.out] at ho; have n0_ := Aside0.mk (Kd.R_after (ok := (fun _ => True)) (by (with_reducible repeat (first | apply Kd.R_alloc | apply Kd.R_drewN | apply Kd.R_drew)); exact Kd.R_mono HO_3.out (fun _ hk => ⟨trivial, hk⟩)) hg hat); have n1_ := Aside0.mk (hb); have n2_ := Aside0.mk (ho); clear HO_3; clear HB; clear HO_5; have HO_3 := n0_; have HB := n1_; have HO157 := n2_; clear n0_ n1_ n2_; clear ho hb hg hat)))
        go_roundg k1
        case measure => have := HK1.out; omega
        case rel => exact ⟨(y155), (wrap64 (x6_1 + 1)), (by first | rfl | (simp; done) | (simp [*]; done)), H', ⟨by have := HK1.out; omega⟩, ⟨by (with_reducible repeat (first | apply Kd.R_alloc | apply Kd.R_drewN | apply Kd.R_drew)); exact Kd.R_mono HO_3.out (fun _ hk => hk.2)⟩, ⟨by (with_reducible repeat (first | apply Kd.Q_alloc | apply Kd.Q_drewN | apply Kd.Q_drew)); exact HO157.out⟩, ⟨hbz⟩⟩
       ·rw [if_neg c11] at H
        exact absurd H (by simp)
      ·rw [if_neg c9] at H
       have c9b0 : decide (0 < t152) = false := decide_eq_false c9
       clear c9
       by_cases c13 : x5_1.length < 8796093022208
       ·rw [if_pos c13] at H
        have LMc13 := Aside0.mk c13
        clear c13
        obtain ⟨y158, hy158⟩ : ∃ y_ : List ByteArray, y_ = (x5_1 ++ [rdOf ByteArray.empty t149 x6_1]) := ⟨_, rfl⟩
        replace H : (copperplateref07_Fold.l0 k1 t149 t152 y158 (wrap64 (x6_1 + 1))) = some r := by first | (rw [hy158]; with_reducible exact H) | (have H2_ := (Option.bind_some _ _).symm.trans H; rw [hy158]; with_reducible exact H2_) | (have H2_ := (Option.bind_some _ _).symm.trans H; with_reducible exact H2_) | with_reducible exact H | (rw [hy158]; exact H) | exact H
        have Ny158 := Aside0.mk hy158
        clear hy158
        have H' := Aside0.mk H
        clear H
        have p153 : 0 ≤ (x6_1 : Int) := of_decide_eq_true (by first | (with_reducible assumption) | assumption)
        have q153 : x6_1 < (t149.length : Int) := of_decide_eq_true (by first | (with_reducible assumption) | assumption)
        obtain ⟨ad153, e153, hx153_0⟩ := Kd.at_string (Kd.R_reads' HO_3.out).2.2 x6_1 p153 q153
        cases e153
        replace p153 := eq_true p153
        replace q153 := eq_true q153
        go_wp2_with (first | ((with_reducible refine gate_builtin (b := .append) (xs := #[.tmp 33, .tmp 35]) rfl ?_); (try (refine gate_guard (by rfl) ?_; dsimp only)); at_builtin; refine Kd.Q_append Kd.string (w0 := w) w.heap.size rfl (.tmp 33) (.tmp 35) 67 9 (.string ⟨#[]⟩) 16 rfl Tryz.underlying67 info9 rfl (by decide) (by omega) u5 x5_1 (rdOf ByteArray.empty t149 x6_1) [.string (rdOf ByteArray.empty t149 x6_1)] (fun k_ => some k_ ≠ (.slice (some ad153) t149.length co5 : Value).ownBlock) (fun _ => False) rfl rfl ?aP (fun _ hk => hk.elim) ?aF ?aO ?aB ?aS ?aL ?_; (case aP => exact rfl); (case aB => exact hbz); (case aF => exact (fun k_ hk => Kd.fresh' (Kd.R_lt (by (with_reducible repeat (first | apply Kd.R_alloc | apply Kd.R_drewN | apply Kd.R_drew)); exact HO_3.out)) k_ hk)); (case aO => exact (by (with_reducible repeat (first | apply Kd.Q_alloc | apply Kd.Q_drewN | apply Kd.Q_drew)); exact HO_5.out)); (case aS => exact (below_size hbz)); (case aL => have := LMc13.out; omega); intro v159 w14 ho hb hg hat; rw [← Ny158.out] at ho; have n0_ := Aside0.mk (Kd.R_after (ok := (fun _ => True)) (by (with_reducible repeat (first | apply Kd.R_alloc | apply Kd.R_drewN | apply Kd.R_drew)); exact Kd.R_mono HO_3.out (fun _ hk => ⟨trivial, hk⟩)) hg hat); have n1_ := Aside0.mk (hb); have n2_ := Aside0.mk (ho); clear HO_3; clear HB; clear HO_5; have HO_3 := n0_; have HB := n1_; have HO160 := n2_; clear n0_ n1_ n2_; clear ho hb hg hat))
        repeat (go_quiet (first | ((with_reducible refine gate_builtin (b := .append) (xs := #[.tmp 33, .tmp 35]) rfl ?_); (try (refine gate_guard (by rfl) ?_; dsimp only)); at_builtin; refine Kd.Q_append Kd.string (w0 := w) w.heap.size rfl (.tmp 33) (.tmp 35) 67 9 (.string ⟨#[]⟩) 16 rfl Tryz.underlying67 info9 rfl (by decide) (by omega) u5 x5_1 (rdOf ByteArray.empty t149 x6_1) [.string (rdOf ByteArray.empty t149 x6_1)] (fun k_ => some k_ ≠ (.slice (some ad153) t149.length co5 : Value).ownBlock) (fun _ => False) rfl rfl ?aP (fun _ hk => hk.elim) ?aF ?aO ?aB ?aS ?aL ?_; (case aP => exact rfl); (case aB => exact hbz); (case aF => exact (fun k_ hk => Kd.fresh' (Kd.R_lt (by (with_reducible repeat (first | apply Kd.R_alloc | apply Kd.R_drewN | apply Kd.R_drew)); exact HO_3.out)) k_ hk)); (case aO => exact (by (with_reducible repeat (first | apply Kd.Q_alloc | apply Kd.Q_drewN | apply Kd.Q_drew)); exact HO_5.out)); (case aS => exact (below_size hbz)); (case aL => have := LMc13.out; omega); intro v159 w14 ho hb hg hat; rw [← Ny158.out] at ho; have n0_ := Aside0.mk (Kd.R_after (ok := (fun _ => True)) (by (with_reducible repeat (first | apply Kd.R_alloc | apply Kd.R_drewN | apply Kd.R_drew)); exact Kd.R_mono HO_3.out (fun _ hk => ⟨trivial, hk⟩)) hg hat); have n1_ := Aside0.mk (hb); have n2_ := Aside0.mk (ho); clear HO_3; clear HB; clear HO_5; have HO_3 := n0_; have HB := n1_; have HO160 := n2_; clear n0_ n1_ n2_; clear ho hb hg hat)); try go_wp2_with (first | ((with_reducible refine gate_builtin (b := .append) (xs := #[.tmp 33, .tmp 35]) rfl ?_); (try (refine gate_guard (by rfl) ?_; dsimp only)); at_builtin; refine Kd.Q_append Kd.string (w0 := w) w.heap.size rfl (.tmp 33) (.tmp 35) 67 9 (.string ⟨#[]⟩) 16 rfl Tryz.underlying67 info9 rfl (by decide) (by omega) u5 x5_1 (rdOf ByteArray.empty t149 x6_1) [.string (rdOf ByteArray.empty t149 x6_1)] (fun k_ => some k_ ≠ (.slice (some ad153) t149.length co5 : Value).ownBlock) (fun _ => False) rfl rfl ?aP (fun _ hk => hk.elim) ?aF ?aO ?aB ?aS ?aL ?_; (case aP => exact rfl); (case aB => exact hbz); (case aF => exact (fun k_ hk => Kd.fresh' (Kd.R_lt (by (with_reducible repeat (first | apply Kd.R_alloc | apply Kd.R_drewN | apply Kd.R_drew)); exact HO_3.out)) k_ hk)); (case aO => exact (by (with_reducible repeat (first | apply Kd.Q_alloc | apply Kd.Q_drewN | apply Kd.Q_drew)); exact HO_5.out)); (case aS => exact (below_size hbz)); (case aL => have := LMc13.out; omega); intro v159 w14 ho hb hg hat; rw [← Ny158.out] at ho; have n0_ := Aside0.mk (Kd.R_after (ok := (fun _ => True)) (by (with_reducible repeat (first | apply Kd.R_alloc | apply Kd.R_drewN | apply Kd.R_drew)); exact Kd.R_mono HO_3.out (fun _ hk => ⟨trivial, hk⟩)) hg hat); have n1_ := Aside0.mk (hb); have n2_ := Aside0.mk (ho); clear HO_3; clear HB; clear HO_5; have HO_3 := n0_; have HB := n1_; have HO160 := n2_; clear n0_ n1_ n2_; clear ho hb hg hat)))
        go_roundg k1
        case measure => have := HK1.out; omega
        case rel => exact ⟨(y158), (wrap64 (x6_1 + 1)), (by first | rfl | (simp; done) | (simp [*]; done)), H', ⟨by have := HK1.out; omega⟩, ⟨by (with_reducible repeat (first | apply Kd.R_alloc | apply Kd.R_drewN | apply Kd.R_drew)); exact Kd.R_mono HO_3.out (fun _ hk => hk.2)⟩, ⟨by (with_reducible repeat (first | apply Kd.Q_alloc | apply Kd.Q_drewN | apply Kd.Q_drew)); exact HO160.out⟩, ⟨hbz⟩⟩
       ·rw [if_neg c13] at H
        exact absurd H (by simp)
     ·rw [if_neg c8] at H
      have c8b0 : decide (0 < x6_1) = false := decide_eq_false c8
      clear c8
      by_cases c15 : x5_1.length < 8796093022208
      ·rw [if_pos c15] at H
       have LMc15 := Aside0.mk c15
       clear c15
       obtain ⟨y161, hy161⟩ : ∃ y_ : List ByteArray, y_ = (x5_1 ++ [rdOf ByteArray.empty t149 x6_1]) := ⟨_, rfl⟩
       replace H : (copperplateref07_Fold.l0 k1 t149 t152 y161 (wrap64 (x6_1 + 1))) = some r := by first | (rw [hy161]; with_reducible exact H) | (have H2_ := (Option.bind_some _ _).symm.trans H; rw [hy161]; with_reducible exact H2_) | (have H2_ := (Option.bind_some _ _).symm.trans H; with_reducible exact H2_) | with_reducible exact H | (rw [hy161]; exact H) | exact H
       have Ny161 := Aside0.mk hy161
       clear hy161
       have H' := Aside0.mk H
       clear H
       have p153 : 0 ≤ (x6_1 : Int) := of_decide_eq_true (by first | (with_reducible assumption) | assumption)
       have q153 : x6_1 < (t149.length : Int) := of_decide_eq_true (by first | (with_reducible assumption) | assumption)
       obtain ⟨ad153, e153, hx153_0⟩ := Kd.at_string (Kd.R_reads' HO_3.out).2.2 x6_1 p153 q153
       cases e153
       replace p153 := eq_true p153
       replace q153 := eq_true q153
       go_wp2_with (first | ((with_reducible refine gate_builtin (b := .append) (xs := #[.tmp 33, .tmp 35]) rfl ?_); (try (refine gate_guard (by rfl) ?_; dsimp only)); at_builtin; refine Kd.Q_append Kd.string (w0 := w) w.heap.size rfl (.tmp 33) (.tmp 35) 67 9 (.string ⟨#[]⟩) 16 rfl Tryz.underlying67 info9 rfl (by decide) (by omega) u5 x5_1 (rdOf ByteArray.empty t149 x6_1) [.string (rdOf ByteArray.empty t149 x6_1)] (fun k_ => some k_ ≠ (.slice (some ad153) t149.length co5 : Value).ownBlock) (fun _ => False) rfl rfl ?aP (fun _ hk => hk.elim) ?aF ?aO ?aB ?aS ?aL ?_; (case aP => exact rfl); (case aB => exact hbz); (case aF => exact (fun k_ hk => Kd.fresh' (Kd.R_lt (by (with_reducible repeat (first | apply Kd.R_alloc | apply Kd.R_drewN | apply Kd.R_drew)); exact HO_3.out)) k_ hk)); (case aO => exact (by (with_reducible repeat (first | apply Kd.Q_alloc | apply Kd.Q_drewN | apply Kd.Q_drew)); exact HO_5.out)); (case aS => exact (below_size hbz)); (case aL => have := LMc15.out; omega); intro v162 w16 ho hb hg hat; rw [← Ny161.out] at ho; have n0_ := Aside0.mk (Kd.R_after (ok := (fun _ => True)) (by (with_reducible repeat (first | apply Kd.R_alloc | apply Kd.R_drewN | apply Kd.R_drew)); exact Kd.R_mono HO_3.out (fun _ hk => ⟨trivial, hk⟩)) hg hat); have n1_ := Aside0.mk (hb); have n2_ := Aside0.mk (ho); clear HO_3; clear HB; clear HO_5; have HO_3 := n0_; have HB := n1_; have HO163 := n2_; clear n0_ n1_ n2_; clear ho hb hg hat))
       repeat (go_quiet (first | ((with_reducible refine gate_builtin (b := .append) (xs := #[.tmp 33, .tmp 35]) rfl ?_); (try (refine gate_guard (by rfl) ?_; dsimp only)); at_builtin; refine Kd.Q_append Kd.string (w0 := w) w.heap.size rfl (.tmp 33) (.tmp 35) 67 9 (.string ⟨#[]⟩) 16 rfl Tryz.underlying67 info9 rfl (by decide) (by omega) u5 x5_1 (rdOf ByteArray.empty t149 x6_1) [.string (rdOf ByteArray.empty t149 x6_1)] (fun k_ => some k_ ≠ (.slice (some ad153) t149.length co5 : Value).ownBlock) (fun _ => False) rfl rfl ?aP (fun _ hk => hk.elim) ?aF ?aO ?aB ?aS ?aL ?_; (case aP => exact rfl); (case aB => exact hbz); (case aF => exact (fun k_ hk => Kd.fresh' (Kd.R_lt (by (with_reducible repeat (first | apply Kd.R_alloc | apply Kd.R_drewN | apply Kd.R_drew)); exact HO_3.out)) k_ hk)); (case aO => exact (by (with_reducible repeat (first | apply Kd.Q_alloc | apply Kd.Q_drewN | apply Kd.Q_drew)); exact HO_5.out)); (case aS => exact (below_size hbz)); (case aL => have := LMc15.out; omega); intro v162 w16 ho hb hg hat; rw [← Ny161.out] at ho; have n0_ := Aside0.mk (Kd.R_after (ok := (fun _ => True)) (by (with_reducible repeat (first | apply Kd.R_alloc | apply Kd.R_drewN | apply Kd.R_drew)); exact Kd.R_mono HO_3.out (fun _ hk => ⟨trivial, hk⟩)) hg hat); have n1_ := Aside0.mk (hb); have n2_ := Aside0.mk (ho); clear HO_3; clear HB; clear HO_5; have HO_3 := n0_; have HB := n1_; have HO163 := n2_; clear n0_ n1_ n2_; clear ho hb hg hat)); try go_wp2_with (first | ((with_reducible refine gate_builtin (b := .append) (xs := #[.tmp 33, .tmp 35]) rfl ?_); (try (refine gate_guard (by rfl) ?_; dsimp only)); at_builtin; refine Kd.Q_append Kd.string (w0 := w) w.heap.size rfl (.tmp 33) (.tmp 35) 67 9 (.string ⟨#[]⟩) 16 rfl Tryz.underlying67 info9 rfl (by decide) (by omega) u5 x5_1 (rdOf ByteArray.empty t149 x6_1) [.string (rdOf ByteArray.empty t149 x6_1)] (fun k_ => some k_ ≠ (.slice (some ad153) t149.length co5 : Value).ownBlock) (fun _ => False) rfl rfl ?aP (fun _ hk => hk.elim) ?aF ?aO ?aB ?aS ?aL ?_; (case aP => exact rfl); (case aB => exact hbz); (case aF => exact (fun k_ hk => Kd.fresh' (Kd.R_lt (by (with_reducible repeat (first | apply Kd.R_alloc | apply Kd.R_drewN | apply Kd.R_drew)); exact HO_3.out)) k_ hk)); (case aO => exact (by (with_reducible repeat (first | apply Kd.Q_alloc | apply Kd.Q_drewN | apply Kd.Q_drew)); exact HO_5.out)); (case aS => exact (below_size hbz)); (case aL => have := LMc15.out; omega); intro v162 w16 ho hb hg hat; rw [← Ny161.out] at ho; have n0_ := Aside0.mk (Kd.R_after (ok := (fun _ => True)) (by (with_reducible repeat (first | apply Kd.R_alloc | apply Kd.R_drewN | apply Kd.R_drew)); exact Kd.R_mono HO_3.out (fun _ hk => ⟨trivial, hk⟩)) hg hat); have n1_ := Aside0.mk (hb); have n2_ := Aside0.mk (ho); clear HO_3; clear HB; clear HO_5; have HO_3 := n0_; have HB := n1_; have HO163 := n2_; clear n0_ n1_ n2_; clear ho hb hg hat)))
       go_roundg k1
       case measure => have := HK1.out; omega
       case rel => exact ⟨(y161), (wrap64 (x6_1 + 1)), (by first | rfl | (simp; done) | (simp [*]; done)), H', ⟨by have := HK1.out; omega⟩, ⟨by (with_reducible repeat (first | apply Kd.R_alloc | apply Kd.R_drewN | apply Kd.R_drew)); exact Kd.R_mono HO_3.out (fun _ hk => hk.2)⟩, ⟨by (with_reducible repeat (first | apply Kd.Q_alloc | apply Kd.Q_drewN | apply Kd.Q_drew)); exact HO163.out⟩, ⟨hbz⟩⟩
      ·rw [if_neg c15] at H
       exact absurd H (by simp)
    ·rw [if_neg c7] at H
     exact absurd H (by simp)
   ·rw [if_neg c6] at H
    have c6b0 : decide (x6_1 < (t149.length : Int)) = false := decide_eq_false c6
    clear c6
    have HC17 := Aside0.mk H
    clear H
    go_upto_block 2 with (fail)
    repeat (go_quiet (fail); go_upto_block 2 with (fail))
    go_cut [5] (fun v5 wc => ∃ (kq : Nat) (x5_16 : List ByteArray), Aside0 (copperplateref07_Fold.j2 kq x5_16 = some r) ∧ Aside0 (kq ≤ k1) ∧ Aside0 (Kd.Q Kd.string 9 wc w.heap.size (fun _ => True) v5 x5_16) ∧ Aside0 (Below w.heap.size w wc))
    case first =>
     have H := HC17.out
     clear HC17
     have H' := Aside0.mk H
     clear H
     go_wp2
     repeat (go_quiet (fail); try go_wp2)
     go_loopg [5] k1 (fun kq v5 w' => ∃ (x5_2 : List ByteArray), Aside0 (copperplateref07_Fold.l1 kq x5_2 = some r) ∧ Aside0 (kq ≤ k1) ∧ Aside0 (Kd.Q Kd.string 9 w' w.heap.size (fun _ => True) v5 x5_2) ∧ Aside0 (Below w.heap.size w w'))
     case atStart => exact ⟨(x5_1), H', ⟨Nat.le_refl _⟩, ⟨by (with_reducible repeat (first | apply Kd.Q_alloc | apply Kd.Q_drewN | apply Kd.Q_drew)); exact Kd.Q_mono HO_5.out (fun _ hk => trivial)⟩, ⟨hbz⟩⟩
     case round =>
      clear H'
      try clear c1
      try clear p1
      try clear q1
      try clear hx1
      try clear p2
      try clear c6
      try clear c6b0
      try clear p6
      try clear c7
      try clear c7b0
      try clear c8
      try clear c8b0
      try clear c9
      try clear c9b0
      try clear c11
      try clear c13
      try clear c15
      try clear p15
      try clear q15
      try clear hx15
      try clear hx153_0
      try clear p153
      try clear p2
      try clear q153
      obtain ⟨x5_2, HA, HK2, HO_5, HB⟩ := hrel
      cases gk with
      | zero => exact absurd HA.out (by simp [copperplateref07_Fold.l1])
      | succ k2 =>
       have H := HA.out
       clear HA
       simp only [copperplateref07_Fold.l1] at H
       by_cases c18 : (x5_2.length : Int) > 0
       ·rw [if_pos c18] at H
        have c18b0 : decide (0 < (x5_2.length : Int)) = true := decide_eq_true c18
        have c18b1 : decide (0 < x5_2.length) = true := decide_eq_true (by omega)
        clear c18
        (first | rw [c18b0] | (simp only [i64_w, i32_w]; rw [c18b0]) | skip)
        by_cases c19 : 0 < (x5_2.length : Int)
        ·rw [if_pos c19] at H
         have c19b0 : decide (0 < (x5_2.length : Int)) = true := decide_eq_true c19
         have c19b1 : decide (0 < x5_2.length) = true := decide_eq_true (by omega)
         clear c19
         replace H := Option.bind_eq_some_iff.mp H
         obtain ⟨t165, A200, H⟩ := H
         replace H : (if t165 = ((rdOf ByteArray.empty x5_2 0).size : Int) then (if 1 ≤ (x5_2.length : Int) then (copperplateref07_Fold.l1 k2 (x5_2.drop (1 : Int).toNat)) else (none)) else (copperplateref07_Fold.j2 k2 x5_2)) = some r := H
         have A20 := Aside0.mk A200
         clear A200
         by_cases c21 : t165 = ((rdOf ByteArray.empty x5_2 0).size : Int)
         ·rw [if_pos c21] at H
          have c21b0 : (t165 == ((rdOf ByteArray.empty x5_2 0).size : Int)) = true := beq_iff_eq.mpr c21
          have c21b1 : (t165 != ((rdOf ByteArray.empty x5_2 0).size : Int)) = false := bne_eq_false_iff_eq.mpr c21
          clear c21
          by_cases c22 : 1 ≤ (x5_2.length : Int)
          ·rw [if_pos c22] at H
           have c22b0 := eq_true c22
           have c22b1 : decide (1 ≤ (x5_2.length : Int)) = true := decide_eq_true c22
           clear c22
           obtain ⟨y167, hy167⟩ : ∃ y_ : List ByteArray, y_ = (x5_2.drop (1 : Int).toNat) := ⟨_, rfl⟩
           replace H : (copperplateref07_Fold.l1 k2 y167) = some r := by first | (rw [hy167]; with_reducible exact H) | (have H2_ := (Option.bind_some _ _).symm.trans H; rw [hy167]; with_reducible exact H2_) | (have H2_ := (Option.bind_some _ _).symm.trans H; with_reducible exact H2_) | with_reducible exact H | (rw [hy167]; exact H) | exact H
           have Ny167 := Aside0.mk hy167
           clear hy167
           have H' := Aside0.mk H
           clear H
           obtain ⟨Ao23, co23, eo23, _⟩ := Kd.Q_slice HO_5.out
           subst eo23
           have p164 : 0 ≤ (0 : Int) := (by omega)
           have q164 : 0 < (x5_2.length : Int) := of_decide_eq_true (by first | (with_reducible assumption) | assumption)
           obtain ⟨ad164, e164, hx164_0⟩ := Kd.at_string (Kd.Q_reads' HO_5.out).2.2 0 p164 q164
           cases e164
           have qi164 : (0 < x5_2.length) = True := eq_true (by omega)
           (try rw [show ((0 : Int)).toNat = 0 from rfl] at hx164_0)
           (try rw [Addr.add_zero'] at hx164_0)
           replace p164 := eq_true p164
           replace q164 := eq_true q164
           go_wp2_with (first | (go_at_call 83; (with_reducible refine (copperplateref07_Margin.calls k2 (rdOf ByteArray.empty x5_2 0) t165 _ A20.out).mono ?_); rintro e w' ⟨rfl, ⟨nd, rfl⟩⟩; (try first | exact ⟨rfl, _, World.drewN_drewN _ _ _⟩ | exact ⟨rfl, _, Eq.trans (World.drewN_drewN _ _ _) (congrArg (World.drewN _) (Nat.add_assoc _ _ _))⟩); have p166 : 0 ≤ (0 : Int) := (by omega); have q166 : 0 < (x5_2.length : Int) := of_decide_eq_true (by first | (with_reducible assumption) | assumption); obtain ⟨ad166, e166, hx166_0⟩ := Kd.at_string (Kd.Q_reads' HO_5.out).2.2 0 p166 q166; obtain rfl : ad164 = ad166 := (by injection e166); have qi166 : (0 < x5_2.length) = True := eq_true (by omega); (try rw [show ((0 : Int)).toNat = 0 from rfl] at hx166_0); (try rw [Addr.add_zero'] at hx166_0); replace p166 := eq_true p166; replace q166 := eq_true q166; have q24 : (1 : Int) ≤ ((x5_2.length : Int) : Int) := of_decide_eq_true (by first | (with_reducible assumption) | assumption); obtain ⟨i024, hi024, _, hsz24, _⟩ := info_parts info9; have hcut24 := cut_from (P := Tryz.prog) 67 9 .i64 Tryz.underlying67 hi024 1 hsz24 (some ad164) x5_2.length co23 1 (by omega) q24; have hr24 := Kd.Q_drop (k := (1 : Int).toNat) HO_5.out (by omega); obtain ⟨A24, hA24⟩ : ∃ A1, A1 = (if co23 = (1 : Int).toNat then (some ad164) else ((some ad164) : Option Addr).map (·.add ((1 : Int).toNat * 1))) := ⟨_, rfl⟩; obtain ⟨c24, hc24⟩ : ∃ c1, c1 = co23 - (1 : Int).toNat := ⟨_, rfl⟩; have hy24 : y167.length = x5_2.length - (1 : Int).toNat := (by rw [Ny167.out, List.length_drop]); rw [← Ny167.out] at hr24; rw [← hy24, ← hA24, ← hc24] at hcut24; replace hr24 : Kd.Q Kd.string 9 wr w.heap.size (fun _ => True) (.slice A24 y167.length c24) y167 := (by rw [hA24, hc24, hy24]; exact hr24); have HE24 : Aside0 ((Value.slice A24 y167.length c24).ownBlock = (.slice (some ad164) x5_2.length co23 : Value).ownBlock) := ⟨by rw [hA24]; split <;> (cases ((some ad164) : Option Addr) <;> rfl)⟩; clear hy24 hi024 hsz24 HO_5 hA24 hc24; have HO169 := Aside0.mk hr24; clear hr24; replace q24 := eq_true q24))
           repeat (go_quiet (first | (go_at_call 83; (with_reducible refine (copperplateref07_Margin.calls k2 (rdOf ByteArray.empty x5_2 0) t165 _ A20.out).mono ?_); rintro e w' ⟨rfl, ⟨nd, rfl⟩⟩; (try first | exact ⟨rfl, _, World.drewN_drewN _ _ _⟩ | exact ⟨rfl, _, Eq.trans (World.drewN_drewN _ _ _) (congrArg (World.drewN _) (Nat.add_assoc _ _ _))⟩); have p166 : 0 ≤ (0 : Int) := (by omega); have q166 : 0 < (x5_2.length : Int) := of_decide_eq_true (by first | (with_reducible assumption) | assumption); obtain ⟨ad166, e166, hx166_0⟩ := Kd.at_string (Kd.Q_reads' HO_5.out).2.2 0 p166 q166; obtain rfl : ad164 = ad166 := (by injection e166); have qi166 : (0 < x5_2.length) = True := eq_true (by omega); (try rw [show ((0 : Int)).toNat = 0 from rfl] at hx166_0); (try rw [Addr.add_zero'] at hx166_0); replace p166 := eq_true p166; replace q166 := eq_true q166; have q24 : (1 : Int) ≤ ((x5_2.length : Int) : Int) := of_decide_eq_true (by first | (with_reducible assumption) | assumption); obtain ⟨i024, hi024, _, hsz24, _⟩ := info_parts info9; have hcut24 := cut_from (P := Tryz.prog) 67 9 .i64 Tryz.underlying67 hi024 1 hsz24 (some ad164) x5_2.length co23 1 (by omega) q24; have hr24 := Kd.Q_drop (k := (1 : Int).toNat) HO_5.out (by omega); obtain ⟨A24, hA24⟩ : ∃ A1, A1 = (if co23 = (1 : Int).toNat then (some ad164) else ((some ad164) : Option Addr).map (·.add ((1 : Int).toNat * 1))) := ⟨_, rfl⟩; obtain ⟨c24, hc24⟩ : ∃ c1, c1 = co23 - (1 : Int).toNat := ⟨_, rfl⟩; have hy24 : y167.length = x5_2.length - (1 : Int).toNat := (by rw [Ny167.out, List.length_drop]); rw [← Ny167.out] at hr24; rw [← hy24, ← hA24, ← hc24] at hcut24; replace hr24 : Kd.Q Kd.string 9 wr w.heap.size (fun _ => True) (.slice A24 y167.length c24) y167 := (by rw [hA24, hc24, hy24]; exact hr24); have HE24 : Aside0 ((Value.slice A24 y167.length c24).ownBlock = (.slice (some ad164) x5_2.length co23 : Value).ownBlock) := ⟨by rw [hA24]; split <;> (cases ((some ad164) : Option Addr) <;> rfl)⟩; clear hy24 hi024 hsz24 HO_5 hA24 hc24; have HO169 := Aside0.mk hr24; clear hr24; replace q24 := eq_true q24)); try go_wp2_with (first | (go_at_call 83; (with_reducible refine (copperplateref07_Margin.calls k2 (rdOf ByteArray.empty x5_2 0) t165 _ A20.out).mono ?_); rintro e w' ⟨rfl, ⟨nd, rfl⟩⟩; (try first | exact ⟨rfl, _, World.drewN_drewN _ _ _⟩ | exact ⟨rfl, _, Eq.trans (World.drewN_drewN _ _ _) (congrArg (World.drewN _) (Nat.add_assoc _ _ _))⟩); have p166 : 0 ≤ (0 : Int) := (by omega); have q166 : 0 < (x5_2.length : Int) := of_decide_eq_true (by first | (with_reducible assumption) | assumption); obtain ⟨ad166, e166, hx166_0⟩ := Kd.at_string (Kd.Q_reads' HO_5.out).2.2 0 p166 q166; obtain rfl : ad164 = ad166 := (by injection e166); have qi166 : (0 < x5_2.length) = True := eq_true (by omega); (try rw [show ((0 : Int)).toNat = 0 from rfl] at hx166_0); (try rw [Addr.add_zero'] at hx166_0); replace p166 := eq_true p166; replace q166 := eq_true q166; have q24 : (1 : Int) ≤ ((x5_2.length : Int) : Int) := of_decide_eq_true (by first | (with_reducible assumption) | assumption); obtain ⟨i024, hi024, _, hsz24, _⟩ := info_parts info9; have hcut24 := cut_from (P := Tryz.prog) 67 9 .i64 Tryz.underlying67 hi024 1 hsz24 (some ad164) x5_2.length co23 1 (by omega) q24; have hr24 := Kd.Q_drop (k := (1 : Int).toNat) HO_5.out (by omega); obtain ⟨A24, hA24⟩ : ∃ A1, A1 = (if co23 = (1 : Int).toNat then (some ad164) else ((some ad164) : Option Addr).map (·.add ((1 : Int).toNat * 1))) := ⟨_, rfl⟩; obtain ⟨c24, hc24⟩ : ∃ c1, c1 = co23 - (1 : Int).toNat := ⟨_, rfl⟩; have hy24 : y167.length = x5_2.length - (1 : Int).toNat := (by rw [Ny167.out, List.length_drop]); rw [← Ny167.out] at hr24; rw [← hy24, ← hA24, ← hc24] at hcut24; replace hr24 : Kd.Q Kd.string 9 wr w.heap.size (fun _ => True) (.slice A24 y167.length c24) y167 := (by rw [hA24, hc24, hy24]; exact hr24); have HE24 : Aside0 ((Value.slice A24 y167.length c24).ownBlock = (.slice (some ad164) x5_2.length co23 : Value).ownBlock) := ⟨by rw [hA24]; split <;> (cases ((some ad164) : Option Addr) <;> rfl)⟩; clear hy24 hi024 hsz24 HO_5 hA24 hc24; have HO169 := Aside0.mk hr24; clear hr24; replace q24 := eq_true q24)))
           go_roundg k2
           case measure => have := HK1.out; have := HK2.out; omega
           case rel => exact ⟨(y167), H', ⟨by have := HK1.out; have := HK2.out; omega⟩, ⟨by (with_reducible repeat (first | apply Kd.Q_alloc | apply Kd.Q_drewN | apply Kd.Q_drew)); exact HO169.out⟩, ⟨hbz⟩⟩
          ·rw [if_neg c22] at H
           exact absurd H (by simp)
         ·rw [if_neg c21] at H
          have c21b0 : (t165 == ((rdOf ByteArray.empty x5_2 0).size : Int)) = false := beq_eq_false_iff_ne.mpr c21
          have c21b1 : (t165 != ((rdOf ByteArray.empty x5_2 0).size : Int)) = true := bne_iff_ne.mpr c21
          have H' := Aside0.mk H
          clear H
          obtain ⟨Ao25, co25, eo25, _⟩ := Kd.Q_slice HO_5.out
          subst eo25
          have p164 : 0 ≤ (0 : Int) := (by omega)
          have q164 : 0 < (x5_2.length : Int) := of_decide_eq_true (by first | (with_reducible assumption) | assumption)
          obtain ⟨ad164, e164, hx164_0⟩ := Kd.at_string (Kd.Q_reads' HO_5.out).2.2 0 p164 q164
          cases e164
          have qi164 : (0 < x5_2.length) = True := eq_true (by omega)
          (try rw [show ((0 : Int)).toNat = 0 from rfl] at hx164_0)
          (try rw [Addr.add_zero'] at hx164_0)
          replace p164 := eq_true p164
          replace q164 := eq_true q164
          go_wp2_with (first | (go_at_call 83; (with_reducible refine (copperplateref07_Margin.calls k2 (rdOf ByteArray.empty x5_2 0) t165 _ A20.out).mono ?_); rintro e w' ⟨rfl, ⟨nd, rfl⟩⟩; (try first | exact ⟨rfl, _, World.drewN_drewN _ _ _⟩ | exact ⟨rfl, _, Eq.trans (World.drewN_drewN _ _ _) (congrArg (World.drewN _) (Nat.add_assoc _ _ _))⟩); have p166 : 0 ≤ (0 : Int) := (by omega); have q166 : 0 < (x5_2.length : Int) := of_decide_eq_true (by first | (with_reducible assumption) | assumption); obtain ⟨ad166, e166, hx166_0⟩ := Kd.at_string (Kd.Q_reads' HO_5.out).2.2 0 p166 q166; obtain rfl : ad164 = ad166 := (by injection e166); have qi166 : (0 < x5_2.length) = True := eq_true (by omega); (try rw [show ((0 : Int)).toNat = 0 from rfl] at hx166_0); (try rw [Addr.add_zero'] at hx166_0); replace p166 := eq_true p166; replace q166 := eq_true q166))
          repeat (go_quiet (first | (go_at_call 83; (with_reducible refine (copperplateref07_Margin.calls k2 (rdOf ByteArray.empty x5_2 0) t165 _ A20.out).mono ?_); rintro e w' ⟨rfl, ⟨nd, rfl⟩⟩; (try first | exact ⟨rfl, _, World.drewN_drewN _ _ _⟩ | exact ⟨rfl, _, Eq.trans (World.drewN_drewN _ _ _) (congrArg (World.drewN _) (Nat.add_assoc _ _ _))⟩); have p166 : 0 ≤ (0 : Int) := (by omega); have q166 : 0 < (x5_2.length : Int) := of_decide_eq_true (by first | (with_reducible assumption) | assumption); obtain ⟨ad166, e166, hx166_0⟩ := Kd.at_string (Kd.Q_reads' HO_5.out).2.2 0 p166 q166; obtain rfl : ad164 = ad166 := (by injection e166); have qi166 : (0 < x5_2.length) = True := eq_true (by omega); (try rw [show ((0 : Int)).toNat = 0 from rfl] at hx166_0); (try rw [Addr.add_zero'] at hx166_0); replace p166 := eq_true p166; replace q166 := eq_true q166)); try go_wp2_with (first | (go_at_call 83; (with_reducible refine (copperplateref07_Margin.calls k2 (rdOf ByteArray.empty x5_2 0) t165 _ A20.out).mono ?_); rintro e w' ⟨rfl, ⟨nd, rfl⟩⟩; (try first | exact ⟨rfl, _, World.drewN_drewN _ _ _⟩ | exact ⟨rfl, _, Eq.trans (World.drewN_drewN _ _ _) (congrArg (World.drewN _) (Nat.add_assoc _ _ _))⟩); have p166 : 0 ≤ (0 : Int) := (by omega); have q166 : 0 < (x5_2.length : Int) := of_decide_eq_true (by first | (with_reducible assumption) | assumption); obtain ⟨ad166, e166, hx166_0⟩ := Kd.at_string (Kd.Q_reads' HO_5.out).2.2 0 p166 q166; obtain rfl : ad164 = ad166 := (by injection e166); have qi166 : (0 < x5_2.length) = True := eq_true (by omega); (try rw [show ((0 : Int)).toNat = 0 from rfl] at hx166_0); (try rw [Addr.add_zero'] at hx166_0); replace p166 := eq_true p166; replace q166 := eq_true q166)))
          go_meet
          case rel => exact ⟨_, (x5_2), H', ⟨by have := HK1.out; have := HK2.out; first | omega | exact Nat.le_refl _⟩, ⟨by (with_reducible repeat (first | apply Kd.Q_alloc | apply Kd.Q_drewN | apply Kd.Q_drew)); exact HO_5.out⟩, ⟨hbz⟩⟩
        ·rw [if_neg c19] at H
         exact absurd H (by simp)
       ·rw [if_neg c18] at H
        have c18b0 : decide (0 < (x5_2.length : Int)) = false := decide_eq_false c18
        have c18b1 : decide (0 < x5_2.length) = false := decide_eq_false (by omega)
        clear c18
        (first | rw [c18b0] | (simp only [i64_w, i32_w]; rw [c18b0]) | skip)
        have H' := Aside0.mk H
        clear H
        obtain ⟨Ao26, co26, eo26, _⟩ := Kd.Q_slice HO_5.out
        subst eo26
        go_wp2
        repeat (go_quiet (fail); try go_wp2)
        go_meet
        case rel => exact ⟨_, (x5_2), H', ⟨by have := HK1.out; have := HK2.out; first | omega | exact Nat.le_refl _⟩, ⟨by (with_reducible repeat (first | apply Kd.Q_alloc | apply Kd.Q_drewN | apply Kd.Q_drew)); exact HO_5.out⟩, ⟨hbz⟩⟩
    case rest =>
     clear HC17
     try clear c1
     try clear p1
     try clear q1
     try clear hx1
     try clear qi1
     try clear c2
     try clear p2
     try clear q2
     try clear c6
     try clear c6b0
     try clear p6
     try clear c7
     try clear c7b0
     try clear c8
     try clear c8b0
     try clear c9
     try clear c9b0
     try clear c11
     try clear c13
     try clear c15
     try clear p15
     try clear q15
     try clear hx15
     try clear p16
     try clear q16
     try clear hx16
     try clear qi16
     try clear c18
     try clear c18b0
     try clear c18b1
     try clear c19
     try clear c19b0
     try clear c19b1
     try clear c21
     try clear c21b0
     try clear c21b1
     try clear c22
     try clear c22b0
     try clear c22b1
     try clear c24
     try clear q24
     try clear hx153_0
     try clear hx164_0
     try clear hx166_0
     try clear p1
     try clear p15
     try clear p153
     try clear p164
     try clear p166
     try clear p2
     try clear p6
     try clear q1
     try clear q15
     try clear q153
     try clear q164
     try clear q166
     try clear q24
     obtain ⟨kq, x5_16, HA, HJ16, HO_5, HB⟩ := hcut
     cases kq with
     | zero => exact absurd HA.out (by simp [copperplateref07_Fold.j2])
     | succ kj16 =>
      have H := HA.out
      clear HA
      simp only [copperplateref07_Fold.j2] at H
      have HC27 := Aside0.mk H
      clear H
      go_upto_block 4 with (fail)
      repeat (go_quiet (fail); go_upto_block 4 with (fail))
      go_cut [5] (fun v5 wc => ∃ (kq : Nat) (x5_26 : List ByteArray), Aside0 (copperplateref07_Fold.j4 kq x5_26 = some r) ∧ Aside0 (kq ≤ kj16) ∧ Aside0 (Kd.Q Kd.string 9 wc w.heap.size (fun _ => True) v5 x5_26) ∧ Aside0 (Below w.heap.size w wc))
      case first =>
       have H := HC27.out
       clear HC27
       have H' := Aside0.mk H
       clear H
       go_wp2
       repeat (go_quiet (fail); try go_wp2)
       go_loopg [5] kj16 (fun kq v5 w' => ∃ (x5_3 : List ByteArray), Aside0 (copperplateref07_Fold.l2 kq x5_3 = some r) ∧ Aside0 (kq ≤ kj16) ∧ Aside0 (Kd.Q Kd.string 9 w' w.heap.size (fun _ => True) v5 x5_3) ∧ Aside0 (Below w.heap.size w w'))
       case atStart => exact ⟨(x5_16), H', ⟨Nat.le_refl _⟩, ⟨by (with_reducible repeat (first | apply Kd.Q_alloc | apply Kd.Q_drewN | apply Kd.Q_drew)); exact HO_5.out⟩, ⟨hbz⟩⟩
       case round =>
        clear H'
        try clear c1
        try clear p1
        try clear q1
        try clear hx1
        try clear qi1
        try clear c2
        try clear p2
        try clear q2
        try clear c6
        try clear c6b0
        try clear p6
        try clear c7
        try clear c7b0
        try clear c8
        try clear c8b0
        try clear c9
        try clear c9b0
        try clear c11
        try clear c13
        try clear c15
        try clear p15
        try clear q15
        try clear hx15
        try clear p16
        try clear q16
        try clear hx16
        try clear qi16
        try clear c18
        try clear c18b0
        try clear c18b1
        try clear c19
        try clear c19b0
        try clear c19b1
        try clear c21
        try clear c21b0
        try clear c21b1
        try clear c22
        try clear c22b0
        try clear c22b1
        try clear c24
        try clear q24
        try clear hx153_0
        try clear hx164_0
        try clear hx166_0
        try clear p1
        try clear p15
        try clear p153
        try clear p16
        try clear p164
        try clear p166
        try clear p2
        try clear p6
        try clear q1
        try clear q15
        try clear q153
        try clear q16
        try clear q164
        try clear q166
        try clear q2
        try clear q24
        obtain ⟨x5_3, HA, HK3, HO_5, HB⟩ := hrel
        cases gk with
        | zero => exact absurd HA.out (by simp [copperplateref07_Fold.l2])
        | succ k3 =>
         have H := HA.out
         clear HA
         simp only [copperplateref07_Fold.l2] at H
         by_cases c28 : (x5_3.length : Int) > 0
         ·rw [if_pos c28] at H
          have c28b0 : decide (0 < (x5_3.length : Int)) = true := decide_eq_true c28
          have c28b1 : decide (0 < x5_3.length) = true := decide_eq_true (by omega)
          clear c28
          (first | rw [c28b0] | (simp only [i64_w, i32_w]; rw [c28b0]) | skip)
          obtain ⟨ji29, hji29⟩ : ∃ j_ : Int, (wrap64 ((x5_3.length : Int) - 1)) = j_ := ⟨_, rfl⟩
          replace H : (if 0 ≤ (ji29) then (if (ji29) < (x5_3.length : Int) then ((copperplateref07_Margin.f k3 (rdOf ByteArray.empty x5_3 (ji29))).bind fun t171 => (if t171 = ((rdOf ByteArray.empty x5_3 (ji29)).size : Int) then (if (ji29) ≤ (x5_3.length : Int) then (copperplateref07_Fold.l2 k3 (x5_3.take ((ji29) : Int).toNat)) else (none)) else (copperplateref07_Fold.j4 k3 x5_3))) else (none)) else (none)) = some r := by first | (rw [hji29] at H; exact H) | (simp only [hji29] at H ⊢; exact H)
          have hji29w : (IntKind.i64.wrap ((x5_3.length : Int) - 1)) = ji29 := (i64_w _).trans hji29
          by_cases c30 : 0 ≤ (ji29)
          ·rw [if_pos c30] at H
           have c30b0 : decide (0 ≤ (ji29)) = true := decide_eq_true c30
           clear c30
           by_cases c31 : (ji29) < (x5_3.length : Int)
           ·rw [if_pos c31] at H
            have c31b0 : decide ((ji29) < (x5_3.length : Int)) = true := decide_eq_true c31
            clear c31
            replace H := Option.bind_eq_some_iff.mp H
            obtain ⟨t171, A320, H⟩ := H
            replace H : (if t171 = ((rdOf ByteArray.empty x5_3 (ji29)).size : Int) then (if (ji29) ≤ (x5_3.length : Int) then (copperplateref07_Fold.l2 k3 (x5_3.take ((ji29) : Int).toNat)) else (none)) else (copperplateref07_Fold.j4 k3 x5_3)) = some r := H
            have A32 := Aside0.mk A320
            clear A320
            by_cases c33 : t171 = ((rdOf ByteArray.empty x5_3 (ji29)).size : Int)
            ·rw [if_pos c33] at H
             have c33b0 : (t171 == ((rdOf ByteArray.empty x5_3 (ji29)).size : Int)) = true := beq_iff_eq.mpr c33
             have c33b1 : (t171 != ((rdOf ByteArray.empty x5_3 (ji29)).size : Int)) = false := bne_eq_false_iff_eq.mpr c33
             clear c33
             by_cases c34 : (ji29) ≤ (x5_3.length : Int)
             ·rw [if_pos c34] at H
              have c34b0 := eq_true c34
              have c34b1 : decide ((ji29) ≤ (x5_3.length : Int)) = true := decide_eq_true c34
              clear c34
              obtain ⟨y173, hy173⟩ : ∃ y_ : List ByteArray, y_ = (x5_3.take ((ji29) : Int).toNat) := ⟨_, rfl⟩
              replace H : (copperplateref07_Fold.l2 k3 y173) = some r := by first | (rw [hy173]; with_reducible exact H) | (have H2_ := (Option.bind_some _ _).symm.trans H; rw [hy173]; with_reducible exact H2_) | (have H2_ := (Option.bind_some _ _).symm.trans H; with_reducible exact H2_) | with_reducible exact H | (rw [hy173]; exact H) | exact H
              have Ny173 := Aside0.mk hy173
              clear hy173
              have H' := Aside0.mk H
              clear H
              obtain ⟨Ao35, co35, eo35, _⟩ := Kd.Q_slice HO_5.out
              subst eo35
              have p170 : 0 ≤ ((ji29) : Int) := of_decide_eq_true (by first | (with_reducible assumption) | assumption)
              have q170 : (ji29) < (x5_3.length : Int) := of_decide_eq_true (by first | (with_reducible assumption) | assumption)
              obtain ⟨ad170, e170, hx170_0⟩ := Kd.at_string (Kd.Q_reads' HO_5.out).2.2 (ji29) p170 q170
              cases e170
              replace p170 := eq_true p170
              replace q170 := eq_true q170
              go_wp2_with (first | (go_at_call 83; (with_reducible refine (copperplateref07_Margin.calls k3 (rdOf ByteArray.empty x5_3 (ji29)) t171 _ A32.out).mono ?_); rintro e w' ⟨rfl, ⟨nd, rfl⟩⟩; (try first | exact ⟨rfl, _, World.drewN_drewN _ _ _⟩ | exact ⟨rfl, _, Eq.trans (World.drewN_drewN _ _ _) (congrArg (World.drewN _) (Nat.add_assoc _ _ _))⟩); have p172 : 0 ≤ ((ji29) : Int) := of_decide_eq_true (by first | (with_reducible assumption) | assumption); have q172 : (ji29) < (x5_3.length : Int) := of_decide_eq_true (by first | (with_reducible assumption) | assumption); obtain ⟨ad172, e172, hx172_0⟩ := Kd.at_string (Kd.Q_reads' HO_5.out).2.2 (ji29) p172 q172; obtain rfl : ad170 = ad172 := (by injection e172); replace p172 := eq_true p172; replace q172 := eq_true q172; have q36 : ((ji29) : Int) ≤ ((x5_3.length : Int) : Int) := of_decide_eq_true (by first | (with_reducible assumption) | assumption); obtain ⟨i036, hi036, _, hsz36, _⟩ := info_parts info9; have hcut36 := cut_to (P := Tryz.prog) 67 9 .i64 Tryz.underlying67 hi036 (some ad170) x5_3.length co35 (ji29) (of_decide_eq_true (by first | (with_reducible assumption) | assumption)) q36 (Kd.Q_reads' HO_5.out).2.1; have hr36 := Kd.Q_take (m := ((ji29) : Int).toNat) HO_5.out (by omega); have hy36 : y173.length = ((ji29) : Int).toNat := (by rw [Ny173.out, List.length_take]; omega); rw [← Ny173.out] at hr36; rw [← hy36] at hr36 hcut36; clear hy36 hi036 hsz36 HO_5; have HO175 := Aside0.mk hr36; clear hr36; replace q36 := eq_true q36))
              repeat (go_quiet (first | (go_at_call 83; (with_reducible refine (copperplateref07_Margin.calls k3 (rdOf ByteArray.empty x5_3 (ji29)) t171 _ A32.out).mono ?_); rintro e w' ⟨rfl, ⟨nd, rfl⟩⟩; (try first | exact ⟨rfl, _, World.drewN_drewN _ _ _⟩ | exact ⟨rfl, _, Eq.trans (World.drewN_drewN _ _ _) (congrArg (World.drewN _) (Nat.add_assoc _ _ _))⟩); have p172 : 0 ≤ ((ji29) : Int) := of_decide_eq_true (by first | (with_reducible assumption) | assumption); have q172 : (ji29) < (x5_3.length : Int) := of_decide_eq_true (by first | (with_reducible assumption) | assumption); obtain ⟨ad172, e172, hx172_0⟩ := Kd.at_string (Kd.Q_reads' HO_5.out).2.2 (ji29) p172 q172; obtain rfl : ad170 = ad172 := (by injection e172); replace p172 := eq_true p172; replace q172 := eq_true q172; have q36 : ((ji29) : Int) ≤ ((x5_3.length : Int) : Int) := of_decide_eq_true (by first | (with_reducible assumption) | assumption); obtain ⟨i036, hi036, _, hsz36, _⟩ := info_parts info9; have hcut36 := cut_to (P := Tryz.prog) 67 9 .i64 Tryz.underlying67 hi036 (some ad170) x5_3.length co35 (ji29) (of_decide_eq_true (by first | (with_reducible assumption) | assumption)) q36 (Kd.Q_reads' HO_5.out).2.1; have hr36 := Kd.Q_take (m := ((ji29) : Int).toNat) HO_5.out (by omega); have hy36 : y173.length = ((ji29) : Int).toNat := (by rw [Ny173.out, List.length_take]; omega); rw [← Ny173.out] at hr36; rw [← hy36] at hr36 hcut36; clear hy36 hi036 hsz36 HO_5; have HO175 := Aside0.mk hr36; clear hr36; replace q36 := eq_true q36)); try go_wp2_with (first | (go_at_call 83; (with_reducible refine (copperplateref07_Margin.calls k3 (rdOf ByteArray.empty x5_3 (ji29)) t171 _ A32.out).mono ?_); rintro e w' ⟨rfl, ⟨nd, rfl⟩⟩; (try first | exact ⟨rfl, _, World.drewN_drewN _ _ _⟩ | exact ⟨rfl, _, Eq.trans (World.drewN_drewN _ _ _) (congrArg (World.drewN _) (Nat.add_assoc _ _ _))⟩); have p172 : 0 ≤ ((ji29) : Int) := of_decide_eq_true (by first | (with_reducible assumption) | assumption); have q172 : (ji29) < (x5_3.length : Int) := of_decide_eq_true (by first | (with_reducible assumption) | assumption); obtain ⟨ad172, e172, hx172_0⟩ := Kd.at_string (Kd.Q_reads' HO_5.out).2.2 (ji29) p172 q172; obtain rfl : ad170 = ad172 := (by injection e172); replace p172 := eq_true p172; replace q172 := eq_true q172; have q36 : ((ji29) : Int) ≤ ((x5_3.length : Int) : Int) := of_decide_eq_true (by first | (with_reducible assumption) | assumption); obtain ⟨i036, hi036, _, hsz36, _⟩ := info_parts info9; have hcut36 := cut_to (P := Tryz.prog) 67 9 .i64 Tryz.underlying67 hi036 (some ad170) x5_3.length co35 (ji29) (of_decide_eq_true (by first | (with_reducible assumption) | assumption)) q36 (Kd.Q_reads' HO_5.out).2.1; have hr36 := Kd.Q_take (m := ((ji29) : Int).toNat) HO_5.out (by omega); have hy36 : y173.length = ((ji29) : Int).toNat := (by rw [Ny173.out, List.length_take]; omega); rw [← Ny173.out] at hr36; rw [← hy36] at hr36 hcut36; clear hy36 hi036 hsz36 HO_5; have HO175 := Aside0.mk hr36; clear hr36; replace q36 := eq_true q36)))
              go_roundg k3
              case measure => have := HK1.out; have := HJ16.out; have := HK3.out; omega
              case rel => exact ⟨(y173), H', ⟨by have := HK1.out; have := HJ16.out; have := HK3.out; omega⟩, ⟨by (with_reducible repeat (first | apply Kd.Q_alloc | apply Kd.Q_drewN | apply Kd.Q_drew)); exact HO175.out⟩, ⟨hbz⟩⟩
             ·rw [if_neg c34] at H
              exact absurd H (by simp)
            ·rw [if_neg c33] at H
             have c33b0 : (t171 == ((rdOf ByteArray.empty x5_3 (ji29)).size : Int)) = false := beq_eq_false_iff_ne.mpr c33
             have c33b1 : (t171 != ((rdOf ByteArray.empty x5_3 (ji29)).size : Int)) = true := bne_iff_ne.mpr c33
             have H' := Aside0.mk H
             clear H
             obtain ⟨Ao37, co37, eo37, _⟩ := Kd.Q_slice HO_5.out
             subst eo37
             have p170 : 0 ≤ ((ji29) : Int) := of_decide_eq_true (by first | (with_reducible assumption) | assumption)
             have q170 : (ji29) < (x5_3.length : Int) := of_decide_eq_true (by first | (with_reducible assumption) | assumption)
             obtain ⟨ad170, e170, hx170_0⟩ := Kd.at_string (Kd.Q_reads' HO_5.out).2.2 (ji29) p170 q170
             cases e170
             replace p170 := eq_true p170
             replace q170 := eq_true q170
             go_wp2_with (first | (go_at_call 83; (with_reducible refine (copperplateref07_Margin.calls k3 (rdOf ByteArray.empty x5_3 (ji29)) t171 _ A32.out).mono ?_); rintro e w' ⟨rfl, ⟨nd, rfl⟩⟩; (try first | exact ⟨rfl, _, World.drewN_drewN _ _ _⟩ | exact ⟨rfl, _, Eq.trans (World.drewN_drewN _ _ _) (congrArg (World.drewN _) (Nat.add_assoc _ _ _))⟩); have p172 : 0 ≤ ((ji29) : Int) := of_decide_eq_true (by first | (with_reducible assumption) | assumption); have q172 : (ji29) < (x5_3.length : Int) := of_decide_eq_true (by first | (with_reducible assumption) | assumption); obtain ⟨ad172, e172, hx172_0⟩ := Kd.at_string (Kd.Q_reads' HO_5.out).2.2 (ji29) p172 q172; obtain rfl : ad170 = ad172 := (by injection e172); replace p172 := eq_true p172; replace q172 := eq_true q172))
             repeat (go_quiet (first | (go_at_call 83; (with_reducible refine (copperplateref07_Margin.calls k3 (rdOf ByteArray.empty x5_3 (ji29)) t171 _ A32.out).mono ?_); rintro e w' ⟨rfl, ⟨nd, rfl⟩⟩; (try first | exact ⟨rfl, _, World.drewN_drewN _ _ _⟩ | exact ⟨rfl, _, Eq.trans (World.drewN_drewN _ _ _) (congrArg (World.drewN _) (Nat.add_assoc _ _ _))⟩); have p172 : 0 ≤ ((ji29) : Int) := of_decide_eq_true (by first | (with_reducible assumption) | assumption); have q172 : (ji29) < (x5_3.length : Int) := of_decide_eq_true (by first | (with_reducible assumption) | assumption); obtain ⟨ad172, e172, hx172_0⟩ := Kd.at_string (Kd.Q_reads' HO_5.out).2.2 (ji29) p172 q172; obtain rfl : ad170 = ad172 := (by injection e172); replace p172 := eq_true p172; replace q172 := eq_true q172)); try go_wp2_with (first | (go_at_call 83; (with_reducible refine (copperplateref07_Margin.calls k3 (rdOf ByteArray.empty x5_3 (ji29)) t171 _ A32.out).mono ?_); rintro e w' ⟨rfl, ⟨nd, rfl⟩⟩; (try first | exact ⟨rfl, _, World.drewN_drewN _ _ _⟩ | exact ⟨rfl, _, Eq.trans (World.drewN_drewN _ _ _) (congrArg (World.drewN _) (Nat.add_assoc _ _ _))⟩); have p172 : 0 ≤ ((ji29) : Int) := of_decide_eq_true (by first | (with_reducible assumption) | assumption); have q172 : (ji29) < (x5_3.length : Int) := of_decide_eq_true (by first | (with_reducible assumption) | assumption); obtain ⟨ad172, e172, hx172_0⟩ := Kd.at_string (Kd.Q_reads' HO_5.out).2.2 (ji29) p172 q172; obtain rfl : ad170 = ad172 := (by injection e172); replace p172 := eq_true p172; replace q172 := eq_true q172)))
             go_meet
             case rel => exact ⟨_, (x5_3), H', ⟨by have := HK1.out; have := HJ16.out; have := HK3.out; first | omega | exact Nat.le_refl _⟩, ⟨by (with_reducible repeat (first | apply Kd.Q_alloc | apply Kd.Q_drewN | apply Kd.Q_drew)); exact HO_5.out⟩, ⟨hbz⟩⟩
           ·rw [if_neg c31] at H
            exact absurd H (by simp)
          ·rw [if_neg c30] at H
           exact absurd H (by simp)
         ·rw [if_neg c28] at H
          have c28b0 : decide (0 < (x5_3.length : Int)) = false := decide_eq_false c28
          have c28b1 : decide (0 < x5_3.length) = false := decide_eq_false (by omega)
          clear c28
          (first | rw [c28b0] | (simp only [i64_w, i32_w]; rw [c28b0]) | skip)
          have H' := Aside0.mk H
          clear H
          obtain ⟨Ao38, co38, eo38, _⟩ := Kd.Q_slice HO_5.out
          subst eo38
          go_wp2
          repeat (go_quiet (fail); try go_wp2)
          go_meet
          case rel => exact ⟨_, (x5_3), H', ⟨by have := HK1.out; have := HJ16.out; have := HK3.out; first | omega | exact Nat.le_refl _⟩, ⟨by (with_reducible repeat (first | apply Kd.Q_alloc | apply Kd.Q_drewN | apply Kd.Q_drew)); exact HO_5.out⟩, ⟨hbz⟩⟩
      case rest =>
       clear HC27
       try clear c1
       try clear p1
       try clear q1
       try clear hx1
       try clear qi1
       try clear c2
       try clear p2
       try clear q2
       try clear c3
       try clear q3
       try clear c6
       try clear c6b0
       try clear p6
       try clear c7
       try clear c7b0
       try clear c8
       try clear c8b0
       try clear c9
       try clear c9b0
       try clear c11
       try clear c13
       try clear c15
       try clear p15
       try clear q15
       try clear hx15
       try clear p16
       try clear q16
       try clear hx16
       try clear qi16
       try clear p17
       try clear q17
       try clear hx17
       try clear c18
       try clear c18b0
       try clear c18b1
       try clear c19
       try clear c19b0
       try clear c19b1
       try clear c21
       try clear c21b0
       try clear c21b1
       try clear c22
       try clear c22b0
       try clear c22b1
       try clear c24
       try clear q24
       try clear c28
       try clear c28b0
       try clear c28b1
       try clear c30
       try clear c30b0
       try clear c31
       try clear c31b0
       try clear c33
       try clear c33b0
       try clear c33b1
       try clear c34
       try clear c34b0
       try clear c34b1
       try clear q36
       try clear hx153_0
       try clear hx164_0
       try clear hx166_0
       try clear hx170_0
       try clear hx172_0
       try clear p1
       try clear p15
       try clear p153
       try clear p16
       try clear p164
       try clear p166
       try clear p170
       try clear p172
       try clear p2
       try clear p6
       try clear q1
       try clear q15
       try clear q153
       try clear q16
       try clear q164
       try clear q166
       try clear q170
       try clear q172
       try clear q2
       try clear q24
       try clear q36
       obtain ⟨kq, x5_26, HA, HJ26, HO_5, HB⟩ := hcut
       cases kq with
       | zero => exact absurd HA.out (by simp [copperplateref07_Fold.j4])
       | succ kj26 =>
        have H := HA.out
        clear HA
        simp only [copperplateref07_Fold.j4] at H
        have H' := Aside0.mk H
        clear H
        go_wp2
        repeat (go_quiet (fail); try go_wp2)
        go_loopg [8, 9] kj26 (fun kq v8 v9 w' => ∃ (x8_4 : ByteArray) (x9_4 : Int), v8 = .string x8_4 ∧ v9 = .int .i64 x9_4 ∧ Aside0 (copperplateref07_Fold.l3 kq x5_26 x8_4 x9_4 = some r) ∧ Aside0 (kq ≤ kj26) ∧ Aside0 (Kd.Q Kd.string 9 w' w.heap.size (fun _ => True) u5 x5_26) ∧ Aside0 (Below w.heap.size w w'))
        case atStart => exact ⟨((⟨#[]⟩ : ByteArray)), (0), (by first | rfl | (simp; done) | (simp [*]; done)), (by first | rfl | (simp; done) | (simp [*]; done)), H', ⟨Nat.le_refl _⟩, ⟨by (with_reducible repeat (first | apply Kd.Q_alloc | apply Kd.Q_drewN | apply Kd.Q_drew)); exact HO_5.out⟩, ⟨hbz⟩⟩
        case round =>
         clear H'
         try clear c1
         try clear p1
         try clear q1
         try clear hx1
         try clear qi1
         try clear c2
         try clear p2
         try clear q2
         try clear c3
         try clear q3
         try clear c6
         try clear c6b0
         try clear p6
         try clear c7
         try clear c7b0
         try clear c8
         try clear c8b0
         try clear c9
         try clear c9b0
         try clear c11
         try clear c13
         try clear c15
         try clear p15
         try clear q15
         try clear hx15
         try clear p16
         try clear q16
         try clear hx16
         try clear qi16
         try clear p17
         try clear q17
         try clear hx17
         try clear c18
         try clear c18b0
         try clear c18b1
         try clear c19
         try clear c19b0
         try clear c19b1
         try clear c21
         try clear c21b0
         try clear c21b1
         try clear c22
         try clear c22b0
         try clear c22b1
         try clear c24
         try clear q24
         try clear c28
         try clear c28b0
         try clear c28b1
         try clear c30
         try clear c30b0
         try clear c31
         try clear c31b0
         try clear c33
         try clear c33b0
         try clear c33b1
         try clear c34
         try clear c34b0
         try clear c34b1
         try clear q36
         try clear hx153_0
         try clear hx164_0
         try clear hx166_0
         try clear hx170_0
         try clear hx172_0
         try clear p1
         try clear p15
         try clear p153
         try clear p16
         try clear p164
         try clear p166
         try clear p17
         try clear p170
         try clear p172
         try clear p2
         try clear p6
         try clear q1
         try clear q15
         try clear q153
         try clear q16
         try clear q164
         try clear q166
         try clear q17
         try clear q170
         try clear q172
         try clear q2
         try clear q24
         try clear q3
         try clear q36
         obtain ⟨x8_4, x9_4, rfl, rfl, HA, HK4, HO_5, HB⟩ := hrel
         cases gk with
         | zero => exact absurd HA.out (by simp [copperplateref07_Fold.l3])
         | succ k4 =>
          have H := HA.out
          clear HA
          simp only [copperplateref07_Fold.l3] at H
          by_cases c39 : x9_4 < (x5_26.length : Int)
          ·rw [if_pos c39] at H
           have c39b0 : decide (x9_4 < (x5_26.length : Int)) = true := decide_eq_true c39
           clear c39
           by_cases c40 : x9_4 > 0
           ·rw [if_pos c40] at H
            have c40b0 : decide (0 < x9_4) = true := decide_eq_true c40
            clear c40
            by_cases c41 : x8_4.size + 1 ≤ 9223372036854775807
            ·rw [if_pos c41] at H
             have c41b0 := eq_true c41
             have c41b1 : decide (x8_4.size + 1 ≤ 9223372036854775807) = true := decide_eq_true c41
             try have c41b2 : (9223372036854775807 < x8_4.size + 1) = False := eq_false (Nat.not_lt.2 c41)
             by_cases c42 : 0 ≤ x9_4
             ·rw [if_pos c42] at H
              have c42b0 : decide (0 ≤ x9_4) = true := decide_eq_true c42
              clear c42
              by_cases c43 : (x8_4 ++ (⟨#[10]⟩ : ByteArray)).size + (rdOf ByteArray.empty x5_26 x9_4).size ≤ 9223372036854775807
              ·rw [if_pos c43] at H
               have c43b0 := eq_true c43
               have c43b1 : decide ((x8_4 ++ (⟨#[10]⟩ : ByteArray)).size + (rdOf ByteArray.empty x5_26 x9_4).size ≤ 9223372036854775807) = true := decide_eq_true c43
               try have c43b2 : (9223372036854775807 < (x8_4 ++ (⟨#[10]⟩ : ByteArray)).size + (rdOf ByteArray.empty x5_26 x9_4).size) = False := eq_false (Nat.not_lt.2 c43)
               have H' := Aside0.mk H
               clear H
               obtain ⟨Ao44, co44, eo44, _⟩ := Kd.Q_slice HO_5.out
               subst eo44
               have p176 : 0 ≤ (x9_4 : Int) := of_decide_eq_true (by first | (with_reducible assumption) | assumption)
               have q176 : x9_4 < (x5_26.length : Int) := of_decide_eq_true (by first | (with_reducible assumption) | assumption)
               obtain ⟨ad176, e176, hx176_0⟩ := Kd.at_string (Kd.Q_reads' HO_5.out).2.2 x9_4 p176 q176
               cases e176
               replace p176 := eq_true p176
               replace q176 := eq_true q176
               go_wp2
               repeat (go_quiet (fail); try go_wp2)
               go_roundg k4
               case measure => have := HK1.out; have := HJ16.out; have := HJ26.out; have := HK4.out; omega
               case rel => exact ⟨((x8_4 ++ (⟨#[10]⟩ : ByteArray)) ++ (rdOf ByteArray.empty x5_26 x9_4)), (wrap64 (x9_4 + 1)), (by first | rfl | (simp; done) | (simp [*]; done)), (by first | rfl | (simp; done) | (simp [*]; done)), H', ⟨by have := HK1.out; have := HJ16.out; have := HJ26.out; have := HK4.out; omega⟩, ⟨by (with_reducible repeat (first | apply Kd.Q_alloc | apply Kd.Q_drewN | apply Kd.Q_drew)); exact HO_5.out⟩, ⟨hbz⟩⟩
              ·rw [if_neg c43] at H
               exact absurd H (by simp)
             ·rw [if_neg c42] at H
              exact absurd H (by simp)
            ·rw [if_neg c41] at H
             exact absurd H (by simp)
           ·rw [if_neg c40] at H
            have c40b0 : decide (0 < x9_4) = false := decide_eq_false c40
            clear c40
            by_cases c45 : 0 ≤ x9_4
            ·rw [if_pos c45] at H
             have c45b0 : decide (0 ≤ x9_4) = true := decide_eq_true c45
             clear c45
             by_cases c46 : x8_4.size + (rdOf ByteArray.empty x5_26 x9_4).size ≤ 9223372036854775807
             ·rw [if_pos c46] at H
              have c46b0 := eq_true c46
              have c46b1 : decide (x8_4.size + (rdOf ByteArray.empty x5_26 x9_4).size ≤ 9223372036854775807) = true := decide_eq_true c46
              try have c46b2 : (9223372036854775807 < x8_4.size + (rdOf ByteArray.empty x5_26 x9_4).size) = False := eq_false (Nat.not_lt.2 c46)
              have H' := Aside0.mk H
              clear H
              obtain ⟨Ao47, co47, eo47, _⟩ := Kd.Q_slice HO_5.out
              subst eo47
              have p177 : 0 ≤ (x9_4 : Int) := of_decide_eq_true (by first | (with_reducible assumption) | assumption)
              have q177 : x9_4 < (x5_26.length : Int) := of_decide_eq_true (by first | (with_reducible assumption) | assumption)
              obtain ⟨ad177, e177, hx177_0⟩ := Kd.at_string (Kd.Q_reads' HO_5.out).2.2 x9_4 p177 q177
              cases e177
              replace p177 := eq_true p177
              replace q177 := eq_true q177
              go_wp2
              repeat (go_quiet (fail); try go_wp2)
              go_roundg k4
              case measure => have := HK1.out; have := HJ16.out; have := HJ26.out; have := HK4.out; omega
              case rel => exact ⟨(x8_4 ++ (rdOf ByteArray.empty x5_26 x9_4)), (wrap64 (x9_4 + 1)), (by first | rfl | (simp; done) | (simp [*]; done)), (by first | rfl | (simp; done) | (simp [*]; done)), H', ⟨by have := HK1.out; have := HJ16.out; have := HJ26.out; have := HK4.out; omega⟩, ⟨by (with_reducible repeat (first | apply Kd.Q_alloc | apply Kd.Q_drewN | apply Kd.Q_drew)); exact HO_5.out⟩, ⟨hbz⟩⟩
             ·rw [if_neg c46] at H
              exact absurd H (by simp)
            ·rw [if_neg c45] at H
             exact absurd H (by simp)
          ·rw [if_neg c39] at H
           have c39b0 : decide (x9_4 < (x5_26.length : Int)) = false := decide_eq_false c39
           clear c39
           obtain rfl := Option.some.inj H
           obtain ⟨Ao48, co48, eo48, _⟩ := Kd.Q_slice HO_5.out
           subst eo48
           go_wp2
           repeat (go_quiet (fail); try go_wp2)
           go_ret
           exact ⟨by first | rfl | (simp [errW_none, errW_some] <;> rfl) | (simp [*, errW_none, errW_some] <;> rfl), hbz⟩
end Go.Proofs.YtjgpmfjkcioinaaGreatDoor.Q
