/-
  Texts of this seat, put together by bundle.py.
-/
import Derived.Test.YtjgpmfjkcioinaaDoorPTLXX
import Derived.Test.YtjgpmfjkcioinaaDoorPTX0
import Derived.Test.YtjgpmfjkcioinaaDoorPTX1
namespace Go.Proofs.YtjgpmfjkcioinaaDoor.X
open Go.Proofs.YtjgpmfjkcioinaaDoor.G
open Go.RowKit Go.Proofs.YtjgpmfjkcioinaaDoorW.PrintWords Go.Proofs.YtjgpmfjkcioinaaDoorW.PrintLast Go.Proofs.YtjgpmfjkcioinaaDoorW.PrintMore
attribute [local go_sem] max2_int min2_int max_two min_two max_three min_three max_four min_four
set_option linter.unusedVariables false
set_option linter.unusedSimpArgs false
attribute [local go_sem high] eqA28
mutual
def copperplatelaw09_LexText.j0 : Nat → ByteArray → Int → Bool → Bool → Option (Bool)
  | 0, _, _, _, _ => none
  | k + 1, x0, x1, x5, x27 => if x27 = true then (some x5) else ((lex_OneA.f x0 x1).bind fun bt103 => (if bt103.2.2.2.2.1 = 0 then (if x1 < 0 then (copperplatelaw09_LexText.j1 k x0 x1 bt103.2.2.2.2.2 true bt103.1 bt103.2.1 bt103.2.2.1 bt103.2.2.2.1) else (if bt103.2.2.2.2.2 ≤ x1 then (copperplatelaw09_LexText.j1 k x0 x1 bt103.2.2.2.2.2 true bt103.1 bt103.2.1 bt103.2.2.1 bt103.2.2.2.1) else (if bt103.2.2.2.2.2 > (x0.size : Int) then (copperplatelaw09_LexText.j1 k x0 x1 bt103.2.2.2.2.2 true bt103.1 bt103.2.1 bt103.2.2.1 bt103.2.2.2.1) else (if bt103.2.2.1 = x1 then (copperplatelaw09_LexText.j1 k x0 x1 bt103.2.2.2.2.2 (bt103.2.2.2.1 != bt103.2.2.2.2.2) bt103.1 bt103.2.1 bt103.2.2.1 bt103.2.2.2.1) else (copperplatelaw09_LexText.j1 k x0 x1 bt103.2.2.2.2.2 true bt103.1 bt103.2.1 bt103.2.2.1 bt103.2.2.2.1))))) else (if (bt103.1 == 0 && (bt103.2.1.toList == ([] : List UInt8) && (bt103.2.2.1 == 0 && (bt103.2.2.2.1 == 0)))) = true then (if x1 < 0 then (some true) else (if x1 ≥ (x0.size : Int) then (some true) else (if bt103.2.2.2.2.2 ≥ x1 then (some (decide (bt103.2.2.2.2.2 ≤ (x0.size : Int)))) else (some false)))) else (some false))))
def copperplatelaw09_LexText.j1 : Nat → ByteArray → Int → Int → Bool → Int → ByteArray → Int → Int → Option (Bool)
  | 0, _, _, _, _, _, _, _, _ => none
  | k + 1, x0, x1, x8, x86, x110000, x110001, x110002, x110003 => if x86 = true then (some false) else (if 0 ≤ x1 then (if x1 ≤ x8 then (if x8 ≤ (x0.size : Int) then (if x110000 = 5 then ((quote_QuoteA.f x110001).bind fun bt110 => (if bt110.2 = true then ((lex_OneA.f bt110.1 0).bind fun bt112 => (if bt112.2.2.2.2.1 = 0 then (if bt112.1 = x110000 then (if bt112.2.1.toList = x110001.toList then (if bt112.2.2.2.2.2 = (bt110.1.size : Int) then (some (bt112.2.2.1 == 0)) else (some false)) else (some false)) else (some false)) else (some false))) else (some false))) else (if (x0.extract (x1 : Int).toNat (x8 : Int).toNat).toList = x110001.toList then ((lex_OneA.f (x0.extract (x1 : Int).toNat (x8 : Int).toNat) 0).bind fun bt119 => (if bt119.2.2.2.2.1 = 0 then (if bt119.1 = x110000 then (if bt119.2.1.toList = x110001.toList then (if bt119.2.2.2.2.2 = ((x0.extract (x1 : Int).toNat (x8 : Int).toNat).size : Int) then (some (bt119.2.2.1 == 0)) else (some false)) else (some false)) else (some false)) else (some false))) else (some false))) else (none)) else (none)) else (none))
end
def copperplatelaw09_LexText.f (k : Nat) (a0 : ByteArray) (a1 : Int) : Option (Bool) := (copperplatelaw09_awakeA.f).bind fun t101 => (if t101 = true then (if (a0.size : Int) > 600 then (copperplatelaw09_LexText.j0 k a0 a1 t101 true) else ((utf_May.f a0).bind fun t102 => (copperplatelaw09_LexText.j0 k a0 a1 t101 (!t102)))) else (copperplatelaw09_LexText.j0 k a0 a1 t101 true))
theorem copperplatelaw09_LexText.mono_l : ∀ k, (∀ y0 y1 y2 y3, LeO (copperplatelaw09_LexText.j0 k y0 y1 y2 y3) (copperplatelaw09_LexText.j0 (k + 1) y0 y1 y2 y3)) ∧ (∀ y0 y1 y2 y3 y4 y5 y6 y7, LeO (copperplatelaw09_LexText.j1 k y0 y1 y2 y3 y4 y5 y6 y7) (copperplatelaw09_LexText.j1 (k + 1) y0 y1 y2 y3 y4 y5 y6 y7))
  | 0 => ⟨fun _ _ _ _ r h => by simp [copperplatelaw09_LexText.j0] at h, fun _ _ _ _ _ _ _ _ r h => by simp [copperplatelaw09_LexText.j1] at h⟩
  | k + 1 => by
    obtain ⟨ih0, ih1⟩ := copperplatelaw09_LexText.mono_l k
    refine ⟨?_, ?_⟩
    · intro y0 y1 y2 y3
      unfold copperplatelaw09_LexText.j0
      repeat' first
      | (with_reducible exact ih0 _ _ _ _)
      | (with_reducible exact ih1 _ _ _ _ _ _ _ _)
      | (with_reducible exact LeO.refl _)
      | (with_reducible exact LeO.none _)
      | (with_reducible refine LeO.ite ?_ ?_)
      | (with_reducible refine LeO.bind ?_ (fun _ => ?_))
      | exact ih0 _ _ _ _
      | exact ih1 _ _ _ _ _ _ _ _
      | exact LeO.none _
      | refine LeO.ite ?_ ?_
      | refine LeO.bind ?_ (fun _ => ?_)
    · intro y0 y1 y2 y3 y4 y5 y6 y7
      unfold copperplatelaw09_LexText.j1
      repeat' first
      | (with_reducible exact ih0 _ _ _ _)
      | (with_reducible exact ih1 _ _ _ _ _ _ _ _)
      | (with_reducible exact LeO.refl _)
      | (with_reducible exact LeO.none _)
      | (with_reducible refine LeO.ite ?_ ?_)
      | (with_reducible refine LeO.bind ?_ (fun _ => ?_))
      | exact ih0 _ _ _ _
      | exact ih1 _ _ _ _ _ _ _ _
      | exact LeO.none _
      | refine LeO.ite ?_ ?_
      | refine LeO.bind ?_ (fun _ => ?_)
theorem copperplatelaw09_LexText.mono : ∀ a0 a1 k, LeO (copperplatelaw09_LexText.f k a0 a1) (copperplatelaw09_LexText.f (k + 1) a0 a1) := by
  intro a0 a1 k
  obtain ⟨ih0, ih1⟩ := copperplatelaw09_LexText.mono_l k
  unfold copperplatelaw09_LexText.f
  repeat' first
      | (with_reducible exact ih0 _ _ _ _)
      | (with_reducible exact ih1 _ _ _ _ _ _ _ _)
      | (with_reducible exact LeO.refl _)
      | (with_reducible exact LeO.none _)
      | (with_reducible refine LeO.ite ?_ ?_)
      | (with_reducible refine LeO.bind ?_ (fun _ => ?_))
      | exact ih0 _ _ _ _
      | exact ih1 _ _ _ _ _ _ _ _
      | exact LeO.none _
      | refine LeO.ite ?_ ?_
      | refine LeO.bind ?_ (fun _ => ?_)
set_option maxHeartbeats 8000000 in
set_option maxRecDepth 100000 in
theorem copperplatelaw09_LexText.calls (k : Nat) (a0 : ByteArray) (a1 : Int) (r : Bool) (w : World) (h : copperplatelaw09_LexText.f k a0 a1 = some r) (hL : LA w) :
    Calls Tryd.prog 5 #[.string a0, .int .i64 a1] w fun e w' => e = .returned (.bool r) ∧ Below w.heap.size w w' := by
  have hu28 := Tryd.underlying28
  have HB := Aside0.mk (Below.refl w.heap.size w)
  have H : ((copperplatelaw09_awakeA.f).bind fun t101 => (if t101 = true then (if (a0.size : Int) > 600 then (copperplatelaw09_LexText.j0 k a0 a1 t101 true) else ((utf_May.f a0).bind fun t102 => (copperplatelaw09_LexText.j0 k a0 a1 t101 (!t102)))) else (copperplatelaw09_LexText.j0 k a0 a1 t101 true))) = some r := h
  clear h
  replace H := Option.bind_eq_some_iff.mp H
  obtain ⟨t101, A30, H⟩ := H
  replace H : (if t101 = true then (if (a0.size : Int) > 600 then (copperplatelaw09_LexText.j0 k a0 a1 t101 true) else ((utf_May.f a0).bind fun t102 => (copperplatelaw09_LexText.j0 k a0 a1 t101 (!t102)))) else (copperplatelaw09_LexText.j0 k a0 a1 t101 true)) = some r := H
  have A3 := Aside0.mk A30
  clear A30
  have HC4 := Aside0.mk H
  clear H
  go_enter Tryd.func5, Tryd.ntmps5
  go_upto_region 2 with (first | ((with_reducible refine gate_callee (f := 10) rfl ?_); refine goesL_ (some 15) rfl rfl Tryd.func10 (by kernel_rfl) rfl #[] rfl (by (try simp only [List.map_toArray, List.map_cons, List.map_nil]); first | done | rfl | (simp only [List.length_drop, List.length_take]; rfl)) ?_; (with_reducible refine (copperplatelaw09_awakeA.calls  t101 _ A3.out (hL.low (by repeat (first | (with_reducible first | exact HB.out | apply below_alloc | apply pw_below_drewN | apply below_drew1) | exact HB.out | refine below_set ?_ GE109.out | refine below_set ?_ GE118.out | refine below_set ?_ GE125.out | exact Below.refl _ _)))).mono ?_); rintro e w5 ⟨rfl, hb⟩; refine ⟨_, rfl, ?_⟩; have n0_ := Aside0.mk (below_step (by repeat (first | (with_reducible first | exact HB.out | apply below_alloc | apply pw_below_drewN | apply below_drew1) | exact HB.out)) hb); clear HB; have HB := n0_; clear n0_; (try clear hb); (try clear hb2); (try clear hk); (try clear hi)))
  (try simp only [Act.put, List.setIfInBounds_toArray, List.set_cons_zero, List.set_cons_succ])
  go_cut [27] (fun v27 wc => ∃ (kq : Nat) (x27_3 : Bool), v27 = .bool x27_3 ∧ Aside0 (copperplatelaw09_LexText.j0 kq a0 a1 t101 x27_3 = some r) ∧ Aside0 (kq ≤ k) ∧ Aside0 (Below w.heap.size w wc))
  case first =>
    have H := HC4.out
    clear HC4
    by_cases c6 : t101 = true
    · subst c6
      have H1 : (if (a0.size : Int) > 600 then (copperplatelaw09_LexText.j0 k a0 a1 true true) else ((utf_May.f a0).bind fun t102 => (copperplatelaw09_LexText.j0 k a0 a1 true (!t102)))) = some r := by rw [if_pos rfl] at H; exact H
      clear H
      have H := H1
      clear H1
      by_cases c7 : (a0.size : Int) > 600
      · rw [if_pos c7] at H
        have c7b0 : decide (600 < (a0.size : Int)) = true := decide_eq_true c7
        have c7b1 : decide (600 < a0.size) = true := decide_eq_true (by omega)
        clear c7
        (first | rw [c7b0] | (simp only [i64_w, i32_w]; rw [c7b0]) | skip)
        have H' := Aside0.mk H
        clear H
        go_wp2
        go_meet
        case rel => exact ⟨_, (true), (by first | rfl | (simp; done) | (simp [*]; done)), H', ⟨by first | omega | exact Nat.le_refl _⟩, ⟨by repeat (first | (with_reducible first | exact HB.out | apply below_alloc | apply pw_below_drewN | apply below_drew1) | exact HB.out)⟩⟩
      · rw [if_neg c7] at H
        have c7b0 : decide (600 < (a0.size : Int)) = false := decide_eq_false c7
        have c7b1 : decide (600 < a0.size) = false := decide_eq_false (by omega)
        clear c7
        (first | rw [c7b0] | (simp only [i64_w, i32_w]; rw [c7b0]) | skip)
        replace H := Option.bind_eq_some_iff.mp H
        obtain ⟨t102, A80, H⟩ := H
        replace H : (copperplatelaw09_LexText.j0 k a0 a1 true (!t102)) = some r := H
        have A8 := Aside0.mk A80
        clear A80
        have H' := Aside0.mk H
        clear H
        go_wp2_with (first | (go_at_call 14; (with_reducible refine (utf_May.calls a0 t102 _ A8.out).mono ?_); rintro e w9 ⟨rfl, hb⟩; have n0_ := Aside0.mk (below_step (by repeat (first | (with_reducible first | exact HB.out | apply below_alloc | apply pw_below_drewN | apply below_drew1) | exact HB.out)) hb); clear HB; have HB := n0_; clear n0_; (try clear hb); (try clear hb2); (try clear hk); (try clear hi)))
        go_meet
        case rel => exact ⟨_, (!t102), (by first | rfl | (simp; done) | (simp [*]; done)), H', ⟨by first | omega | exact Nat.le_refl _⟩, ⟨by repeat (first | (with_reducible first | exact HB.out | apply below_alloc | apply pw_below_drewN | apply below_drew1) | exact HB.out)⟩⟩
    · replace c6 := Bool.eq_false_iff.mpr c6
      subst c6
      have H1 : (copperplatelaw09_LexText.j0 k a0 a1 false true) = some r := by rw [if_neg (show ¬ (false = true) by decide)] at H; exact H
      clear H
      have H := H1
      clear H1
      have H' := Aside0.mk H
      clear H
      go_wp2
      go_meet
      case rel => exact ⟨_, (true), (by first | rfl | (simp; done) | (simp [*]; done)), H', ⟨by first | omega | exact Nat.le_refl _⟩, ⟨by repeat (first | (with_reducible first | exact HB.out | apply below_alloc | apply pw_below_drewN | apply below_drew1) | exact HB.out)⟩⟩
  case rest =>
    clear HC4
    try clear c1
    try clear p2
    try clear c5
    try clear c6
    try clear c7
    try clear c7b0
    try clear c7b1
    obtain ⟨kq, x27_3, rfl, HA, HJ3, HB⟩ := hcut
    cases kq with
    | zero => exact absurd HA.out (by simp [copperplatelaw09_LexText.j0])
    | succ kj3 =>
      have H := HA.out
      clear HA
      simp only [copperplatelaw09_LexText.j0] at H
      by_cases c10 : x27_3 = true
      · subst c10
        have H1 : (some t101) = some r := by rw [if_pos rfl] at H; exact H
        clear H
        have H := H1
        clear H1
        obtain rfl := Option.some.inj H
        go_wp2
        go_ret
        exact ⟨by first | rfl | (simp [errW_none, errW_some] <;> rfl) | (simp [*, errW_none, errW_some] <;> rfl), by repeat (first | (with_reducible first | exact HB.out | apply below_alloc | apply pw_below_drewN | apply below_drew1) | exact HB.out)⟩
      · replace c10 := Bool.eq_false_iff.mpr c10
        subst c10
        have H1 : ((lex_OneA.f a0 a1).bind fun bt103 => (if bt103.2.2.2.2.1 = 0 then (if a1 < 0 then (copperplatelaw09_LexText.j1 kj3 a0 a1 bt103.2.2.2.2.2 true bt103.1 bt103.2.1 bt103.2.2.1 bt103.2.2.2.1) else (if bt103.2.2.2.2.2 ≤ a1 then (copperplatelaw09_LexText.j1 kj3 a0 a1 bt103.2.2.2.2.2 true bt103.1 bt103.2.1 bt103.2.2.1 bt103.2.2.2.1) else (if bt103.2.2.2.2.2 > (a0.size : Int) then (copperplatelaw09_LexText.j1 kj3 a0 a1 bt103.2.2.2.2.2 true bt103.1 bt103.2.1 bt103.2.2.1 bt103.2.2.2.1) else (if bt103.2.2.1 = a1 then (copperplatelaw09_LexText.j1 kj3 a0 a1 bt103.2.2.2.2.2 (bt103.2.2.2.1 != bt103.2.2.2.2.2) bt103.1 bt103.2.1 bt103.2.2.1 bt103.2.2.2.1) else (copperplatelaw09_LexText.j1 kj3 a0 a1 bt103.2.2.2.2.2 true bt103.1 bt103.2.1 bt103.2.2.1 bt103.2.2.2.1))))) else (if (bt103.1 == 0 && (bt103.2.1.toList == ([] : List UInt8) && (bt103.2.2.1 == 0 && (bt103.2.2.2.1 == 0)))) = true then (if a1 < 0 then (some true) else (if a1 ≥ (a0.size : Int) then (some true) else (if bt103.2.2.2.2.2 ≥ a1 then (some (decide (bt103.2.2.2.2.2 ≤ (a0.size : Int)))) else (some false)))) else (some false)))) = some r := by rw [if_neg (show ¬ (false = true) by decide)] at H; exact H
        clear H
        have H := H1
        clear H1
        replace H := Option.bind_eq_some_iff.mp H
        obtain ⟨⟨t103, t104, t105, t106, t107, t108⟩, A110, H⟩ := H
        replace H : (if t107 = 0 then (if a1 < 0 then (copperplatelaw09_LexText.j1 kj3 a0 a1 t108 true t103 t104 t105 t106) else (if t108 ≤ a1 then (copperplatelaw09_LexText.j1 kj3 a0 a1 t108 true t103 t104 t105 t106) else (if t108 > (a0.size : Int) then (copperplatelaw09_LexText.j1 kj3 a0 a1 t108 true t103 t104 t105 t106) else (if t105 = a1 then (copperplatelaw09_LexText.j1 kj3 a0 a1 t108 (t106 != t108) t103 t104 t105 t106) else (copperplatelaw09_LexText.j1 kj3 a0 a1 t108 true t103 t104 t105 t106))))) else (if (t103 == 0 && (t104.toList == ([] : List UInt8) && (t105 == 0 && (t106 == 0)))) = true then (if a1 < 0 then (some true) else (if a1 ≥ (a0.size : Int) then (some true) else (if t108 ≥ a1 then (some (decide (t108 ≤ (a0.size : Int)))) else (some false)))) else (some false))) = some r := H
        have A11 := Aside0.mk A110
        clear A110
        by_cases c12 : t107 = 0
        · rw [if_pos c12] at H
          have c12b0 : (t107 == 0) = true := beq_iff_eq.mpr c12
          have c12b1 : (t107 != 0) = false := bne_eq_false_iff_eq.mpr c12
          clear c12
          have HC13 := Aside0.mk H
          clear H
          go_upto_region 7 with (first | ((with_reducible refine gate_callee (f := 13) rfl ?_); refine goesL_ (some 32) rfl rfl Tryd.func13 (by kernel_rfl) rfl #[.string a0, .int .i64 a1] rfl (by (try simp only [List.map_toArray, List.map_cons, List.map_nil]); first | done | rfl | (simp only [List.length_drop, List.length_take]; rfl)) ?_; (with_reducible refine (lex_OneA.calls a0 a1 t103 t104 t105 t106 t107 t108 _ A11.out (hL.low (by repeat (first | (with_reducible first | exact HB.out | apply below_alloc | apply pw_below_drewN | apply below_drew1) | exact HB.out | refine below_set ?_ GE109.out | refine below_set ?_ GE118.out | refine below_set ?_ GE125.out | exact Below.refl _ _)))).mono ?_); rintro e w14 ⟨rfl, hb⟩; refine ⟨_, rfl, ?_⟩; have n0_ := Aside0.mk (below_step (by repeat (first | (with_reducible first | exact HB.out | apply below_alloc | apply pw_below_drewN | apply below_drew1) | exact HB.out)) hb); clear HB; have HB := n0_; clear n0_; (try clear hb); (try clear hb2); (try clear hk); (try clear hi)) | ((with_reducible refine gate_dst (N := 6) rfl ?_); (try (refine gate_guard (by rfl) ?_; dsimp only)); refine box_event ?hg (N := 6) ?hd (cs := #[.int .i64 0, .string (⟨#[]⟩ : ByteArray), .int .i64 0, .int .i64 0]) (t := 28) ?hr ?_; (case hd => rfl); (case hg => rfl); (case hr => first | (go_simp; done) | (go_simp; rfl)); intro gb109 hg w15 hbox hb; have n0_ := Aside0.mk (below_step (by repeat (first | (with_reducible first | exact HB.out | apply below_alloc | apply pw_below_drewN | apply below_drew1) | exact HB.out)) hb); have n1_ := Aside0.mk (hbox); have n2_ := Aside0.mk ((by rw [hg]; exact (below_size (by repeat (first | (with_reducible first | exact HB.out | apply below_alloc | apply pw_below_drewN | apply below_drew1) | exact HB.out))) : w.heap.size ≤ gb109)); have n3_ := Aside0.mk ((by rw [hg]; exact (below_size (by repeat (first | (with_reducible first | exact HB.out | apply below_alloc | apply pw_below_drewN | apply below_drew1) | exact HB.out))) : w.heap.size ≤ gb109)); clear HB; have HB := n0_; have BK109 := n1_; have GW109 := n2_; have GE109 := n3_; clear n0_ n1_ n2_ n3_; clear hb hbox hg; have hcz16_0 : w15.cell? ⟨gb109, 0, none⟩ = some (.int .i64 0) := (blk_cell BK109.out 0).trans rfl; have hcz16_1 : w15.cell? ⟨gb109, 1, none⟩ = some (.string (⟨#[]⟩ : ByteArray)) := (blk_cell BK109.out 1).trans rfl; have hcz16_2 : w15.cell? ⟨gb109, 2, none⟩ = some (.int .i64 0) := (blk_cell BK109.out 2).trans rfl; have hcz16_3 : w15.cell? ⟨gb109, 3, none⟩ = some (.int .i64 0) := (blk_cell BK109.out 3).trans rfl; have hfz16_0 := blk_frozen BK109.out 0; have hfz16_1 := blk_frozen BK109.out 1; have hfz16_2 := blk_frozen BK109.out 2; have hfz16_3 := blk_frozen BK109.out 3))
          (try simp only [Act.put, List.setIfInBounds_toArray, List.set_cons_zero, List.set_cons_succ])
          go_cut [86] (fun v86 wc => ∃ (kq : Nat) (x86_12 : Bool), v86 = .bool x86_12 ∧ Aside0 (copperplatelaw09_LexText.j1 kq a0 a1 t108 x86_12 t103 t104 t105 t106 = some r) ∧ Aside0 (kq ≤ kj3) ∧ Aside0 (wc.heap[gb109]? = some (.cells #[.int .i64 t103, .string t104, .int .i64 t105, .int .i64 t106] 28 (0, 0))) ∧ Aside0 (Below w.heap.size w wc))
          case first =>
            have H := HC13.out
            clear HC13
            by_cases c17 : a1 < 0
            · rw [if_pos c17] at H
              have c17b0 : decide (a1 < 0) = true := decide_eq_true c17
              clear c17
              (first | rw [c17b0] | (simp only [i64_w, i32_w]; rw [c17b0]) | skip)
              have H' := Aside0.mk H
              clear H
              go_wp2
              go_meet
              case rel => exact ⟨_, (true), (by first | rfl | (simp; done) | (simp [*]; done)), H', ⟨by have := HJ3.out; first | omega | exact Nat.le_refl _⟩, ⟨by (with_reducible repeat (first | refine blk_drewN ?_ _ | refine blk_drew ?_ | refine blk_alloc ?_ _)); refine blk_put (cs := #[.int .i64 t103, .string t104, .int .i64 t105, .int .i64 0]) ?_ 3 _ rfl; (with_reducible repeat (first | refine blk_drewN ?_ _ | refine blk_drew ?_ | refine blk_alloc ?_ _)); refine blk_put (cs := #[.int .i64 t103, .string t104, .int .i64 0, .int .i64 0]) ?_ 2 _ rfl; (with_reducible repeat (first | refine blk_drewN ?_ _ | refine blk_drew ?_ | refine blk_alloc ?_ _)); refine blk_put (cs := #[.int .i64 t103, .string (⟨#[]⟩ : ByteArray), .int .i64 0, .int .i64 0]) ?_ 1 _ rfl; (with_reducible repeat (first | refine blk_drewN ?_ _ | refine blk_drew ?_ | refine blk_alloc ?_ _)); refine blk_put (cs := #[.int .i64 0, .string (⟨#[]⟩ : ByteArray), .int .i64 0, .int .i64 0]) ?_ 0 _ rfl; (with_reducible repeat (first | refine blk_drewN ?_ _ | refine blk_drew ?_ | refine blk_alloc ?_ _)); exact BK109.out⟩, ⟨by repeat (first | (with_reducible first | exact HB.out | apply below_alloc | apply pw_below_drewN | apply below_drew1 | refine below_set ?_ GE109.out) | exact HB.out)⟩⟩
            · rw [if_neg c17] at H
              have c17b0 : decide (a1 < 0) = false := decide_eq_false c17
              clear c17
              (first | rw [c17b0] | (simp only [i64_w, i32_w]; rw [c17b0]) | skip)
              by_cases c18 : t108 ≤ a1
              · rw [if_pos c18] at H
                have c18b0 : decide (t108 ≤ a1) = true := decide_eq_true c18
                clear c18
                have H' := Aside0.mk H
                clear H
                go_wp2
                go_meet
                case rel => exact ⟨_, (true), (by first | rfl | (simp; done) | (simp [*]; done)), H', ⟨by have := HJ3.out; first | omega | exact Nat.le_refl _⟩, ⟨by (with_reducible repeat (first | refine blk_drewN ?_ _ | refine blk_drew ?_ | refine blk_alloc ?_ _)); refine blk_put (cs := #[.int .i64 t103, .string t104, .int .i64 t105, .int .i64 0]) ?_ 3 _ rfl; (with_reducible repeat (first | refine blk_drewN ?_ _ | refine blk_drew ?_ | refine blk_alloc ?_ _)); refine blk_put (cs := #[.int .i64 t103, .string t104, .int .i64 0, .int .i64 0]) ?_ 2 _ rfl; (with_reducible repeat (first | refine blk_drewN ?_ _ | refine blk_drew ?_ | refine blk_alloc ?_ _)); refine blk_put (cs := #[.int .i64 t103, .string (⟨#[]⟩ : ByteArray), .int .i64 0, .int .i64 0]) ?_ 1 _ rfl; (with_reducible repeat (first | refine blk_drewN ?_ _ | refine blk_drew ?_ | refine blk_alloc ?_ _)); refine blk_put (cs := #[.int .i64 0, .string (⟨#[]⟩ : ByteArray), .int .i64 0, .int .i64 0]) ?_ 0 _ rfl; (with_reducible repeat (first | refine blk_drewN ?_ _ | refine blk_drew ?_ | refine blk_alloc ?_ _)); exact BK109.out⟩, ⟨by repeat (first | (with_reducible first | exact HB.out | apply below_alloc | apply pw_below_drewN | apply below_drew1 | refine below_set ?_ GE109.out) | exact HB.out)⟩⟩
              · rw [if_neg c18] at H
                have c18b0 : decide (t108 ≤ a1) = false := decide_eq_false c18
                clear c18
                by_cases c19 : t108 > (a0.size : Int)
                · rw [if_pos c19] at H
                  have c19b0 : decide ((a0.size : Int) < t108) = true := decide_eq_true c19
                  clear c19
                  have H' := Aside0.mk H
                  clear H
                  go_wp2
                  go_meet
                  case rel => exact ⟨_, (true), (by first | rfl | (simp; done) | (simp [*]; done)), H', ⟨by have := HJ3.out; first | omega | exact Nat.le_refl _⟩, ⟨by (with_reducible repeat (first | refine blk_drewN ?_ _ | refine blk_drew ?_ | refine blk_alloc ?_ _)); refine blk_put (cs := #[.int .i64 t103, .string t104, .int .i64 t105, .int .i64 0]) ?_ 3 _ rfl; (with_reducible repeat (first | refine blk_drewN ?_ _ | refine blk_drew ?_ | refine blk_alloc ?_ _)); refine blk_put (cs := #[.int .i64 t103, .string t104, .int .i64 0, .int .i64 0]) ?_ 2 _ rfl; (with_reducible repeat (first | refine blk_drewN ?_ _ | refine blk_drew ?_ | refine blk_alloc ?_ _)); refine blk_put (cs := #[.int .i64 t103, .string (⟨#[]⟩ : ByteArray), .int .i64 0, .int .i64 0]) ?_ 1 _ rfl; (with_reducible repeat (first | refine blk_drewN ?_ _ | refine blk_drew ?_ | refine blk_alloc ?_ _)); refine blk_put (cs := #[.int .i64 0, .string (⟨#[]⟩ : ByteArray), .int .i64 0, .int .i64 0]) ?_ 0 _ rfl; (with_reducible repeat (first | refine blk_drewN ?_ _ | refine blk_drew ?_ | refine blk_alloc ?_ _)); exact BK109.out⟩, ⟨by repeat (first | (with_reducible first | exact HB.out | apply below_alloc | apply pw_below_drewN | apply below_drew1 | refine below_set ?_ GE109.out) | exact HB.out)⟩⟩
                · rw [if_neg c19] at H
                  have c19b0 : decide ((a0.size : Int) < t108) = false := decide_eq_false c19
                  clear c19
                  by_cases c20 : t105 = a1
                  · rw [if_pos c20] at H
                    have c20b0 : (t105 == a1) = true := beq_iff_eq.mpr c20
                    have c20b1 : (t105 != a1) = false := bne_eq_false_iff_eq.mpr c20
                    clear c20
                    have H' := Aside0.mk H
                    clear H
                    have hcz21_0 : w15.cell? ⟨gb109, 0, none⟩ = some (.int .i64 0) := (blk_cell BK109.out 0).trans rfl
                    have hcz21_1 : w15.cell? ⟨gb109, 1, none⟩ = some (.string (⟨#[]⟩ : ByteArray)) := (blk_cell BK109.out 1).trans rfl
                    have hcz21_2 : w15.cell? ⟨gb109, 2, none⟩ = some (.int .i64 0) := (blk_cell BK109.out 2).trans rfl
                    have hcz21_3 : w15.cell? ⟨gb109, 3, none⟩ = some (.int .i64 0) := (blk_cell BK109.out 3).trans rfl
                    have hfz21_0 := blk_frozen BK109.out 0
                    have hfz21_1 := blk_frozen BK109.out 1
                    have hfz21_2 := blk_frozen BK109.out 2
                    have hfz21_3 := blk_frozen BK109.out 3
                    go_wp2
                    go_meet
                    case rel => exact ⟨_, ((t106 != t108)), (by first | rfl | (simp; done) | (simp [*]; done)), H', ⟨by have := HJ3.out; first | omega | exact Nat.le_refl _⟩, ⟨by (with_reducible repeat (first | refine blk_drewN ?_ _ | refine blk_drew ?_ | refine blk_alloc ?_ _)); refine blk_put (cs := #[.int .i64 t103, .string t104, .int .i64 t105, .int .i64 0]) ?_ 3 _ rfl; (with_reducible repeat (first | refine blk_drewN ?_ _ | refine blk_drew ?_ | refine blk_alloc ?_ _)); refine blk_put (cs := #[.int .i64 t103, .string t104, .int .i64 0, .int .i64 0]) ?_ 2 _ rfl; (with_reducible repeat (first | refine blk_drewN ?_ _ | refine blk_drew ?_ | refine blk_alloc ?_ _)); refine blk_put (cs := #[.int .i64 t103, .string (⟨#[]⟩ : ByteArray), .int .i64 0, .int .i64 0]) ?_ 1 _ rfl; (with_reducible repeat (first | refine blk_drewN ?_ _ | refine blk_drew ?_ | refine blk_alloc ?_ _)); refine blk_put (cs := #[.int .i64 0, .string (⟨#[]⟩ : ByteArray), .int .i64 0, .int .i64 0]) ?_ 0 _ rfl; (with_reducible repeat (first | refine blk_drewN ?_ _ | refine blk_drew ?_ | refine blk_alloc ?_ _)); exact BK109.out⟩, ⟨by repeat (first | (with_reducible first | exact HB.out | apply below_alloc | apply pw_below_drewN | apply below_drew1 | refine below_set ?_ GE109.out) | exact HB.out)⟩⟩
                  · rw [if_neg c20] at H
                    have c20b0 : (t105 == a1) = false := beq_eq_false_iff_ne.mpr c20
                    have c20b1 : (t105 != a1) = true := bne_iff_ne.mpr c20
                    have H' := Aside0.mk H
                    clear H
                    have hcz22_0 : w15.cell? ⟨gb109, 0, none⟩ = some (.int .i64 0) := (blk_cell BK109.out 0).trans rfl
                    have hcz22_1 : w15.cell? ⟨gb109, 1, none⟩ = some (.string (⟨#[]⟩ : ByteArray)) := (blk_cell BK109.out 1).trans rfl
                    have hcz22_2 : w15.cell? ⟨gb109, 2, none⟩ = some (.int .i64 0) := (blk_cell BK109.out 2).trans rfl
                    have hcz22_3 : w15.cell? ⟨gb109, 3, none⟩ = some (.int .i64 0) := (blk_cell BK109.out 3).trans rfl
                    have hfz22_0 := blk_frozen BK109.out 0
                    have hfz22_1 := blk_frozen BK109.out 1
                    have hfz22_2 := blk_frozen BK109.out 2
                    have hfz22_3 := blk_frozen BK109.out 3
                    go_wp2
                    go_meet
                    case rel => exact ⟨_, (true), (by first | rfl | (simp; done) | (simp [*]; done)), H', ⟨by have := HJ3.out; first | omega | exact Nat.le_refl _⟩, ⟨by (with_reducible repeat (first | refine blk_drewN ?_ _ | refine blk_drew ?_ | refine blk_alloc ?_ _)); refine blk_put (cs := #[.int .i64 t103, .string t104, .int .i64 t105, .int .i64 0]) ?_ 3 _ rfl; (with_reducible repeat (first | refine blk_drewN ?_ _ | refine blk_drew ?_ | refine blk_alloc ?_ _)); refine blk_put (cs := #[.int .i64 t103, .string t104, .int .i64 0, .int .i64 0]) ?_ 2 _ rfl; (with_reducible repeat (first | refine blk_drewN ?_ _ | refine blk_drew ?_ | refine blk_alloc ?_ _)); refine blk_put (cs := #[.int .i64 t103, .string (⟨#[]⟩ : ByteArray), .int .i64 0, .int .i64 0]) ?_ 1 _ rfl; (with_reducible repeat (first | refine blk_drewN ?_ _ | refine blk_drew ?_ | refine blk_alloc ?_ _)); refine blk_put (cs := #[.int .i64 0, .string (⟨#[]⟩ : ByteArray), .int .i64 0, .int .i64 0]) ?_ 0 _ rfl; (with_reducible repeat (first | refine blk_drewN ?_ _ | refine blk_drew ?_ | refine blk_alloc ?_ _)); exact BK109.out⟩, ⟨by repeat (first | (with_reducible first | exact HB.out | apply below_alloc | apply pw_below_drewN | apply below_drew1 | refine below_set ?_ GE109.out) | exact HB.out)⟩⟩
          case rest =>
            clear HC13
            try clear c1
            try clear c2
            try clear p2
            try clear c5
            try clear c6
            try clear c7
            try clear c7b0
            try clear c7b1
            try clear c10
            try clear c12
            try clear c12b0
            try clear c12b1
            try clear c13
            try clear c17
            try clear c17b0
            try clear c18
            try clear c18b0
            try clear c19
            try clear c19b0
            try clear c20
            try clear c20b0
            try clear c20b1
            try clear hcz16_0
            try clear hcz16_1
            try clear hcz16_2
            try clear hcz16_3
            try clear hcz21_0
            try clear hcz21_1
            try clear hcz21_2
            try clear hcz21_3
            try clear hcz22_0
            try clear hcz22_1
            try clear hcz22_2
            try clear hcz22_3
            try clear hfz16_0
            try clear hfz16_1
            try clear hfz16_2
            try clear hfz16_3
            try clear hfz21_0
            try clear hfz21_1
            try clear hfz21_2
            try clear hfz21_3
            try clear hfz22_0
            try clear hfz22_1
            try clear hfz22_2
            try clear hfz22_3
            try clear p2
            obtain ⟨kq, x86_12, rfl, HA, HJ12, BK109, HB⟩ := hcut
            cases kq with
            | zero => exact absurd HA.out (by simp [copperplatelaw09_LexText.j1])
            | succ kj12 =>
              have H := HA.out
              clear HA
              simp only [copperplatelaw09_LexText.j1] at H
              by_cases c23 : x86_12 = true
              · subst c23
                have H1 : (some false) = some r := by rw [if_pos rfl] at H; exact H
                clear H
                have H := H1
                clear H1
                obtain rfl := Option.some.inj H
                go_wp2
                go_ret
                exact ⟨by first | rfl | (simp [errW_none, errW_some] <;> rfl) | (simp [*, errW_none, errW_some] <;> rfl), by repeat (first | (with_reducible first | exact HB.out | apply below_alloc | apply pw_below_drewN | apply below_drew1 | refine below_set ?_ GE109.out) | exact HB.out)⟩
              · replace c23 := Bool.eq_false_iff.mpr c23
                subst c23
                have H1 : (if 0 ≤ a1 then (if a1 ≤ t108 then (if t108 ≤ (a0.size : Int) then (if t103 = 5 then ((quote_QuoteA.f t104).bind fun bt110 => (if bt110.2 = true then ((lex_OneA.f bt110.1 0).bind fun bt112 => (if bt112.2.2.2.2.1 = 0 then (if bt112.1 = t103 then (if bt112.2.1.toList = t104.toList then (if bt112.2.2.2.2.2 = (bt110.1.size : Int) then (some (bt112.2.2.1 == 0)) else (some false)) else (some false)) else (some false)) else (some false))) else (some false))) else (if (a0.extract (a1 : Int).toNat (t108 : Int).toNat).toList = t104.toList then ((lex_OneA.f (a0.extract (a1 : Int).toNat (t108 : Int).toNat) 0).bind fun bt119 => (if bt119.2.2.2.2.1 = 0 then (if bt119.1 = t103 then (if bt119.2.1.toList = t104.toList then (if bt119.2.2.2.2.2 = ((a0.extract (a1 : Int).toNat (t108 : Int).toNat).size : Int) then (some (bt119.2.2.1 == 0)) else (some false)) else (some false)) else (some false)) else (some false))) else (some false))) else (none)) else (none)) else (none)) = some r := by rw [if_neg (show ¬ (false = true) by decide)] at H; exact H
                clear H
                have H := H1
                clear H1
                by_cases c24 : 0 ≤ a1
                · rw [if_pos c24] at H
                  have c24b0 := eq_true c24
                  have c24b1 : decide (0 ≤ a1) = true := decide_eq_true c24
                  clear c24
                  by_cases c25 : a1 ≤ t108
                  · rw [if_pos c25] at H
                    have c25b0 := eq_true c25
                    have c25b1 : decide (a1 ≤ t108) = true := decide_eq_true c25
                    clear c25
                    by_cases c26 : t108 ≤ (a0.size : Int)
                    · rw [if_pos c26] at H
                      have c26b0 := eq_true c26
                      have c26b1 : decide (t108 ≤ (a0.size : Int)) = true := decide_eq_true c26
                      clear c26
                      by_cases c27 : t103 = 5
                      · rw [if_pos c27] at H
                        have c27b0 : (t103 == 5) = true := beq_iff_eq.mpr c27
                        have c27b1 : (t103 != 5) = false := bne_eq_false_iff_eq.mpr c27
                        clear c27
                        replace H := Option.bind_eq_some_iff.mp H
                        obtain ⟨⟨t110, t111⟩, A280, H⟩ := H
                        replace H : (if t111 = true then ((lex_OneA.f t110 0).bind fun bt112 => (if bt112.2.2.2.2.1 = 0 then (if bt112.1 = t103 then (if bt112.2.1.toList = t104.toList then (if bt112.2.2.2.2.2 = (t110.size : Int) then (some (bt112.2.2.1 == 0)) else (some false)) else (some false)) else (some false)) else (some false))) else (some false)) = some r := H
                        have A28 := Aside0.mk A280
                        clear A280
                        by_cases c29 : t111 = true
                        · subst c29
                          have H1 : ((lex_OneA.f t110 0).bind fun bt112 => (if bt112.2.2.2.2.1 = 0 then (if bt112.1 = t103 then (if bt112.2.1.toList = t104.toList then (if bt112.2.2.2.2.2 = (t110.size : Int) then (some (bt112.2.2.1 == 0)) else (some false)) else (some false)) else (some false)) else (some false))) = some r := by rw [if_pos rfl] at H; exact H
                          clear H
                          have H := H1
                          clear H1
                          replace H := Option.bind_eq_some_iff.mp H
                          obtain ⟨⟨t112, t113, t114, t115, t116, t117⟩, A300, H⟩ := H
                          replace H : (if t116 = 0 then (if t112 = t103 then (if t113.toList = t104.toList then (if t117 = (t110.size : Int) then (some (t114 == 0)) else (some false)) else (some false)) else (some false)) else (some false)) = some r := H
                          have A30 := Aside0.mk A300
                          clear A300
                          by_cases c31 : t116 = 0
                          · rw [if_pos c31] at H
                            have c31b0 : (t116 == 0) = true := beq_iff_eq.mpr c31
                            have c31b1 : (t116 != 0) = false := bne_eq_false_iff_eq.mpr c31
                            clear c31
                            by_cases c32 : t112 = t103
                            · rw [if_pos c32] at H
                              have c32b0 : (t112 == t103) = true := beq_iff_eq.mpr c32
                              have c32b1 : (t112 != t103) = false := bne_eq_false_iff_eq.mpr c32
                              clear c32
                              by_cases c33 : t113.toList = t104.toList
                              · rw [if_pos c33] at H
                                have c33b0 : (t113.toList == t104.toList) = true := beq_iff_eq.mpr c33
                                have c33b1 : (t113.toList != t104.toList) = false := bne_eq_false_iff_eq.mpr c33
                                clear c33
                                by_cases c34 : t117 = (t110.size : Int)
                                · rw [if_pos c34] at H
                                  have c34b0 : (t117 == (t110.size : Int)) = true := beq_iff_eq.mpr c34
                                  have c34b1 : (t117 != (t110.size : Int)) = false := bne_eq_false_iff_eq.mpr c34
                                  clear c34
                                  obtain rfl := Option.some.inj H
                                  have hcz35_0 : wc.cell? ⟨gb109, 0, none⟩ = some (.int .i64 t103) := (blk_cell BK109.out 0).trans rfl
                                  have hcz35_1 : wc.cell? ⟨gb109, 1, none⟩ = some (.string t104) := (blk_cell BK109.out 1).trans rfl
                                  have hcz35_2 : wc.cell? ⟨gb109, 2, none⟩ = some (.int .i64 t105) := (blk_cell BK109.out 2).trans rfl
                                  have hcz35_3 : wc.cell? ⟨gb109, 3, none⟩ = some (.int .i64 t106) := (blk_cell BK109.out 3).trans rfl
                                  have hfz35_0 := blk_frozen BK109.out 0
                                  have hfz35_1 := blk_frozen BK109.out 1
                                  have hfz35_2 := blk_frozen BK109.out 2
                                  have hfz35_3 := blk_frozen BK109.out 3
                                  go_wp2_with (first | ((with_reducible refine gate_callee (f := 16) rfl ?_); refine goesL_ (some 97) rfl rfl Tryd.func16 (by kernel_rfl) rfl #[.string t104] rfl (by (try simp only [List.map_toArray, List.map_cons, List.map_nil]); first | done | rfl | (simp only [List.length_drop, List.length_take]; rfl)) ?_; (with_reducible refine (quote_QuoteA.calls t104 t110 true _ A28.out (hL.low (by repeat (first | (with_reducible first | exact HB.out | apply below_alloc | apply pw_below_drewN | apply below_drew1) | exact HB.out | refine below_set ?_ GE109.out | refine below_set ?_ GE118.out | refine below_set ?_ GE125.out | exact Below.refl _ _)))).mono ?_); rintro e w36 ⟨rfl, hb⟩; refine ⟨_, rfl, ?_⟩; have n0_ := Aside0.mk (blk_below (g := gb109) (o := .cells #[.int .i64 t103, .string t104, .int .i64 t105, .int .i64 t106] 28 (0, 0)) (by (with_reducible repeat (first | refine blk_drewN ?_ _ | refine blk_drew ?_ | refine blk_alloc ?_ _)); exact BK109.out) hb); have n1_ := Aside0.mk (below_step (by repeat (first | (with_reducible first | exact HB.out | apply below_alloc | apply pw_below_drewN | apply below_drew1 | refine below_set ?_ GE109.out) | exact HB.out)) hb); clear BK109; clear HB; have BK109 := n0_; have HB := n1_; clear n0_ n1_; (try clear hb); (try clear hb2); (try clear hk); (try clear hi)) | ((with_reducible refine gate_callee (f := 13) rfl ?_); refine goesL_ (some 109) rfl rfl Tryd.func13 (by kernel_rfl) rfl #[.string t110, .int .i64 0] rfl (by (try simp only [List.map_toArray, List.map_cons, List.map_nil]); first | done | rfl | (simp only [List.length_drop, List.length_take]; rfl)) ?_; (with_reducible refine (lex_OneA.calls t110 0 t112 t113 t114 t115 t116 t117 _ A30.out (hL.low (by repeat (first | (with_reducible first | exact HB.out | apply below_alloc | apply pw_below_drewN | apply below_drew1) | exact HB.out | refine below_set ?_ GE109.out | refine below_set ?_ GE118.out | refine below_set ?_ GE125.out | exact Below.refl _ _)))).mono ?_); rintro e w37 ⟨rfl, hb⟩; refine ⟨_, rfl, ?_⟩; have n0_ := Aside0.mk (blk_below (g := gb109) (o := .cells #[.int .i64 t103, .string t104, .int .i64 t105, .int .i64 t106] 28 (0, 0)) (by (with_reducible repeat (first | refine blk_drewN ?_ _ | refine blk_drew ?_ | refine blk_alloc ?_ _)); exact BK109.out) hb); have n1_ := Aside0.mk (below_step (by repeat (first | (with_reducible first | exact HB.out | apply below_alloc | apply pw_below_drewN | apply below_drew1 | refine below_set ?_ GE109.out) | exact HB.out)) hb); clear BK109; clear HB; have BK109 := n0_; have HB := n1_; clear n0_ n1_; (try clear hb); (try clear hb2); (try clear hk); (try clear hi)) | ((with_reducible refine gate_dst (N := 12) rfl ?_); (try (refine gate_guard (by rfl) ?_; dsimp only)); refine box_event ?hg (N := 12) ?hd (cs := #[.int .i64 0, .string (⟨#[]⟩ : ByteArray), .int .i64 0, .int .i64 0]) (t := 28) ?hr ?_; (case hd => rfl); (case hg => rfl); (case hr => first | (go_simp; done) | (go_simp; rfl)); intro gb118 hg w38 hbox hb; have n0_ := Aside0.mk (blk_below (g := gb109) (o := .cells #[.int .i64 t103, .string t104, .int .i64 t105, .int .i64 t106] 28 (0, 0)) (by (with_reducible repeat (first | refine blk_drewN ?_ _ | refine blk_drew ?_ | refine blk_alloc ?_ _)); exact BK109.out) hb); have n1_ := Aside0.mk (below_step (by repeat (first | (with_reducible first | exact HB.out | apply below_alloc | apply pw_below_drewN | apply below_drew1 | refine below_set ?_ GE109.out) | exact HB.out)) hb); have n2_ := Aside0.mk (hbox); have n3_ := Aside0.mk ((by rw [hg]; exact (below_size (by repeat (first | (with_reducible first | exact HB.out | apply below_alloc | apply pw_below_drewN | apply below_drew1 | refine below_set ?_ GE109.out) | exact HB.out))) : w.heap.size ≤ gb118)); have n4_ := Aside0.mk ((by rw [hg]; exact (below_size (by repeat (first | (with_reducible first | exact HB.out | apply below_alloc | apply pw_below_drewN | apply below_drew1 | refine below_set ?_ GE109.out) | exact HB.out))) : w.heap.size ≤ gb118)); have n5_ := Aside0.mk ((by rw [hg]; exact Nat.ne_of_lt (blk_lt (g := gb109) (o := .cells #[.int .i64 t103, .string t104, .int .i64 t105, .int .i64 t106] 28 (0, 0)) (by (with_reducible repeat (first | refine blk_drewN ?_ _ | refine blk_drew ?_ | refine blk_alloc ?_ _)); exact BK109.out)) : gb109 ≠ gb118)); have n6_ := Aside0.mk ((by rw [hg]; exact Nat.ne_of_gt (blk_lt (g := gb109) (o := .cells #[.int .i64 t103, .string t104, .int .i64 t105, .int .i64 t106] 28 (0, 0)) (by (with_reducible repeat (first | refine blk_drewN ?_ _ | refine blk_drew ?_ | refine blk_alloc ?_ _)); exact BK109.out)) : gb118 ≠ gb109)); clear BK109; clear HB; have BK109 := n0_; have HB := n1_; have BK118 := n2_; have GW118 := n3_; have GE118 := n4_; have NB109_118 := n5_; have NB118_109 := n6_; clear n0_ n1_ n2_ n3_ n4_ n5_ n6_; clear hb hbox hg; have hnb39 := NB118_109.out; have hnc39 := NB109_118.out; have hcz40_0 : w38.cell? ⟨gb118, 0, none⟩ = some (.int .i64 0) := (blk_cell BK118.out 0).trans rfl; have hcz40_1 : w38.cell? ⟨gb118, 1, none⟩ = some (.string (⟨#[]⟩ : ByteArray)) := (blk_cell BK118.out 1).trans rfl; have hcz40_2 : w38.cell? ⟨gb118, 2, none⟩ = some (.int .i64 0) := (blk_cell BK118.out 2).trans rfl; have hcz40_3 : w38.cell? ⟨gb118, 3, none⟩ = some (.int .i64 0) := (blk_cell BK118.out 3).trans rfl; have hfz40_0 := blk_frozen BK118.out 0; have hfz40_1 := blk_frozen BK118.out 1; have hfz40_2 := blk_frozen BK118.out 2; have hfz40_3 := blk_frozen BK118.out 3; have hcz41_0 : w38.cell? ⟨gb109, 0, none⟩ = some (.int .i64 t103) := (blk_cell BK109.out 0).trans rfl; have hcz41_1 : w38.cell? ⟨gb109, 1, none⟩ = some (.string t104) := (blk_cell BK109.out 1).trans rfl; have hcz41_2 : w38.cell? ⟨gb109, 2, none⟩ = some (.int .i64 t105) := (blk_cell BK109.out 2).trans rfl; have hcz41_3 : w38.cell? ⟨gb109, 3, none⟩ = some (.int .i64 t106) := (blk_cell BK109.out 3).trans rfl; have hfz41_0 := blk_frozen BK109.out 0; have hfz41_1 := blk_frozen BK109.out 1; have hfz41_2 := blk_frozen BK109.out 2; have hfz41_3 := blk_frozen BK109.out 3))
                                  go_ret
                                  exact ⟨by first | rfl | (simp [errW_none, errW_some] <;> rfl) | (simp [*, errW_none, errW_some] <;> rfl), by repeat (first | (with_reducible first | exact HB.out | apply below_alloc | apply pw_below_drewN | apply below_drew1 | refine below_set ?_ GE109.out | refine below_set ?_ GE118.out) | exact HB.out)⟩
                                · rw [if_neg c34] at H
                                  have c34b0 : (t117 == (t110.size : Int)) = false := beq_eq_false_iff_ne.mpr c34
                                  have c34b1 : (t117 != (t110.size : Int)) = true := bne_iff_ne.mpr c34
                                  obtain rfl := Option.some.inj H
                                  have hcz42_0 : wc.cell? ⟨gb109, 0, none⟩ = some (.int .i64 t103) := (blk_cell BK109.out 0).trans rfl
                                  have hcz42_1 : wc.cell? ⟨gb109, 1, none⟩ = some (.string t104) := (blk_cell BK109.out 1).trans rfl
                                  have hcz42_2 : wc.cell? ⟨gb109, 2, none⟩ = some (.int .i64 t105) := (blk_cell BK109.out 2).trans rfl
                                  have hcz42_3 : wc.cell? ⟨gb109, 3, none⟩ = some (.int .i64 t106) := (blk_cell BK109.out 3).trans rfl
                                  have hfz42_0 := blk_frozen BK109.out 0
                                  have hfz42_1 := blk_frozen BK109.out 1
                                  have hfz42_2 := blk_frozen BK109.out 2
                                  have hfz42_3 := blk_frozen BK109.out 3
                                  go_wp2_with (first | ((with_reducible refine gate_callee (f := 16) rfl ?_); refine goesL_ (some 97) rfl rfl Tryd.func16 (by kernel_rfl) rfl #[.string t104] rfl (by (try simp only [List.map_toArray, List.map_cons, List.map_nil]); first | done | rfl | (simp only [List.length_drop, List.length_take]; rfl)) ?_; (with_reducible refine (quote_QuoteA.calls t104 t110 true _ A28.out (hL.low (by repeat (first | (with_reducible first | exact HB.out | apply below_alloc | apply pw_below_drewN | apply below_drew1) | exact HB.out | refine below_set ?_ GE109.out | refine below_set ?_ GE118.out | refine below_set ?_ GE125.out | exact Below.refl _ _)))).mono ?_); rintro e w43 ⟨rfl, hb⟩; refine ⟨_, rfl, ?_⟩; have n0_ := Aside0.mk (blk_below (g := gb109) (o := .cells #[.int .i64 t103, .string t104, .int .i64 t105, .int .i64 t106] 28 (0, 0)) (by (with_reducible repeat (first | refine blk_drewN ?_ _ | refine blk_drew ?_ | refine blk_alloc ?_ _)); exact BK109.out) hb); have n1_ := Aside0.mk (below_step (by repeat (first | (with_reducible first | exact HB.out | apply below_alloc | apply pw_below_drewN | apply below_drew1 | refine below_set ?_ GE109.out) | exact HB.out)) hb); clear BK109; clear HB; have BK109 := n0_; have HB := n1_; clear n0_ n1_; (try clear hb); (try clear hb2); (try clear hk); (try clear hi)) | ((with_reducible refine gate_callee (f := 13) rfl ?_); refine goesL_ (some 109) rfl rfl Tryd.func13 (by kernel_rfl) rfl #[.string t110, .int .i64 0] rfl (by (try simp only [List.map_toArray, List.map_cons, List.map_nil]); first | done | rfl | (simp only [List.length_drop, List.length_take]; rfl)) ?_; (with_reducible refine (lex_OneA.calls t110 0 t112 t113 t114 t115 t116 t117 _ A30.out (hL.low (by repeat (first | (with_reducible first | exact HB.out | apply below_alloc | apply pw_below_drewN | apply below_drew1) | exact HB.out | refine below_set ?_ GE109.out | refine below_set ?_ GE118.out | refine below_set ?_ GE125.out | exact Below.refl _ _)))).mono ?_); rintro e w44 ⟨rfl, hb⟩; refine ⟨_, rfl, ?_⟩; have n0_ := Aside0.mk (blk_below (g := gb109) (o := .cells #[.int .i64 t103, .string t104, .int .i64 t105, .int .i64 t106] 28 (0, 0)) (by (with_reducible repeat (first | refine blk_drewN ?_ _ | refine blk_drew ?_ | refine blk_alloc ?_ _)); exact BK109.out) hb); have n1_ := Aside0.mk (below_step (by repeat (first | (with_reducible first | exact HB.out | apply below_alloc | apply pw_below_drewN | apply below_drew1 | refine below_set ?_ GE109.out) | exact HB.out)) hb); clear BK109; clear HB; have BK109 := n0_; have HB := n1_; clear n0_ n1_; (try clear hb); (try clear hb2); (try clear hk); (try clear hi)) | ((with_reducible refine gate_dst (N := 12) rfl ?_); (try (refine gate_guard (by rfl) ?_; dsimp only)); refine box_event ?hg (N := 12) ?hd (cs := #[.int .i64 0, .string (⟨#[]⟩ : ByteArray), .int .i64 0, .int .i64 0]) (t := 28) ?hr ?_; (case hd => rfl); (case hg => rfl); (case hr => first | (go_simp; done) | (go_simp; rfl)); intro gb118 hg w45 hbox hb; have n0_ := Aside0.mk (blk_below (g := gb109) (o := .cells #[.int .i64 t103, .string t104, .int .i64 t105, .int .i64 t106] 28 (0, 0)) (by (with_reducible repeat (first | refine blk_drewN ?_ _ | refine blk_drew ?_ | refine blk_alloc ?_ _)); exact BK109.out) hb); have n1_ := Aside0.mk (below_step (by repeat (first | (with_reducible first | exact HB.out | apply below_alloc | apply pw_below_drewN | apply below_drew1 | refine below_set ?_ GE109.out) | exact HB.out)) hb); have n2_ := Aside0.mk (hbox); have n3_ := Aside0.mk ((by rw [hg]; exact (below_size (by repeat (first | (with_reducible first | exact HB.out | apply below_alloc | apply pw_below_drewN | apply below_drew1 | refine below_set ?_ GE109.out) | exact HB.out))) : w.heap.size ≤ gb118)); have n4_ := Aside0.mk ((by rw [hg]; exact (below_size (by repeat (first | (with_reducible first | exact HB.out | apply below_alloc | apply pw_below_drewN | apply below_drew1 | refine below_set ?_ GE109.out) | exact HB.out))) : w.heap.size ≤ gb118)); have n5_ := Aside0.mk ((by rw [hg]; exact Nat.ne_of_lt (blk_lt (g := gb109) (o := .cells #[.int .i64 t103, .string t104, .int .i64 t105, .int .i64 t106] 28 (0, 0)) (by (with_reducible repeat (first | refine blk_drewN ?_ _ | refine blk_drew ?_ | refine blk_alloc ?_ _)); exact BK109.out)) : gb109 ≠ gb118)); have n6_ := Aside0.mk ((by rw [hg]; exact Nat.ne_of_gt (blk_lt (g := gb109) (o := .cells #[.int .i64 t103, .string t104, .int .i64 t105, .int .i64 t106] 28 (0, 0)) (by (with_reducible repeat (first | refine blk_drewN ?_ _ | refine blk_drew ?_ | refine blk_alloc ?_ _)); exact BK109.out)) : gb118 ≠ gb109)); clear BK109; clear HB; have BK109 := n0_; have HB := n1_; have BK118 := n2_; have GW118 := n3_; have GE118 := n4_; have NB109_118 := n5_; have NB118_109 := n6_; clear n0_ n1_ n2_ n3_ n4_ n5_ n6_; clear hb hbox hg; have hnb46 := NB118_109.out; have hnc46 := NB109_118.out; have hcz47_0 : w45.cell? ⟨gb118, 0, none⟩ = some (.int .i64 0) := (blk_cell BK118.out 0).trans rfl; have hcz47_1 : w45.cell? ⟨gb118, 1, none⟩ = some (.string (⟨#[]⟩ : ByteArray)) := (blk_cell BK118.out 1).trans rfl; have hcz47_2 : w45.cell? ⟨gb118, 2, none⟩ = some (.int .i64 0) := (blk_cell BK118.out 2).trans rfl; have hcz47_3 : w45.cell? ⟨gb118, 3, none⟩ = some (.int .i64 0) := (blk_cell BK118.out 3).trans rfl; have hfz47_0 := blk_frozen BK118.out 0; have hfz47_1 := blk_frozen BK118.out 1; have hfz47_2 := blk_frozen BK118.out 2; have hfz47_3 := blk_frozen BK118.out 3; have hcz48_0 : w45.cell? ⟨gb109, 0, none⟩ = some (.int .i64 t103) := (blk_cell BK109.out 0).trans rfl; have hcz48_1 : w45.cell? ⟨gb109, 1, none⟩ = some (.string t104) := (blk_cell BK109.out 1).trans rfl; have hcz48_2 : w45.cell? ⟨gb109, 2, none⟩ = some (.int .i64 t105) := (blk_cell BK109.out 2).trans rfl; have hcz48_3 : w45.cell? ⟨gb109, 3, none⟩ = some (.int .i64 t106) := (blk_cell BK109.out 3).trans rfl; have hfz48_0 := blk_frozen BK109.out 0; have hfz48_1 := blk_frozen BK109.out 1; have hfz48_2 := blk_frozen BK109.out 2; have hfz48_3 := blk_frozen BK109.out 3))
                                  go_ret
                                  exact ⟨by first | rfl | (simp [errW_none, errW_some] <;> rfl) | (simp [*, errW_none, errW_some] <;> rfl), by repeat (first | (with_reducible first | exact HB.out | apply below_alloc | apply pw_below_drewN | apply below_drew1 | refine below_set ?_ GE109.out | refine below_set ?_ GE118.out) | exact HB.out)⟩
                              · rw [if_neg c33] at H
                                have c33b0 : (t113.toList == t104.toList) = false := beq_eq_false_iff_ne.mpr c33
                                have c33b1 : (t113.toList != t104.toList) = true := bne_iff_ne.mpr c33
                                obtain rfl := Option.some.inj H
                                have hcz49_0 : wc.cell? ⟨gb109, 0, none⟩ = some (.int .i64 t103) := (blk_cell BK109.out 0).trans rfl
                                have hcz49_1 : wc.cell? ⟨gb109, 1, none⟩ = some (.string t104) := (blk_cell BK109.out 1).trans rfl
                                have hcz49_2 : wc.cell? ⟨gb109, 2, none⟩ = some (.int .i64 t105) := (blk_cell BK109.out 2).trans rfl
                                have hcz49_3 : wc.cell? ⟨gb109, 3, none⟩ = some (.int .i64 t106) := (blk_cell BK109.out 3).trans rfl
                                have hfz49_0 := blk_frozen BK109.out 0
                                have hfz49_1 := blk_frozen BK109.out 1
                                have hfz49_2 := blk_frozen BK109.out 2
                                have hfz49_3 := blk_frozen BK109.out 3
                                go_wp2_with (first | ((with_reducible refine gate_callee (f := 16) rfl ?_); refine goesL_ (some 97) rfl rfl Tryd.func16 (by kernel_rfl) rfl #[.string t104] rfl (by (try simp only [List.map_toArray, List.map_cons, List.map_nil]); first | done | rfl | (simp only [List.length_drop, List.length_take]; rfl)) ?_; (with_reducible refine (quote_QuoteA.calls t104 t110 true _ A28.out (hL.low (by repeat (first | (with_reducible first | exact HB.out | apply below_alloc | apply pw_below_drewN | apply below_drew1) | exact HB.out | refine below_set ?_ GE109.out | refine below_set ?_ GE118.out | refine below_set ?_ GE125.out | exact Below.refl _ _)))).mono ?_); rintro e w50 ⟨rfl, hb⟩; refine ⟨_, rfl, ?_⟩; have n0_ := Aside0.mk (blk_below (g := gb109) (o := .cells #[.int .i64 t103, .string t104, .int .i64 t105, .int .i64 t106] 28 (0, 0)) (by (with_reducible repeat (first | refine blk_drewN ?_ _ | refine blk_drew ?_ | refine blk_alloc ?_ _)); exact BK109.out) hb); have n1_ := Aside0.mk (below_step (by repeat (first | (with_reducible first | exact HB.out | apply below_alloc | apply pw_below_drewN | apply below_drew1 | refine below_set ?_ GE109.out) | exact HB.out)) hb); clear BK109; clear HB; have BK109 := n0_; have HB := n1_; clear n0_ n1_; (try clear hb); (try clear hb2); (try clear hk); (try clear hi)) | ((with_reducible refine gate_callee (f := 13) rfl ?_); refine goesL_ (some 109) rfl rfl Tryd.func13 (by kernel_rfl) rfl #[.string t110, .int .i64 0] rfl (by (try simp only [List.map_toArray, List.map_cons, List.map_nil]); first | done | rfl | (simp only [List.length_drop, List.length_take]; rfl)) ?_; (with_reducible refine (lex_OneA.calls t110 0 t112 t113 t114 t115 t116 t117 _ A30.out (hL.low (by repeat (first | (with_reducible first | exact HB.out | apply below_alloc | apply pw_below_drewN | apply below_drew1) | exact HB.out | refine below_set ?_ GE109.out | refine below_set ?_ GE118.out | refine below_set ?_ GE125.out | exact Below.refl _ _)))).mono ?_); rintro e w51 ⟨rfl, hb⟩; refine ⟨_, rfl, ?_⟩; have n0_ := Aside0.mk (blk_below (g := gb109) (o := .cells #[.int .i64 t103, .string t104, .int .i64 t105, .int .i64 t106] 28 (0, 0)) (by (with_reducible repeat (first | refine blk_drewN ?_ _ | refine blk_drew ?_ | refine blk_alloc ?_ _)); exact BK109.out) hb); have n1_ := Aside0.mk (below_step (by repeat (first | (with_reducible first | exact HB.out | apply below_alloc | apply pw_below_drewN | apply below_drew1 | refine below_set ?_ GE109.out) | exact HB.out)) hb); clear BK109; clear HB; have BK109 := n0_; have HB := n1_; clear n0_ n1_; (try clear hb); (try clear hb2); (try clear hk); (try clear hi)) | ((with_reducible refine gate_dst (N := 12) rfl ?_); (try (refine gate_guard (by rfl) ?_; dsimp only)); refine box_event ?hg (N := 12) ?hd (cs := #[.int .i64 0, .string (⟨#[]⟩ : ByteArray), .int .i64 0, .int .i64 0]) (t := 28) ?hr ?_; (case hd => rfl); (case hg => rfl); (case hr => first | (go_simp; done) | (go_simp; rfl)); intro gb118 hg w52 hbox hb; have n0_ := Aside0.mk (blk_below (g := gb109) (o := .cells #[.int .i64 t103, .string t104, .int .i64 t105, .int .i64 t106] 28 (0, 0)) (by (with_reducible repeat (first | refine blk_drewN ?_ _ | refine blk_drew ?_ | refine blk_alloc ?_ _)); exact BK109.out) hb); have n1_ := Aside0.mk (below_step (by repeat (first | (with_reducible first | exact HB.out | apply below_alloc | apply pw_below_drewN | apply below_drew1 | refine below_set ?_ GE109.out) | exact HB.out)) hb); have n2_ := Aside0.mk (hbox); have n3_ := Aside0.mk ((by rw [hg]; exact (below_size (by repeat (first | (with_reducible first | exact HB.out | apply below_alloc | apply pw_below_drewN | apply below_drew1 | refine below_set ?_ GE109.out) | exact HB.out))) : w.heap.size ≤ gb118)); have n4_ := Aside0.mk ((by rw [hg]; exact (below_size (by repeat (first | (with_reducible first | exact HB.out | apply below_alloc | apply pw_below_drewN | apply below_drew1 | refine below_set ?_ GE109.out) | exact HB.out))) : w.heap.size ≤ gb118)); have n5_ := Aside0.mk ((by rw [hg]; exact Nat.ne_of_lt (blk_lt (g := gb109) (o := .cells #[.int .i64 t103, .string t104, .int .i64 t105, .int .i64 t106] 28 (0, 0)) (by (with_reducible repeat (first | refine blk_drewN ?_ _ | refine blk_drew ?_ | refine blk_alloc ?_ _)); exact BK109.out)) : gb109 ≠ gb118)); have n6_ := Aside0.mk ((by rw [hg]; exact Nat.ne_of_gt (blk_lt (g := gb109) (o := .cells #[.int .i64 t103, .string t104, .int .i64 t105, .int .i64 t106] 28 (0, 0)) (by (with_reducible repeat (first | refine blk_drewN ?_ _ | refine blk_drew ?_ | refine blk_alloc ?_ _)); exact BK109.out)) : gb118 ≠ gb109)); clear BK109; clear HB; have BK109 := n0_; have HB := n1_; have BK118 := n2_; have GW118 := n3_; have GE118 := n4_; have NB109_118 := n5_; have NB118_109 := n6_; clear n0_ n1_ n2_ n3_ n4_ n5_ n6_; clear hb hbox hg; have hnb53 := NB118_109.out; have hnc53 := NB109_118.out; have hcz54_0 : w52.cell? ⟨gb118, 0, none⟩ = some (.int .i64 0) := (blk_cell BK118.out 0).trans rfl; have hcz54_1 : w52.cell? ⟨gb118, 1, none⟩ = some (.string (⟨#[]⟩ : ByteArray)) := (blk_cell BK118.out 1).trans rfl; have hcz54_2 : w52.cell? ⟨gb118, 2, none⟩ = some (.int .i64 0) := (blk_cell BK118.out 2).trans rfl; have hcz54_3 : w52.cell? ⟨gb118, 3, none⟩ = some (.int .i64 0) := (blk_cell BK118.out 3).trans rfl; have hfz54_0 := blk_frozen BK118.out 0; have hfz54_1 := blk_frozen BK118.out 1; have hfz54_2 := blk_frozen BK118.out 2; have hfz54_3 := blk_frozen BK118.out 3; have hcz55_0 : w52.cell? ⟨gb109, 0, none⟩ = some (.int .i64 t103) := (blk_cell BK109.out 0).trans rfl; have hcz55_1 : w52.cell? ⟨gb109, 1, none⟩ = some (.string t104) := (blk_cell BK109.out 1).trans rfl; have hcz55_2 : w52.cell? ⟨gb109, 2, none⟩ = some (.int .i64 t105) := (blk_cell BK109.out 2).trans rfl; have hcz55_3 : w52.cell? ⟨gb109, 3, none⟩ = some (.int .i64 t106) := (blk_cell BK109.out 3).trans rfl; have hfz55_0 := blk_frozen BK109.out 0; have hfz55_1 := blk_frozen BK109.out 1; have hfz55_2 := blk_frozen BK109.out 2; have hfz55_3 := blk_frozen BK109.out 3))
                                go_ret
                                exact ⟨by first | rfl | (simp [errW_none, errW_some] <;> rfl) | (simp [*, errW_none, errW_some] <;> rfl), by repeat (first | (with_reducible first | exact HB.out | apply below_alloc | apply pw_below_drewN | apply below_drew1 | refine below_set ?_ GE109.out | refine below_set ?_ GE118.out) | exact HB.out)⟩
                            · rw [if_neg c32] at H
                              have c32b0 : (t112 == t103) = false := beq_eq_false_iff_ne.mpr c32
                              have c32b1 : (t112 != t103) = true := bne_iff_ne.mpr c32
                              obtain rfl := Option.some.inj H
                              have hcz56_0 : wc.cell? ⟨gb109, 0, none⟩ = some (.int .i64 t103) := (blk_cell BK109.out 0).trans rfl
                              have hcz56_1 : wc.cell? ⟨gb109, 1, none⟩ = some (.string t104) := (blk_cell BK109.out 1).trans rfl
                              have hcz56_2 : wc.cell? ⟨gb109, 2, none⟩ = some (.int .i64 t105) := (blk_cell BK109.out 2).trans rfl
                              have hcz56_3 : wc.cell? ⟨gb109, 3, none⟩ = some (.int .i64 t106) := (blk_cell BK109.out 3).trans rfl
                              have hfz56_0 := blk_frozen BK109.out 0
                              have hfz56_1 := blk_frozen BK109.out 1
                              have hfz56_2 := blk_frozen BK109.out 2
                              have hfz56_3 := blk_frozen BK109.out 3
                              go_wp2_with (first | ((with_reducible refine gate_callee (f := 16) rfl ?_); refine goesL_ (some 97) rfl rfl Tryd.func16 (by kernel_rfl) rfl #[.string t104] rfl (by (try simp only [List.map_toArray, List.map_cons, List.map_nil]); first | done | rfl | (simp only [List.length_drop, List.length_take]; rfl)) ?_; (with_reducible refine (quote_QuoteA.calls t104 t110 true _ A28.out (hL.low (by repeat (first | (with_reducible first | exact HB.out | apply below_alloc | apply pw_below_drewN | apply below_drew1) | exact HB.out | refine below_set ?_ GE109.out | refine below_set ?_ GE118.out | refine below_set ?_ GE125.out | exact Below.refl _ _)))).mono ?_); rintro e w57 ⟨rfl, hb⟩; refine ⟨_, rfl, ?_⟩; have n0_ := Aside0.mk (blk_below (g := gb109) (o := .cells #[.int .i64 t103, .string t104, .int .i64 t105, .int .i64 t106] 28 (0, 0)) (by (with_reducible repeat (first | refine blk_drewN ?_ _ | refine blk_drew ?_ | refine blk_alloc ?_ _)); exact BK109.out) hb); have n1_ := Aside0.mk (below_step (by repeat (first | (with_reducible first | exact HB.out | apply below_alloc | apply pw_below_drewN | apply below_drew1 | refine below_set ?_ GE109.out) | exact HB.out)) hb); clear BK109; clear HB; have BK109 := n0_; have HB := n1_; clear n0_ n1_; (try clear hb); (try clear hb2); (try clear hk); (try clear hi)) | ((with_reducible refine gate_callee (f := 13) rfl ?_); refine goesL_ (some 109) rfl rfl Tryd.func13 (by kernel_rfl) rfl #[.string t110, .int .i64 0] rfl (by (try simp only [List.map_toArray, List.map_cons, List.map_nil]); first | done | rfl | (simp only [List.length_drop, List.length_take]; rfl)) ?_; (with_reducible refine (lex_OneA.calls t110 0 t112 t113 t114 t115 t116 t117 _ A30.out (hL.low (by repeat (first | (with_reducible first | exact HB.out | apply below_alloc | apply pw_below_drewN | apply below_drew1) | exact HB.out | refine below_set ?_ GE109.out | refine below_set ?_ GE118.out | refine below_set ?_ GE125.out | exact Below.refl _ _)))).mono ?_); rintro e w58 ⟨rfl, hb⟩; refine ⟨_, rfl, ?_⟩; have n0_ := Aside0.mk (blk_below (g := gb109) (o := .cells #[.int .i64 t103, .string t104, .int .i64 t105, .int .i64 t106] 28 (0, 0)) (by (with_reducible repeat (first | refine blk_drewN ?_ _ | refine blk_drew ?_ | refine blk_alloc ?_ _)); exact BK109.out) hb); have n1_ := Aside0.mk (below_step (by repeat (first | (with_reducible first | exact HB.out | apply below_alloc | apply pw_below_drewN | apply below_drew1 | refine below_set ?_ GE109.out) | exact HB.out)) hb); clear BK109; clear HB; have BK109 := n0_; have HB := n1_; clear n0_ n1_; (try clear hb); (try clear hb2); (try clear hk); (try clear hi)) | ((with_reducible refine gate_dst (N := 12) rfl ?_); (try (refine gate_guard (by rfl) ?_; dsimp only)); refine box_event ?hg (N := 12) ?hd (cs := #[.int .i64 0, .string (⟨#[]⟩ : ByteArray), .int .i64 0, .int .i64 0]) (t := 28) ?hr ?_; (case hd => rfl); (case hg => rfl); (case hr => first | (go_simp; done) | (go_simp; rfl)); intro gb118 hg w59 hbox hb; have n0_ := Aside0.mk (blk_below (g := gb109) (o := .cells #[.int .i64 t103, .string t104, .int .i64 t105, .int .i64 t106] 28 (0, 0)) (by (with_reducible repeat (first | refine blk_drewN ?_ _ | refine blk_drew ?_ | refine blk_alloc ?_ _)); exact BK109.out) hb); have n1_ := Aside0.mk (below_step (by repeat (first | (with_reducible first | exact HB.out | apply below_alloc | apply pw_below_drewN | apply below_drew1 | refine below_set ?_ GE109.out) | exact HB.out)) hb); have n2_ := Aside0.mk (hbox); have n3_ := Aside0.mk ((by rw [hg]; exact (below_size (by repeat (first | (with_reducible first | exact HB.out | apply below_alloc | apply pw_below_drewN | apply below_drew1 | refine below_set ?_ GE109.out) | exact HB.out))) : w.heap.size ≤ gb118)); have n4_ := Aside0.mk ((by rw [hg]; exact (below_size (by repeat (first | (with_reducible first | exact HB.out | apply below_alloc | apply pw_below_drewN | apply below_drew1 | refine below_set ?_ GE109.out) | exact HB.out))) : w.heap.size ≤ gb118)); have n5_ := Aside0.mk ((by rw [hg]; exact Nat.ne_of_lt (blk_lt (g := gb109) (o := .cells #[.int .i64 t103, .string t104, .int .i64 t105, .int .i64 t106] 28 (0, 0)) (by (with_reducible repeat (first | refine blk_drewN ?_ _ | refine blk_drew ?_ | refine blk_alloc ?_ _)); exact BK109.out)) : gb109 ≠ gb118)); have n6_ := Aside0.mk ((by rw [hg]; exact Nat.ne_of_gt (blk_lt (g := gb109) (o := .cells #[.int .i64 t103, .string t104, .int .i64 t105, .int .i64 t106] 28 (0, 0)) (by (with_reducible repeat (first | refine blk_drewN ?_ _ | refine blk_drew ?_ | refine blk_alloc ?_ _)); exact BK109.out)) : gb118 ≠ gb109)); clear BK109; clear HB; have BK109 := n0_; have HB := n1_; have BK118 := n2_; have GW118 := n3_; have GE118 := n4_; have NB109_118 := n5_; have NB118_109 := n6_; clear n0_ n1_ n2_ n3_ n4_ n5_ n6_; clear hb hbox hg; have hnb60 := NB118_109.out; have hnc60 := NB109_118.out; have hcz61_0 : w59.cell? ⟨gb118, 0, none⟩ = some (.int .i64 0) := (blk_cell BK118.out 0).trans rfl; have hcz61_1 : w59.cell? ⟨gb118, 1, none⟩ = some (.string (⟨#[]⟩ : ByteArray)) := (blk_cell BK118.out 1).trans rfl; have hcz61_2 : w59.cell? ⟨gb118, 2, none⟩ = some (.int .i64 0) := (blk_cell BK118.out 2).trans rfl; have hcz61_3 : w59.cell? ⟨gb118, 3, none⟩ = some (.int .i64 0) := (blk_cell BK118.out 3).trans rfl; have hfz61_0 := blk_frozen BK118.out 0; have hfz61_1 := blk_frozen BK118.out 1; have hfz61_2 := blk_frozen BK118.out 2; have hfz61_3 := blk_frozen BK118.out 3; have hcz62_0 : w59.cell? ⟨gb109, 0, none⟩ = some (.int .i64 t103) := (blk_cell BK109.out 0).trans rfl; have hcz62_1 : w59.cell? ⟨gb109, 1, none⟩ = some (.string t104) := (blk_cell BK109.out 1).trans rfl; have hcz62_2 : w59.cell? ⟨gb109, 2, none⟩ = some (.int .i64 t105) := (blk_cell BK109.out 2).trans rfl; have hcz62_3 : w59.cell? ⟨gb109, 3, none⟩ = some (.int .i64 t106) := (blk_cell BK109.out 3).trans rfl; have hfz62_0 := blk_frozen BK109.out 0; have hfz62_1 := blk_frozen BK109.out 1; have hfz62_2 := blk_frozen BK109.out 2; have hfz62_3 := blk_frozen BK109.out 3))
                              go_ret
                              exact ⟨by first | rfl | (simp [errW_none, errW_some] <;> rfl) | (simp [*, errW_none, errW_some] <;> rfl), by repeat (first | (with_reducible first | exact HB.out | apply below_alloc | apply pw_below_drewN | apply below_drew1 | refine below_set ?_ GE109.out | refine below_set ?_ GE118.out) | exact HB.out)⟩
                          · rw [if_neg c31] at H
                            have c31b0 : (t116 == 0) = false := beq_eq_false_iff_ne.mpr c31
                            have c31b1 : (t116 != 0) = true := bne_iff_ne.mpr c31
                            obtain rfl := Option.some.inj H
                            have hcz63_0 : wc.cell? ⟨gb109, 0, none⟩ = some (.int .i64 t103) := (blk_cell BK109.out 0).trans rfl
                            have hcz63_1 : wc.cell? ⟨gb109, 1, none⟩ = some (.string t104) := (blk_cell BK109.out 1).trans rfl
                            have hcz63_2 : wc.cell? ⟨gb109, 2, none⟩ = some (.int .i64 t105) := (blk_cell BK109.out 2).trans rfl
                            have hcz63_3 : wc.cell? ⟨gb109, 3, none⟩ = some (.int .i64 t106) := (blk_cell BK109.out 3).trans rfl
                            have hfz63_0 := blk_frozen BK109.out 0
                            have hfz63_1 := blk_frozen BK109.out 1
                            have hfz63_2 := blk_frozen BK109.out 2
                            have hfz63_3 := blk_frozen BK109.out 3
                            go_wp2_with (first | ((with_reducible refine gate_callee (f := 16) rfl ?_); refine goesL_ (some 97) rfl rfl Tryd.func16 (by kernel_rfl) rfl #[.string t104] rfl (by (try simp only [List.map_toArray, List.map_cons, List.map_nil]); first | done | rfl | (simp only [List.length_drop, List.length_take]; rfl)) ?_; (with_reducible refine (quote_QuoteA.calls t104 t110 true _ A28.out (hL.low (by repeat (first | (with_reducible first | exact HB.out | apply below_alloc | apply pw_below_drewN | apply below_drew1) | exact HB.out | refine below_set ?_ GE109.out | refine below_set ?_ GE118.out | refine below_set ?_ GE125.out | exact Below.refl _ _)))).mono ?_); rintro e w64 ⟨rfl, hb⟩; refine ⟨_, rfl, ?_⟩; have n0_ := Aside0.mk (blk_below (g := gb109) (o := .cells #[.int .i64 t103, .string t104, .int .i64 t105, .int .i64 t106] 28 (0, 0)) (by (with_reducible repeat (first | refine blk_drewN ?_ _ | refine blk_drew ?_ | refine blk_alloc ?_ _)); exact BK109.out) hb); have n1_ := Aside0.mk (below_step (by repeat (first | (with_reducible first | exact HB.out | apply below_alloc | apply pw_below_drewN | apply below_drew1 | refine below_set ?_ GE109.out) | exact HB.out)) hb); clear BK109; clear HB; have BK109 := n0_; have HB := n1_; clear n0_ n1_; (try clear hb); (try clear hb2); (try clear hk); (try clear hi)) | ((with_reducible refine gate_callee (f := 13) rfl ?_); refine goesL_ (some 109) rfl rfl Tryd.func13 (by kernel_rfl) rfl #[.string t110, .int .i64 0] rfl (by (try simp only [List.map_toArray, List.map_cons, List.map_nil]); first | done | rfl | (simp only [List.length_drop, List.length_take]; rfl)) ?_; (with_reducible refine (lex_OneA.calls t110 0 t112 t113 t114 t115 t116 t117 _ A30.out (hL.low (by repeat (first | (with_reducible first | exact HB.out | apply below_alloc | apply pw_below_drewN | apply below_drew1) | exact HB.out | refine below_set ?_ GE109.out | refine below_set ?_ GE118.out | refine below_set ?_ GE125.out | exact Below.refl _ _)))).mono ?_); rintro e w65 ⟨rfl, hb⟩; refine ⟨_, rfl, ?_⟩; have n0_ := Aside0.mk (blk_below (g := gb109) (o := .cells #[.int .i64 t103, .string t104, .int .i64 t105, .int .i64 t106] 28 (0, 0)) (by (with_reducible repeat (first | refine blk_drewN ?_ _ | refine blk_drew ?_ | refine blk_alloc ?_ _)); exact BK109.out) hb); have n1_ := Aside0.mk (below_step (by repeat (first | (with_reducible first | exact HB.out | apply below_alloc | apply pw_below_drewN | apply below_drew1 | refine below_set ?_ GE109.out) | exact HB.out)) hb); clear BK109; clear HB; have BK109 := n0_; have HB := n1_; clear n0_ n1_; (try clear hb); (try clear hb2); (try clear hk); (try clear hi)) | ((with_reducible refine gate_dst (N := 12) rfl ?_); (try (refine gate_guard (by rfl) ?_; dsimp only)); refine box_event ?hg (N := 12) ?hd (cs := #[.int .i64 0, .string (⟨#[]⟩ : ByteArray), .int .i64 0, .int .i64 0]) (t := 28) ?hr ?_; (case hd => rfl); (case hg => rfl); (case hr => first | (go_simp; done) | (go_simp; rfl)); intro gb118 hg w66 hbox hb; have n0_ := Aside0.mk (blk_below (g := gb109) (o := .cells #[.int .i64 t103, .string t104, .int .i64 t105, .int .i64 t106] 28 (0, 0)) (by (with_reducible repeat (first | refine blk_drewN ?_ _ | refine blk_drew ?_ | refine blk_alloc ?_ _)); exact BK109.out) hb); have n1_ := Aside0.mk (below_step (by repeat (first | (with_reducible first | exact HB.out | apply below_alloc | apply pw_below_drewN | apply below_drew1 | refine below_set ?_ GE109.out) | exact HB.out)) hb); have n2_ := Aside0.mk (hbox); have n3_ := Aside0.mk ((by rw [hg]; exact (below_size (by repeat (first | (with_reducible first | exact HB.out | apply below_alloc | apply pw_below_drewN | apply below_drew1 | refine below_set ?_ GE109.out) | exact HB.out))) : w.heap.size ≤ gb118)); have n4_ := Aside0.mk ((by rw [hg]; exact (below_size (by repeat (first | (with_reducible first | exact HB.out | apply below_alloc | apply pw_below_drewN | apply below_drew1 | refine below_set ?_ GE109.out) | exact HB.out))) : w.heap.size ≤ gb118)); have n5_ := Aside0.mk ((by rw [hg]; exact Nat.ne_of_lt (blk_lt (g := gb109) (o := .cells #[.int .i64 t103, .string t104, .int .i64 t105, .int .i64 t106] 28 (0, 0)) (by (with_reducible repeat (first | refine blk_drewN ?_ _ | refine blk_drew ?_ | refine blk_alloc ?_ _)); exact BK109.out)) : gb109 ≠ gb118)); have n6_ := Aside0.mk ((by rw [hg]; exact Nat.ne_of_gt (blk_lt (g := gb109) (o := .cells #[.int .i64 t103, .string t104, .int .i64 t105, .int .i64 t106] 28 (0, 0)) (by (with_reducible repeat (first | refine blk_drewN ?_ _ | refine blk_drew ?_ | refine blk_alloc ?_ _)); exact BK109.out)) : gb118 ≠ gb109)); clear BK109; clear HB; have BK109 := n0_; have HB := n1_; have BK118 := n2_; have GW118 := n3_; have GE118 := n4_; have NB109_118 := n5_; have NB118_109 := n6_; clear n0_ n1_ n2_ n3_ n4_ n5_ n6_; clear hb hbox hg; have hnb67 := NB118_109.out; have hnc67 := NB109_118.out; have hcz68_0 : w66.cell? ⟨gb118, 0, none⟩ = some (.int .i64 0) := (blk_cell BK118.out 0).trans rfl; have hcz68_1 : w66.cell? ⟨gb118, 1, none⟩ = some (.string (⟨#[]⟩ : ByteArray)) := (blk_cell BK118.out 1).trans rfl; have hcz68_2 : w66.cell? ⟨gb118, 2, none⟩ = some (.int .i64 0) := (blk_cell BK118.out 2).trans rfl; have hcz68_3 : w66.cell? ⟨gb118, 3, none⟩ = some (.int .i64 0) := (blk_cell BK118.out 3).trans rfl; have hfz68_0 := blk_frozen BK118.out 0; have hfz68_1 := blk_frozen BK118.out 1; have hfz68_2 := blk_frozen BK118.out 2; have hfz68_3 := blk_frozen BK118.out 3))
                            go_ret
                            exact ⟨by first | rfl | (simp [errW_none, errW_some] <;> rfl) | (simp [*, errW_none, errW_some] <;> rfl), by repeat (first | (with_reducible first | exact HB.out | apply below_alloc | apply pw_below_drewN | apply below_drew1 | refine below_set ?_ GE109.out | refine below_set ?_ GE118.out) | exact HB.out)⟩
                        · replace c29 := Bool.eq_false_iff.mpr c29
                          subst c29
                          have H1 : (some false) = some r := by rw [if_neg (show ¬ (false = true) by decide)] at H; exact H
                          clear H
                          have H := H1
                          clear H1
                          obtain rfl := Option.some.inj H
                          have hcz69_0 : wc.cell? ⟨gb109, 0, none⟩ = some (.int .i64 t103) := (blk_cell BK109.out 0).trans rfl
                          have hcz69_1 : wc.cell? ⟨gb109, 1, none⟩ = some (.string t104) := (blk_cell BK109.out 1).trans rfl
                          have hcz69_2 : wc.cell? ⟨gb109, 2, none⟩ = some (.int .i64 t105) := (blk_cell BK109.out 2).trans rfl
                          have hcz69_3 : wc.cell? ⟨gb109, 3, none⟩ = some (.int .i64 t106) := (blk_cell BK109.out 3).trans rfl
                          have hfz69_0 := blk_frozen BK109.out 0
                          have hfz69_1 := blk_frozen BK109.out 1
                          have hfz69_2 := blk_frozen BK109.out 2
                          have hfz69_3 := blk_frozen BK109.out 3
                          go_wp2_with (first | ((with_reducible refine gate_callee (f := 16) rfl ?_); refine goesL_ (some 97) rfl rfl Tryd.func16 (by kernel_rfl) rfl #[.string t104] rfl (by (try simp only [List.map_toArray, List.map_cons, List.map_nil]); first | done | rfl | (simp only [List.length_drop, List.length_take]; rfl)) ?_; (with_reducible refine (quote_QuoteA.calls t104 t110 false _ A28.out (hL.low (by repeat (first | (with_reducible first | exact HB.out | apply below_alloc | apply pw_below_drewN | apply below_drew1) | exact HB.out | refine below_set ?_ GE109.out | refine below_set ?_ GE118.out | refine below_set ?_ GE125.out | exact Below.refl _ _)))).mono ?_); rintro e w70 ⟨rfl, hb⟩; refine ⟨_, rfl, ?_⟩; have n0_ := Aside0.mk (blk_below (g := gb109) (o := .cells #[.int .i64 t103, .string t104, .int .i64 t105, .int .i64 t106] 28 (0, 0)) (by (with_reducible repeat (first | refine blk_drewN ?_ _ | refine blk_drew ?_ | refine blk_alloc ?_ _)); exact BK109.out) hb); have n1_ := Aside0.mk (below_step (by repeat (first | (with_reducible first | exact HB.out | apply below_alloc | apply pw_below_drewN | apply below_drew1 | refine below_set ?_ GE109.out) | exact HB.out)) hb); clear BK109; clear HB; have BK109 := n0_; have HB := n1_; clear n0_ n1_; (try clear hb); (try clear hb2); (try clear hk); (try clear hi)))
                          go_ret
                          exact ⟨by first | rfl | (simp [errW_none, errW_some] <;> rfl) | (simp [*, errW_none, errW_some] <;> rfl), by repeat (first | (with_reducible first | exact HB.out | apply below_alloc | apply pw_below_drewN | apply below_drew1 | refine below_set ?_ GE109.out) | exact HB.out)⟩
                      · rw [if_neg c27] at H
                        have c27b0 : (t103 == 5) = false := beq_eq_false_iff_ne.mpr c27
                        have c27b1 : (t103 != 5) = true := bne_iff_ne.mpr c27
                        obtain ⟨own_, hown_⟩ : ∃ o_ : ByteArray, a0.extract (a1 : Int).toNat (t108 : Int).toNat = o_ := ⟨_, rfl⟩
                        rw [hown_] at H
                        by_cases c71 : own_.toList = t104.toList
                        · rw [if_pos c71] at H
                          have c71b0 : (own_.toList == t104.toList) = true := beq_iff_eq.mpr c71
                          have c71b1 : (own_.toList != t104.toList) = false := bne_eq_false_iff_eq.mpr c71
                          clear c71
                          replace H := Option.bind_eq_some_iff.mp H
                          obtain ⟨⟨t119, t120, t121, t122, t123, t124⟩, A720, H⟩ := H
                          replace H : (if t123 = 0 then (if t119 = t103 then (if t120.toList = t104.toList then (if t124 = (own_.size : Int) then (some (t121 == 0)) else (some false)) else (some false)) else (some false)) else (some false)) = some r := H
                          have A72 := Aside0.mk A720
                          clear A720
                          by_cases c73 : t123 = 0
                          · rw [if_pos c73] at H
                            have c73b0 : (t123 == 0) = true := beq_iff_eq.mpr c73
                            have c73b1 : (t123 != 0) = false := bne_eq_false_iff_eq.mpr c73
                            clear c73
                            by_cases c74 : t119 = t103
                            · rw [if_pos c74] at H
                              have c74b0 : (t119 == t103) = true := beq_iff_eq.mpr c74
                              have c74b1 : (t119 != t103) = false := bne_eq_false_iff_eq.mpr c74
                              clear c74
                              by_cases c75 : t120.toList = t104.toList
                              · rw [if_pos c75] at H
                                have c75b0 : (t120.toList == t104.toList) = true := beq_iff_eq.mpr c75
                                have c75b1 : (t120.toList != t104.toList) = false := bne_eq_false_iff_eq.mpr c75
                                clear c75
                                by_cases c76 : t124 = (own_.size : Int)
                                · rw [if_pos c76] at H
                                  have c76b0 : (t124 == (own_.size : Int)) = true := beq_iff_eq.mpr c76
                                  have c76b1 : (t124 != (own_.size : Int)) = false := bne_eq_false_iff_eq.mpr c76
                                  clear c76
                                  obtain rfl := Option.some.inj H
                                  have hcz77_0 : wc.cell? ⟨gb109, 0, none⟩ = some (.int .i64 t103) := (blk_cell BK109.out 0).trans rfl
                                  have hcz77_1 : wc.cell? ⟨gb109, 1, none⟩ = some (.string t104) := (blk_cell BK109.out 1).trans rfl
                                  have hcz77_2 : wc.cell? ⟨gb109, 2, none⟩ = some (.int .i64 t105) := (blk_cell BK109.out 2).trans rfl
                                  have hcz77_3 : wc.cell? ⟨gb109, 3, none⟩ = some (.int .i64 t106) := (blk_cell BK109.out 3).trans rfl
                                  have hfz77_0 := blk_frozen BK109.out 0
                                  have hfz77_1 := blk_frozen BK109.out 1
                                  have hfz77_2 := blk_frozen BK109.out 2
                                  have hfz77_3 := blk_frozen BK109.out 3
                                  go_wp2_with (first | ((with_reducible refine gate_callee (f := 13) rfl ?_); refine goesL_ (some 109) rfl rfl Tryd.func13 (by kernel_rfl) rfl #[.string own_, .int .i64 0] rfl (by (try simp only [List.map_toArray, List.map_cons, List.map_nil]); first | done | rfl | (simp only [List.length_drop, List.length_take]; rfl)) ?_; (with_reducible refine (lex_OneA.calls own_ 0 t119 t120 t121 t122 t123 t124 _ A72.out (hL.low (by repeat (first | (with_reducible first | exact HB.out | apply below_alloc | apply pw_below_drewN | apply below_drew1) | exact HB.out | refine below_set ?_ GE109.out | refine below_set ?_ GE118.out | refine below_set ?_ GE125.out | exact Below.refl _ _)))).mono ?_); rintro e w78 ⟨rfl, hb⟩; refine ⟨_, rfl, ?_⟩; have n0_ := Aside0.mk (blk_below (g := gb109) (o := .cells #[.int .i64 t103, .string t104, .int .i64 t105, .int .i64 t106] 28 (0, 0)) (by (with_reducible repeat (first | refine blk_drewN ?_ _ | refine blk_drew ?_ | refine blk_alloc ?_ _)); exact BK109.out) hb); have n1_ := Aside0.mk (below_step (by repeat (first | (with_reducible first | exact HB.out | apply below_alloc | apply pw_below_drewN | apply below_drew1 | refine below_set ?_ GE109.out) | exact HB.out)) hb); clear BK109; clear HB; have BK109 := n0_; have HB := n1_; clear n0_ n1_; (try clear hb); (try clear hb2); (try clear hk); (try clear hi)) | ((with_reducible refine gate_dst (N := 12) rfl ?_); (try (refine gate_guard (by rfl) ?_; dsimp only)); refine box_event ?hg (N := 12) ?hd (cs := #[.int .i64 0, .string (⟨#[]⟩ : ByteArray), .int .i64 0, .int .i64 0]) (t := 28) ?hr ?_; (case hd => rfl); (case hg => rfl); (case hr => first | (go_simp; done) | (go_simp; rfl)); intro gb125 hg w79 hbox hb; have n0_ := Aside0.mk (blk_below (g := gb109) (o := .cells #[.int .i64 t103, .string t104, .int .i64 t105, .int .i64 t106] 28 (0, 0)) (by (with_reducible repeat (first | refine blk_drewN ?_ _ | refine blk_drew ?_ | refine blk_alloc ?_ _)); exact BK109.out) hb); have n1_ := Aside0.mk (below_step (by repeat (first | (with_reducible first | exact HB.out | apply below_alloc | apply pw_below_drewN | apply below_drew1 | refine below_set ?_ GE109.out) | exact HB.out)) hb); have n2_ := Aside0.mk (hbox); have n3_ := Aside0.mk ((by rw [hg]; exact (below_size (by repeat (first | (with_reducible first | exact HB.out | apply below_alloc | apply pw_below_drewN | apply below_drew1 | refine below_set ?_ GE109.out) | exact HB.out))) : w.heap.size ≤ gb125)); have n4_ := Aside0.mk ((by rw [hg]; exact (below_size (by repeat (first | (with_reducible first | exact HB.out | apply below_alloc | apply pw_below_drewN | apply below_drew1 | refine below_set ?_ GE109.out) | exact HB.out))) : w.heap.size ≤ gb125)); have n5_ := Aside0.mk ((by rw [hg]; exact Nat.ne_of_lt (blk_lt (g := gb109) (o := .cells #[.int .i64 t103, .string t104, .int .i64 t105, .int .i64 t106] 28 (0, 0)) (by (with_reducible repeat (first | refine blk_drewN ?_ _ | refine blk_drew ?_ | refine blk_alloc ?_ _)); exact BK109.out)) : gb109 ≠ gb125)); have n6_ := Aside0.mk ((by rw [hg]; exact Nat.ne_of_gt (blk_lt (g := gb109) (o := .cells #[.int .i64 t103, .string t104, .int .i64 t105, .int .i64 t106] 28 (0, 0)) (by (with_reducible repeat (first | refine blk_drewN ?_ _ | refine blk_drew ?_ | refine blk_alloc ?_ _)); exact BK109.out)) : gb125 ≠ gb109)); clear BK109; clear HB; have BK109 := n0_; have HB := n1_; have BK125 := n2_; have GW125 := n3_; have GE125 := n4_; have NB109_125 := n5_; have NB125_109 := n6_; clear n0_ n1_ n2_ n3_ n4_ n5_ n6_; clear hb hbox hg; have hnb80 := NB125_109.out; have hnc80 := NB109_125.out; have hcz81_0 : w79.cell? ⟨gb125, 0, none⟩ = some (.int .i64 0) := (blk_cell BK125.out 0).trans rfl; have hcz81_1 : w79.cell? ⟨gb125, 1, none⟩ = some (.string (⟨#[]⟩ : ByteArray)) := (blk_cell BK125.out 1).trans rfl; have hcz81_2 : w79.cell? ⟨gb125, 2, none⟩ = some (.int .i64 0) := (blk_cell BK125.out 2).trans rfl; have hcz81_3 : w79.cell? ⟨gb125, 3, none⟩ = some (.int .i64 0) := (blk_cell BK125.out 3).trans rfl; have hfz81_0 := blk_frozen BK125.out 0; have hfz81_1 := blk_frozen BK125.out 1; have hfz81_2 := blk_frozen BK125.out 2; have hfz81_3 := blk_frozen BK125.out 3; have hcz82_0 : w79.cell? ⟨gb109, 0, none⟩ = some (.int .i64 t103) := (blk_cell BK109.out 0).trans rfl; have hcz82_1 : w79.cell? ⟨gb109, 1, none⟩ = some (.string t104) := (blk_cell BK109.out 1).trans rfl; have hcz82_2 : w79.cell? ⟨gb109, 2, none⟩ = some (.int .i64 t105) := (blk_cell BK109.out 2).trans rfl; have hcz82_3 : w79.cell? ⟨gb109, 3, none⟩ = some (.int .i64 t106) := (blk_cell BK109.out 3).trans rfl; have hfz82_0 := blk_frozen BK109.out 0; have hfz82_1 := blk_frozen BK109.out 1; have hfz82_2 := blk_frozen BK109.out 2; have hfz82_3 := blk_frozen BK109.out 3))
                                  go_ret
                                  exact ⟨by first | rfl | (simp [errW_none, errW_some] <;> rfl) | (simp [*, errW_none, errW_some] <;> rfl), by repeat (first | (with_reducible first | exact HB.out | apply below_alloc | apply pw_below_drewN | apply below_drew1 | refine below_set ?_ GE109.out | refine below_set ?_ GE125.out) | exact HB.out)⟩
                                · rw [if_neg c76] at H
                                  have c76b0 : (t124 == (own_.size : Int)) = false := beq_eq_false_iff_ne.mpr c76
                                  have c76b1 : (t124 != (own_.size : Int)) = true := bne_iff_ne.mpr c76
                                  obtain rfl := Option.some.inj H
                                  have hcz83_0 : wc.cell? ⟨gb109, 0, none⟩ = some (.int .i64 t103) := (blk_cell BK109.out 0).trans rfl
                                  have hcz83_1 : wc.cell? ⟨gb109, 1, none⟩ = some (.string t104) := (blk_cell BK109.out 1).trans rfl
                                  have hcz83_2 : wc.cell? ⟨gb109, 2, none⟩ = some (.int .i64 t105) := (blk_cell BK109.out 2).trans rfl
                                  have hcz83_3 : wc.cell? ⟨gb109, 3, none⟩ = some (.int .i64 t106) := (blk_cell BK109.out 3).trans rfl
                                  have hfz83_0 := blk_frozen BK109.out 0
                                  have hfz83_1 := blk_frozen BK109.out 1
                                  have hfz83_2 := blk_frozen BK109.out 2
                                  have hfz83_3 := blk_frozen BK109.out 3
                                  go_wp2_with (first | ((with_reducible refine gate_callee (f := 13) rfl ?_); refine goesL_ (some 109) rfl rfl Tryd.func13 (by kernel_rfl) rfl #[.string own_, .int .i64 0] rfl (by (try simp only [List.map_toArray, List.map_cons, List.map_nil]); first | done | rfl | (simp only [List.length_drop, List.length_take]; rfl)) ?_; (with_reducible refine (lex_OneA.calls own_ 0 t119 t120 t121 t122 t123 t124 _ A72.out (hL.low (by repeat (first | (with_reducible first | exact HB.out | apply below_alloc | apply pw_below_drewN | apply below_drew1) | exact HB.out | refine below_set ?_ GE109.out | refine below_set ?_ GE118.out | refine below_set ?_ GE125.out | exact Below.refl _ _)))).mono ?_); rintro e w84 ⟨rfl, hb⟩; refine ⟨_, rfl, ?_⟩; have n0_ := Aside0.mk (blk_below (g := gb109) (o := .cells #[.int .i64 t103, .string t104, .int .i64 t105, .int .i64 t106] 28 (0, 0)) (by (with_reducible repeat (first | refine blk_drewN ?_ _ | refine blk_drew ?_ | refine blk_alloc ?_ _)); exact BK109.out) hb); have n1_ := Aside0.mk (below_step (by repeat (first | (with_reducible first | exact HB.out | apply below_alloc | apply pw_below_drewN | apply below_drew1 | refine below_set ?_ GE109.out) | exact HB.out)) hb); clear BK109; clear HB; have BK109 := n0_; have HB := n1_; clear n0_ n1_; (try clear hb); (try clear hb2); (try clear hk); (try clear hi)) | ((with_reducible refine gate_dst (N := 12) rfl ?_); (try (refine gate_guard (by rfl) ?_; dsimp only)); refine box_event ?hg (N := 12) ?hd (cs := #[.int .i64 0, .string (⟨#[]⟩ : ByteArray), .int .i64 0, .int .i64 0]) (t := 28) ?hr ?_; (case hd => rfl); (case hg => rfl); (case hr => first | (go_simp; done) | (go_simp; rfl)); intro gb125 hg w85 hbox hb; have n0_ := Aside0.mk (blk_below (g := gb109) (o := .cells #[.int .i64 t103, .string t104, .int .i64 t105, .int .i64 t106] 28 (0, 0)) (by (with_reducible repeat (first | refine blk_drewN ?_ _ | refine blk_drew ?_ | refine blk_alloc ?_ _)); exact BK109.out) hb); have n1_ := Aside0.mk (below_step (by repeat (first | (with_reducible first | exact HB.out | apply below_alloc | apply pw_below_drewN | apply below_drew1 | refine below_set ?_ GE109.out) | exact HB.out)) hb); have n2_ := Aside0.mk (hbox); have n3_ := Aside0.mk ((by rw [hg]; exact (below_size (by repeat (first | (with_reducible first | exact HB.out | apply below_alloc | apply pw_below_drewN | apply below_drew1 | refine below_set ?_ GE109.out) | exact HB.out))) : w.heap.size ≤ gb125)); have n4_ := Aside0.mk ((by rw [hg]; exact (below_size (by repeat (first | (with_reducible first | exact HB.out | apply below_alloc | apply pw_below_drewN | apply below_drew1 | refine below_set ?_ GE109.out) | exact HB.out))) : w.heap.size ≤ gb125)); have n5_ := Aside0.mk ((by rw [hg]; exact Nat.ne_of_lt (blk_lt (g := gb109) (o := .cells #[.int .i64 t103, .string t104, .int .i64 t105, .int .i64 t106] 28 (0, 0)) (by (with_reducible repeat (first | refine blk_drewN ?_ _ | refine blk_drew ?_ | refine blk_alloc ?_ _)); exact BK109.out)) : gb109 ≠ gb125)); have n6_ := Aside0.mk ((by rw [hg]; exact Nat.ne_of_gt (blk_lt (g := gb109) (o := .cells #[.int .i64 t103, .string t104, .int .i64 t105, .int .i64 t106] 28 (0, 0)) (by (with_reducible repeat (first | refine blk_drewN ?_ _ | refine blk_drew ?_ | refine blk_alloc ?_ _)); exact BK109.out)) : gb125 ≠ gb109)); clear BK109; clear HB; have BK109 := n0_; have HB := n1_; have BK125 := n2_; have GW125 := n3_; have GE125 := n4_; have NB109_125 := n5_; have NB125_109 := n6_; clear n0_ n1_ n2_ n3_ n4_ n5_ n6_; clear hb hbox hg; have hnb86 := NB125_109.out; have hnc86 := NB109_125.out; have hcz87_0 : w85.cell? ⟨gb125, 0, none⟩ = some (.int .i64 0) := (blk_cell BK125.out 0).trans rfl; have hcz87_1 : w85.cell? ⟨gb125, 1, none⟩ = some (.string (⟨#[]⟩ : ByteArray)) := (blk_cell BK125.out 1).trans rfl; have hcz87_2 : w85.cell? ⟨gb125, 2, none⟩ = some (.int .i64 0) := (blk_cell BK125.out 2).trans rfl; have hcz87_3 : w85.cell? ⟨gb125, 3, none⟩ = some (.int .i64 0) := (blk_cell BK125.out 3).trans rfl; have hfz87_0 := blk_frozen BK125.out 0; have hfz87_1 := blk_frozen BK125.out 1; have hfz87_2 := blk_frozen BK125.out 2; have hfz87_3 := blk_frozen BK125.out 3; have hcz88_0 : w85.cell? ⟨gb109, 0, none⟩ = some (.int .i64 t103) := (blk_cell BK109.out 0).trans rfl; have hcz88_1 : w85.cell? ⟨gb109, 1, none⟩ = some (.string t104) := (blk_cell BK109.out 1).trans rfl; have hcz88_2 : w85.cell? ⟨gb109, 2, none⟩ = some (.int .i64 t105) := (blk_cell BK109.out 2).trans rfl; have hcz88_3 : w85.cell? ⟨gb109, 3, none⟩ = some (.int .i64 t106) := (blk_cell BK109.out 3).trans rfl; have hfz88_0 := blk_frozen BK109.out 0; have hfz88_1 := blk_frozen BK109.out 1; have hfz88_2 := blk_frozen BK109.out 2; have hfz88_3 := blk_frozen BK109.out 3))
                                  go_ret
                                  exact ⟨by first | rfl | (simp [errW_none, errW_some] <;> rfl) | (simp [*, errW_none, errW_some] <;> rfl), by repeat (first | (with_reducible first | exact HB.out | apply below_alloc | apply pw_below_drewN | apply below_drew1 | refine below_set ?_ GE109.out | refine below_set ?_ GE125.out) | exact HB.out)⟩
                              · rw [if_neg c75] at H
                                have c75b0 : (t120.toList == t104.toList) = false := beq_eq_false_iff_ne.mpr c75
                                have c75b1 : (t120.toList != t104.toList) = true := bne_iff_ne.mpr c75
                                obtain rfl := Option.some.inj H
                                have hcz89_0 : wc.cell? ⟨gb109, 0, none⟩ = some (.int .i64 t103) := (blk_cell BK109.out 0).trans rfl
                                have hcz89_1 : wc.cell? ⟨gb109, 1, none⟩ = some (.string t104) := (blk_cell BK109.out 1).trans rfl
                                have hcz89_2 : wc.cell? ⟨gb109, 2, none⟩ = some (.int .i64 t105) := (blk_cell BK109.out 2).trans rfl
                                have hcz89_3 : wc.cell? ⟨gb109, 3, none⟩ = some (.int .i64 t106) := (blk_cell BK109.out 3).trans rfl
                                have hfz89_0 := blk_frozen BK109.out 0
                                have hfz89_1 := blk_frozen BK109.out 1
                                have hfz89_2 := blk_frozen BK109.out 2
                                have hfz89_3 := blk_frozen BK109.out 3
                                go_wp2_with (first | ((with_reducible refine gate_callee (f := 13) rfl ?_); refine goesL_ (some 109) rfl rfl Tryd.func13 (by kernel_rfl) rfl #[.string own_, .int .i64 0] rfl (by (try simp only [List.map_toArray, List.map_cons, List.map_nil]); first | done | rfl | (simp only [List.length_drop, List.length_take]; rfl)) ?_; (with_reducible refine (lex_OneA.calls own_ 0 t119 t120 t121 t122 t123 t124 _ A72.out (hL.low (by repeat (first | (with_reducible first | exact HB.out | apply below_alloc | apply pw_below_drewN | apply below_drew1) | exact HB.out | refine below_set ?_ GE109.out | refine below_set ?_ GE118.out | refine below_set ?_ GE125.out | exact Below.refl _ _)))).mono ?_); rintro e w90 ⟨rfl, hb⟩; refine ⟨_, rfl, ?_⟩; have n0_ := Aside0.mk (blk_below (g := gb109) (o := .cells #[.int .i64 t103, .string t104, .int .i64 t105, .int .i64 t106] 28 (0, 0)) (by (with_reducible repeat (first | refine blk_drewN ?_ _ | refine blk_drew ?_ | refine blk_alloc ?_ _)); exact BK109.out) hb); have n1_ := Aside0.mk (below_step (by repeat (first | (with_reducible first | exact HB.out | apply below_alloc | apply pw_below_drewN | apply below_drew1 | refine below_set ?_ GE109.out) | exact HB.out)) hb); clear BK109; clear HB; have BK109 := n0_; have HB := n1_; clear n0_ n1_; (try clear hb); (try clear hb2); (try clear hk); (try clear hi)) | ((with_reducible refine gate_dst (N := 12) rfl ?_); (try (refine gate_guard (by rfl) ?_; dsimp only)); refine box_event ?hg (N := 12) ?hd (cs := #[.int .i64 0, .string (⟨#[]⟩ : ByteArray), .int .i64 0, .int .i64 0]) (t := 28) ?hr ?_; (case hd => rfl); (case hg => rfl); (case hr => first | (go_simp; done) | (go_simp; rfl)); intro gb125 hg w91 hbox hb; have n0_ := Aside0.mk (blk_below (g := gb109) (o := .cells #[.int .i64 t103, .string t104, .int .i64 t105, .int .i64 t106] 28 (0, 0)) (by (with_reducible repeat (first | refine blk_drewN ?_ _ | refine blk_drew ?_ | refine blk_alloc ?_ _)); exact BK109.out) hb); have n1_ := Aside0.mk (below_step (by repeat (first | (with_reducible first | exact HB.out | apply below_alloc | apply pw_below_drewN | apply below_drew1 | refine below_set ?_ GE109.out) | exact HB.out)) hb); have n2_ := Aside0.mk (hbox); have n3_ := Aside0.mk ((by rw [hg]; exact (below_size (by repeat (first | (with_reducible first | exact HB.out | apply below_alloc | apply pw_below_drewN | apply below_drew1 | refine below_set ?_ GE109.out) | exact HB.out))) : w.heap.size ≤ gb125)); have n4_ := Aside0.mk ((by rw [hg]; exact (below_size (by repeat (first | (with_reducible first | exact HB.out | apply below_alloc | apply pw_below_drewN | apply below_drew1 | refine below_set ?_ GE109.out) | exact HB.out))) : w.heap.size ≤ gb125)); have n5_ := Aside0.mk ((by rw [hg]; exact Nat.ne_of_lt (blk_lt (g := gb109) (o := .cells #[.int .i64 t103, .string t104, .int .i64 t105, .int .i64 t106] 28 (0, 0)) (by (with_reducible repeat (first | refine blk_drewN ?_ _ | refine blk_drew ?_ | refine blk_alloc ?_ _)); exact BK109.out)) : gb109 ≠ gb125)); have n6_ := Aside0.mk ((by rw [hg]; exact Nat.ne_of_gt (blk_lt (g := gb109) (o := .cells #[.int .i64 t103, .string t104, .int .i64 t105, .int .i64 t106] 28 (0, 0)) (by (with_reducible repeat (first | refine blk_drewN ?_ _ | refine blk_drew ?_ | refine blk_alloc ?_ _)); exact BK109.out)) : gb125 ≠ gb109)); clear BK109; clear HB; have BK109 := n0_; have HB := n1_; have BK125 := n2_; have GW125 := n3_; have GE125 := n4_; have NB109_125 := n5_; have NB125_109 := n6_; clear n0_ n1_ n2_ n3_ n4_ n5_ n6_; clear hb hbox hg; have hnb92 := NB125_109.out; have hnc92 := NB109_125.out; have hcz93_0 : w91.cell? ⟨gb125, 0, none⟩ = some (.int .i64 0) := (blk_cell BK125.out 0).trans rfl; have hcz93_1 : w91.cell? ⟨gb125, 1, none⟩ = some (.string (⟨#[]⟩ : ByteArray)) := (blk_cell BK125.out 1).trans rfl; have hcz93_2 : w91.cell? ⟨gb125, 2, none⟩ = some (.int .i64 0) := (blk_cell BK125.out 2).trans rfl; have hcz93_3 : w91.cell? ⟨gb125, 3, none⟩ = some (.int .i64 0) := (blk_cell BK125.out 3).trans rfl; have hfz93_0 := blk_frozen BK125.out 0; have hfz93_1 := blk_frozen BK125.out 1; have hfz93_2 := blk_frozen BK125.out 2; have hfz93_3 := blk_frozen BK125.out 3; have hcz94_0 : w91.cell? ⟨gb109, 0, none⟩ = some (.int .i64 t103) := (blk_cell BK109.out 0).trans rfl; have hcz94_1 : w91.cell? ⟨gb109, 1, none⟩ = some (.string t104) := (blk_cell BK109.out 1).trans rfl; have hcz94_2 : w91.cell? ⟨gb109, 2, none⟩ = some (.int .i64 t105) := (blk_cell BK109.out 2).trans rfl; have hcz94_3 : w91.cell? ⟨gb109, 3, none⟩ = some (.int .i64 t106) := (blk_cell BK109.out 3).trans rfl; have hfz94_0 := blk_frozen BK109.out 0; have hfz94_1 := blk_frozen BK109.out 1; have hfz94_2 := blk_frozen BK109.out 2; have hfz94_3 := blk_frozen BK109.out 3))
                                go_ret
                                exact ⟨by first | rfl | (simp [errW_none, errW_some] <;> rfl) | (simp [*, errW_none, errW_some] <;> rfl), by repeat (first | (with_reducible first | exact HB.out | apply below_alloc | apply pw_below_drewN | apply below_drew1 | refine below_set ?_ GE109.out | refine below_set ?_ GE125.out) | exact HB.out)⟩
                            · rw [if_neg c74] at H
                              have c74b0 : (t119 == t103) = false := beq_eq_false_iff_ne.mpr c74
                              have c74b1 : (t119 != t103) = true := bne_iff_ne.mpr c74
                              obtain rfl := Option.some.inj H
                              have hcz95_0 : wc.cell? ⟨gb109, 0, none⟩ = some (.int .i64 t103) := (blk_cell BK109.out 0).trans rfl
                              have hcz95_1 : wc.cell? ⟨gb109, 1, none⟩ = some (.string t104) := (blk_cell BK109.out 1).trans rfl
                              have hcz95_2 : wc.cell? ⟨gb109, 2, none⟩ = some (.int .i64 t105) := (blk_cell BK109.out 2).trans rfl
                              have hcz95_3 : wc.cell? ⟨gb109, 3, none⟩ = some (.int .i64 t106) := (blk_cell BK109.out 3).trans rfl
                              have hfz95_0 := blk_frozen BK109.out 0
                              have hfz95_1 := blk_frozen BK109.out 1
                              have hfz95_2 := blk_frozen BK109.out 2
                              have hfz95_3 := blk_frozen BK109.out 3
                              go_wp2_with (first | ((with_reducible refine gate_callee (f := 13) rfl ?_); refine goesL_ (some 109) rfl rfl Tryd.func13 (by kernel_rfl) rfl #[.string own_, .int .i64 0] rfl (by (try simp only [List.map_toArray, List.map_cons, List.map_nil]); first | done | rfl | (simp only [List.length_drop, List.length_take]; rfl)) ?_; (with_reducible refine (lex_OneA.calls own_ 0 t119 t120 t121 t122 t123 t124 _ A72.out (hL.low (by repeat (first | (with_reducible first | exact HB.out | apply below_alloc | apply pw_below_drewN | apply below_drew1) | exact HB.out | refine below_set ?_ GE109.out | refine below_set ?_ GE118.out | refine below_set ?_ GE125.out | exact Below.refl _ _)))).mono ?_); rintro e w96 ⟨rfl, hb⟩; refine ⟨_, rfl, ?_⟩; have n0_ := Aside0.mk (blk_below (g := gb109) (o := .cells #[.int .i64 t103, .string t104, .int .i64 t105, .int .i64 t106] 28 (0, 0)) (by (with_reducible repeat (first | refine blk_drewN ?_ _ | refine blk_drew ?_ | refine blk_alloc ?_ _)); exact BK109.out) hb); have n1_ := Aside0.mk (below_step (by repeat (first | (with_reducible first | exact HB.out | apply below_alloc | apply pw_below_drewN | apply below_drew1 | refine below_set ?_ GE109.out) | exact HB.out)) hb); clear BK109; clear HB; have BK109 := n0_; have HB := n1_; clear n0_ n1_; (try clear hb); (try clear hb2); (try clear hk); (try clear hi)) | ((with_reducible refine gate_dst (N := 12) rfl ?_); (try (refine gate_guard (by rfl) ?_; dsimp only)); refine box_event ?hg (N := 12) ?hd (cs := #[.int .i64 0, .string (⟨#[]⟩ : ByteArray), .int .i64 0, .int .i64 0]) (t := 28) ?hr ?_; (case hd => rfl); (case hg => rfl); (case hr => first | (go_simp; done) | (go_simp; rfl)); intro gb125 hg w97 hbox hb; have n0_ := Aside0.mk (blk_below (g := gb109) (o := .cells #[.int .i64 t103, .string t104, .int .i64 t105, .int .i64 t106] 28 (0, 0)) (by (with_reducible repeat (first | refine blk_drewN ?_ _ | refine blk_drew ?_ | refine blk_alloc ?_ _)); exact BK109.out) hb); have n1_ := Aside0.mk (below_step (by repeat (first | (with_reducible first | exact HB.out | apply below_alloc | apply pw_below_drewN | apply below_drew1 | refine below_set ?_ GE109.out) | exact HB.out)) hb); have n2_ := Aside0.mk (hbox); have n3_ := Aside0.mk ((by rw [hg]; exact (below_size (by repeat (first | (with_reducible first | exact HB.out | apply below_alloc | apply pw_below_drewN | apply below_drew1 | refine below_set ?_ GE109.out) | exact HB.out))) : w.heap.size ≤ gb125)); have n4_ := Aside0.mk ((by rw [hg]; exact (below_size (by repeat (first | (with_reducible first | exact HB.out | apply below_alloc | apply pw_below_drewN | apply below_drew1 | refine below_set ?_ GE109.out) | exact HB.out))) : w.heap.size ≤ gb125)); have n5_ := Aside0.mk ((by rw [hg]; exact Nat.ne_of_lt (blk_lt (g := gb109) (o := .cells #[.int .i64 t103, .string t104, .int .i64 t105, .int .i64 t106] 28 (0, 0)) (by (with_reducible repeat (first | refine blk_drewN ?_ _ | refine blk_drew ?_ | refine blk_alloc ?_ _)); exact BK109.out)) : gb109 ≠ gb125)); have n6_ := Aside0.mk ((by rw [hg]; exact Nat.ne_of_gt (blk_lt (g := gb109) (o := .cells #[.int .i64 t103, .string t104, .int .i64 t105, .int .i64 t106] 28 (0, 0)) (by (with_reducible repeat (first | refine blk_drewN ?_ _ | refine blk_drew ?_ | refine blk_alloc ?_ _)); exact BK109.out)) : gb125 ≠ gb109)); clear BK109; clear HB; have BK109 := n0_; have HB := n1_; have BK125 := n2_; have GW125 := n3_; have GE125 := n4_; have NB109_125 := n5_; have NB125_109 := n6_; clear n0_ n1_ n2_ n3_ n4_ n5_ n6_; clear hb hbox hg; have hnb98 := NB125_109.out; have hnc98 := NB109_125.out; have hcz99_0 : w97.cell? ⟨gb125, 0, none⟩ = some (.int .i64 0) := (blk_cell BK125.out 0).trans rfl; have hcz99_1 : w97.cell? ⟨gb125, 1, none⟩ = some (.string (⟨#[]⟩ : ByteArray)) := (blk_cell BK125.out 1).trans rfl; have hcz99_2 : w97.cell? ⟨gb125, 2, none⟩ = some (.int .i64 0) := (blk_cell BK125.out 2).trans rfl; have hcz99_3 : w97.cell? ⟨gb125, 3, none⟩ = some (.int .i64 0) := (blk_cell BK125.out 3).trans rfl; have hfz99_0 := blk_frozen BK125.out 0; have hfz99_1 := blk_frozen BK125.out 1; have hfz99_2 := blk_frozen BK125.out 2; have hfz99_3 := blk_frozen BK125.out 3; have hcz100_0 : w97.cell? ⟨gb109, 0, none⟩ = some (.int .i64 t103) := (blk_cell BK109.out 0).trans rfl; have hcz100_1 : w97.cell? ⟨gb109, 1, none⟩ = some (.string t104) := (blk_cell BK109.out 1).trans rfl; have hcz100_2 : w97.cell? ⟨gb109, 2, none⟩ = some (.int .i64 t105) := (blk_cell BK109.out 2).trans rfl; have hcz100_3 : w97.cell? ⟨gb109, 3, none⟩ = some (.int .i64 t106) := (blk_cell BK109.out 3).trans rfl; have hfz100_0 := blk_frozen BK109.out 0; have hfz100_1 := blk_frozen BK109.out 1; have hfz100_2 := blk_frozen BK109.out 2; have hfz100_3 := blk_frozen BK109.out 3))
                              go_ret
                              exact ⟨by first | rfl | (simp [errW_none, errW_some] <;> rfl) | (simp [*, errW_none, errW_some] <;> rfl), by repeat (first | (with_reducible first | exact HB.out | apply below_alloc | apply pw_below_drewN | apply below_drew1 | refine below_set ?_ GE109.out | refine below_set ?_ GE125.out) | exact HB.out)⟩
                          · rw [if_neg c73] at H
                            have c73b0 : (t123 == 0) = false := beq_eq_false_iff_ne.mpr c73
                            have c73b1 : (t123 != 0) = true := bne_iff_ne.mpr c73
                            obtain rfl := Option.some.inj H
                            have hcz101_0 : wc.cell? ⟨gb109, 0, none⟩ = some (.int .i64 t103) := (blk_cell BK109.out 0).trans rfl
                            have hcz101_1 : wc.cell? ⟨gb109, 1, none⟩ = some (.string t104) := (blk_cell BK109.out 1).trans rfl
                            have hcz101_2 : wc.cell? ⟨gb109, 2, none⟩ = some (.int .i64 t105) := (blk_cell BK109.out 2).trans rfl
                            have hcz101_3 : wc.cell? ⟨gb109, 3, none⟩ = some (.int .i64 t106) := (blk_cell BK109.out 3).trans rfl
                            have hfz101_0 := blk_frozen BK109.out 0
                            have hfz101_1 := blk_frozen BK109.out 1
                            have hfz101_2 := blk_frozen BK109.out 2
                            have hfz101_3 := blk_frozen BK109.out 3
                            go_wp2_with (first | ((with_reducible refine gate_callee (f := 13) rfl ?_); refine goesL_ (some 109) rfl rfl Tryd.func13 (by kernel_rfl) rfl #[.string own_, .int .i64 0] rfl (by (try simp only [List.map_toArray, List.map_cons, List.map_nil]); first | done | rfl | (simp only [List.length_drop, List.length_take]; rfl)) ?_; (with_reducible refine (lex_OneA.calls own_ 0 t119 t120 t121 t122 t123 t124 _ A72.out (hL.low (by repeat (first | (with_reducible first | exact HB.out | apply below_alloc | apply pw_below_drewN | apply below_drew1) | exact HB.out | refine below_set ?_ GE109.out | refine below_set ?_ GE118.out | refine below_set ?_ GE125.out | exact Below.refl _ _)))).mono ?_); rintro e w102 ⟨rfl, hb⟩; refine ⟨_, rfl, ?_⟩; have n0_ := Aside0.mk (blk_below (g := gb109) (o := .cells #[.int .i64 t103, .string t104, .int .i64 t105, .int .i64 t106] 28 (0, 0)) (by (with_reducible repeat (first | refine blk_drewN ?_ _ | refine blk_drew ?_ | refine blk_alloc ?_ _)); exact BK109.out) hb); have n1_ := Aside0.mk (below_step (by repeat (first | (with_reducible first | exact HB.out | apply below_alloc | apply pw_below_drewN | apply below_drew1 | refine below_set ?_ GE109.out) | exact HB.out)) hb); clear BK109; clear HB; have BK109 := n0_; have HB := n1_; clear n0_ n1_; (try clear hb); (try clear hb2); (try clear hk); (try clear hi)) | ((with_reducible refine gate_dst (N := 12) rfl ?_); (try (refine gate_guard (by rfl) ?_; dsimp only)); refine box_event ?hg (N := 12) ?hd (cs := #[.int .i64 0, .string (⟨#[]⟩ : ByteArray), .int .i64 0, .int .i64 0]) (t := 28) ?hr ?_; (case hd => rfl); (case hg => rfl); (case hr => first | (go_simp; done) | (go_simp; rfl)); intro gb125 hg w103 hbox hb; have n0_ := Aside0.mk (blk_below (g := gb109) (o := .cells #[.int .i64 t103, .string t104, .int .i64 t105, .int .i64 t106] 28 (0, 0)) (by (with_reducible repeat (first | refine blk_drewN ?_ _ | refine blk_drew ?_ | refine blk_alloc ?_ _)); exact BK109.out) hb); have n1_ := Aside0.mk (below_step (by repeat (first | (with_reducible first | exact HB.out | apply below_alloc | apply pw_below_drewN | apply below_drew1 | refine below_set ?_ GE109.out) | exact HB.out)) hb); have n2_ := Aside0.mk (hbox); have n3_ := Aside0.mk ((by rw [hg]; exact (below_size (by repeat (first | (with_reducible first | exact HB.out | apply below_alloc | apply pw_below_drewN | apply below_drew1 | refine below_set ?_ GE109.out) | exact HB.out))) : w.heap.size ≤ gb125)); have n4_ := Aside0.mk ((by rw [hg]; exact (below_size (by repeat (first | (with_reducible first | exact HB.out | apply below_alloc | apply pw_below_drewN | apply below_drew1 | refine below_set ?_ GE109.out) | exact HB.out))) : w.heap.size ≤ gb125)); have n5_ := Aside0.mk ((by rw [hg]; exact Nat.ne_of_lt (blk_lt (g := gb109) (o := .cells #[.int .i64 t103, .string t104, .int .i64 t105, .int .i64 t106] 28 (0, 0)) (by (with_reducible repeat (first | refine blk_drewN ?_ _ | refine blk_drew ?_ | refine blk_alloc ?_ _)); exact BK109.out)) : gb109 ≠ gb125)); have n6_ := Aside0.mk ((by rw [hg]; exact Nat.ne_of_gt (blk_lt (g := gb109) (o := .cells #[.int .i64 t103, .string t104, .int .i64 t105, .int .i64 t106] 28 (0, 0)) (by (with_reducible repeat (first | refine blk_drewN ?_ _ | refine blk_drew ?_ | refine blk_alloc ?_ _)); exact BK109.out)) : gb125 ≠ gb109)); clear BK109; clear HB; have BK109 := n0_; have HB := n1_; have BK125 := n2_; have GW125 := n3_; have GE125 := n4_; have NB109_125 := n5_; have NB125_109 := n6_; clear n0_ n1_ n2_ n3_ n4_ n5_ n6_; clear hb hbox hg; have hnb104 := NB125_109.out; have hnc104 := NB109_125.out; have hcz105_0 : w103.cell? ⟨gb125, 0, none⟩ = some (.int .i64 0) := (blk_cell BK125.out 0).trans rfl; have hcz105_1 : w103.cell? ⟨gb125, 1, none⟩ = some (.string (⟨#[]⟩ : ByteArray)) := (blk_cell BK125.out 1).trans rfl; have hcz105_2 : w103.cell? ⟨gb125, 2, none⟩ = some (.int .i64 0) := (blk_cell BK125.out 2).trans rfl; have hcz105_3 : w103.cell? ⟨gb125, 3, none⟩ = some (.int .i64 0) := (blk_cell BK125.out 3).trans rfl; have hfz105_0 := blk_frozen BK125.out 0; have hfz105_1 := blk_frozen BK125.out 1; have hfz105_2 := blk_frozen BK125.out 2; have hfz105_3 := blk_frozen BK125.out 3))
                            go_ret
                            exact ⟨by first | rfl | (simp [errW_none, errW_some] <;> rfl) | (simp [*, errW_none, errW_some] <;> rfl), by repeat (first | (with_reducible first | exact HB.out | apply below_alloc | apply pw_below_drewN | apply below_drew1 | refine below_set ?_ GE109.out | refine below_set ?_ GE125.out) | exact HB.out)⟩
                        · rw [if_neg c71] at H
                          have c71b0 : (own_.toList == t104.toList) = false := beq_eq_false_iff_ne.mpr c71
                          have c71b1 : (own_.toList != t104.toList) = true := bne_iff_ne.mpr c71
                          obtain rfl := Option.some.inj H
                          have hcz106_0 : wc.cell? ⟨gb109, 0, none⟩ = some (.int .i64 t103) := (blk_cell BK109.out 0).trans rfl
                          have hcz106_1 : wc.cell? ⟨gb109, 1, none⟩ = some (.string t104) := (blk_cell BK109.out 1).trans rfl
                          have hcz106_2 : wc.cell? ⟨gb109, 2, none⟩ = some (.int .i64 t105) := (blk_cell BK109.out 2).trans rfl
                          have hcz106_3 : wc.cell? ⟨gb109, 3, none⟩ = some (.int .i64 t106) := (blk_cell BK109.out 3).trans rfl
                          have hfz106_0 := blk_frozen BK109.out 0
                          have hfz106_1 := blk_frozen BK109.out 1
                          have hfz106_2 := blk_frozen BK109.out 2
                          have hfz106_3 := blk_frozen BK109.out 3
                          go_wp2
                          go_ret
                          exact ⟨by first | rfl | (simp [errW_none, errW_some] <;> rfl) | (simp [*, errW_none, errW_some] <;> rfl), by repeat (first | (with_reducible first | exact HB.out | apply below_alloc | apply pw_below_drewN | apply below_drew1 | refine below_set ?_ GE109.out) | exact HB.out)⟩
                    · rw [if_neg c26] at H
                      exact absurd H (by simp)
                  · rw [if_neg c25] at H
                    exact absurd H (by simp)
                · rw [if_neg c24] at H
                  exact absurd H (by simp)
        · rw [if_neg c12] at H
          have c12b0 : (t107 == 0) = false := beq_eq_false_iff_ne.mpr c12
          have c12b1 : (t107 != 0) = true := bne_iff_ne.mpr c12
          by_cases c107 : (t103 == 0 && (t104.toList == ([] : List UInt8) && (t105 == 0 && (t106 == 0)))) = true
          · rw [if_pos c107] at H
            have c107b0 : (t103 == 0 && (t104.toList == ([] : List UInt8) && (t105 == 0 && (t106 == 0)))) = true := c107
            have c107b9 : (t103 == 0 && (t104.toList.isEmpty && (t105 == 0 && (t106 == 0)))) = true := by rw [← beq_nil_is t104.toList]; exact c107b0
            (try (have c107b1 : decide (t103 = 0 && (t104.toList == ([] : List UInt8) && (t105 == 0 && (t106 == 0)))) = true := by simpa using c107))
            (try (have c107b2 : (t103 == 0 && (t104.toList == ([] : List UInt8) && (t105 == 0 && (t106 == 0)))) = true := by simpa using c107))
            clear c107
            by_cases c108 : a1 < 0
            · rw [if_pos c108] at H
              have c108b0 : decide (a1 < 0) = true := decide_eq_true c108
              clear c108
              obtain rfl := Option.some.inj H
              go_wp2_with (first | ((with_reducible refine gate_callee (f := 13) rfl ?_); refine goesL_ (some 32) rfl rfl Tryd.func13 (by kernel_rfl) rfl #[.string a0, .int .i64 a1] rfl (by (try simp only [List.map_toArray, List.map_cons, List.map_nil]); first | done | rfl | (simp only [List.length_drop, List.length_take]; rfl)) ?_; (with_reducible refine (lex_OneA.calls a0 a1 t103 t104 t105 t106 t107 t108 _ A11.out (hL.low (by repeat (first | (with_reducible first | exact HB.out | apply below_alloc | apply pw_below_drewN | apply below_drew1) | exact HB.out | refine below_set ?_ GE109.out | refine below_set ?_ GE118.out | refine below_set ?_ GE125.out | exact Below.refl _ _)))).mono ?_); rintro e w109 ⟨rfl, hb⟩; refine ⟨_, rfl, ?_⟩; have n0_ := Aside0.mk (below_step (by repeat (first | (with_reducible first | exact HB.out | apply below_alloc | apply pw_below_drewN | apply below_drew1) | exact HB.out)) hb); clear HB; have HB := n0_; clear n0_; (try clear hb); (try clear hb2); (try clear hk); (try clear hi)) | ((with_reducible refine gate_dst (N := 6) rfl ?_); (try (refine gate_guard (by rfl) ?_; dsimp only)); refine box_event ?hg (N := 6) ?hd (cs := #[.int .i64 0, .string (⟨#[]⟩ : ByteArray), .int .i64 0, .int .i64 0]) (t := 28) ?hr ?_; (case hd => rfl); (case hg => rfl); (case hr => first | (go_simp; done) | (go_simp; rfl)); intro gb109 hg w110 hbox hb; have n0_ := Aside0.mk (below_step (by repeat (first | (with_reducible first | exact HB.out | apply below_alloc | apply pw_below_drewN | apply below_drew1) | exact HB.out)) hb); have n1_ := Aside0.mk (hbox); have n2_ := Aside0.mk ((by rw [hg]; exact (below_size (by repeat (first | (with_reducible first | exact HB.out | apply below_alloc | apply pw_below_drewN | apply below_drew1) | exact HB.out))) : w.heap.size ≤ gb109)); have n3_ := Aside0.mk ((by rw [hg]; exact (below_size (by repeat (first | (with_reducible first | exact HB.out | apply below_alloc | apply pw_below_drewN | apply below_drew1) | exact HB.out))) : w.heap.size ≤ gb109)); clear HB; have HB := n0_; have BK109 := n1_; have GW109 := n2_; have GE109 := n3_; clear n0_ n1_ n2_ n3_; clear hb hbox hg; have hcz111_0 : w110.cell? ⟨gb109, 0, none⟩ = some (.int .i64 0) := (blk_cell BK109.out 0).trans rfl; have hcz111_1 : w110.cell? ⟨gb109, 1, none⟩ = some (.string (⟨#[]⟩ : ByteArray)) := (blk_cell BK109.out 1).trans rfl; have hcz111_2 : w110.cell? ⟨gb109, 2, none⟩ = some (.int .i64 0) := (blk_cell BK109.out 2).trans rfl; have hcz111_3 : w110.cell? ⟨gb109, 3, none⟩ = some (.int .i64 0) := (blk_cell BK109.out 3).trans rfl; have hfz111_0 := blk_frozen BK109.out 0; have hfz111_1 := blk_frozen BK109.out 1; have hfz111_2 := blk_frozen BK109.out 2; have hfz111_3 := blk_frozen BK109.out 3))
              go_ret
              exact ⟨by first | rfl | (simp [errW_none, errW_some] <;> rfl) | (simp [*, errW_none, errW_some] <;> rfl), by repeat (first | (with_reducible first | exact HB.out | apply below_alloc | apply pw_below_drewN | apply below_drew1 | refine below_set ?_ GE109.out) | exact HB.out)⟩
            · rw [if_neg c108] at H
              have c108b0 : decide (a1 < 0) = false := decide_eq_false c108
              clear c108
              by_cases c112 : a1 ≥ (a0.size : Int)
              · rw [if_pos c112] at H
                have c112b0 : decide ((a0.size : Int) ≤ a1) = true := decide_eq_true c112
                clear c112
                obtain rfl := Option.some.inj H
                go_wp2_with (first | ((with_reducible refine gate_callee (f := 13) rfl ?_); refine goesL_ (some 32) rfl rfl Tryd.func13 (by kernel_rfl) rfl #[.string a0, .int .i64 a1] rfl (by (try simp only [List.map_toArray, List.map_cons, List.map_nil]); first | done | rfl | (simp only [List.length_drop, List.length_take]; rfl)) ?_; (with_reducible refine (lex_OneA.calls a0 a1 t103 t104 t105 t106 t107 t108 _ A11.out (hL.low (by repeat (first | (with_reducible first | exact HB.out | apply below_alloc | apply pw_below_drewN | apply below_drew1) | exact HB.out | refine below_set ?_ GE109.out | refine below_set ?_ GE118.out | refine below_set ?_ GE125.out | exact Below.refl _ _)))).mono ?_); rintro e w113 ⟨rfl, hb⟩; refine ⟨_, rfl, ?_⟩; have n0_ := Aside0.mk (below_step (by repeat (first | (with_reducible first | exact HB.out | apply below_alloc | apply pw_below_drewN | apply below_drew1) | exact HB.out)) hb); clear HB; have HB := n0_; clear n0_; (try clear hb); (try clear hb2); (try clear hk); (try clear hi)) | ((with_reducible refine gate_dst (N := 6) rfl ?_); (try (refine gate_guard (by rfl) ?_; dsimp only)); refine box_event ?hg (N := 6) ?hd (cs := #[.int .i64 0, .string (⟨#[]⟩ : ByteArray), .int .i64 0, .int .i64 0]) (t := 28) ?hr ?_; (case hd => rfl); (case hg => rfl); (case hr => first | (go_simp; done) | (go_simp; rfl)); intro gb109 hg w114 hbox hb; have n0_ := Aside0.mk (below_step (by repeat (first | (with_reducible first | exact HB.out | apply below_alloc | apply pw_below_drewN | apply below_drew1) | exact HB.out)) hb); have n1_ := Aside0.mk (hbox); have n2_ := Aside0.mk ((by rw [hg]; exact (below_size (by repeat (first | (with_reducible first | exact HB.out | apply below_alloc | apply pw_below_drewN | apply below_drew1) | exact HB.out))) : w.heap.size ≤ gb109)); have n3_ := Aside0.mk ((by rw [hg]; exact (below_size (by repeat (first | (with_reducible first | exact HB.out | apply below_alloc | apply pw_below_drewN | apply below_drew1) | exact HB.out))) : w.heap.size ≤ gb109)); clear HB; have HB := n0_; have BK109 := n1_; have GW109 := n2_; have GE109 := n3_; clear n0_ n1_ n2_ n3_; clear hb hbox hg; have hcz115_0 : w114.cell? ⟨gb109, 0, none⟩ = some (.int .i64 0) := (blk_cell BK109.out 0).trans rfl; have hcz115_1 : w114.cell? ⟨gb109, 1, none⟩ = some (.string (⟨#[]⟩ : ByteArray)) := (blk_cell BK109.out 1).trans rfl; have hcz115_2 : w114.cell? ⟨gb109, 2, none⟩ = some (.int .i64 0) := (blk_cell BK109.out 2).trans rfl; have hcz115_3 : w114.cell? ⟨gb109, 3, none⟩ = some (.int .i64 0) := (blk_cell BK109.out 3).trans rfl; have hfz115_0 := blk_frozen BK109.out 0; have hfz115_1 := blk_frozen BK109.out 1; have hfz115_2 := blk_frozen BK109.out 2; have hfz115_3 := blk_frozen BK109.out 3))
                go_ret
                exact ⟨by first | rfl | (simp [errW_none, errW_some] <;> rfl) | (simp [*, errW_none, errW_some] <;> rfl), by repeat (first | (with_reducible first | exact HB.out | apply below_alloc | apply pw_below_drewN | apply below_drew1 | refine below_set ?_ GE109.out) | exact HB.out)⟩
              · rw [if_neg c112] at H
                have c112b0 : decide ((a0.size : Int) ≤ a1) = false := decide_eq_false c112
                clear c112
                by_cases c116 : t108 ≥ a1
                · rw [if_pos c116] at H
                  have c116b0 : decide (a1 ≤ t108) = true := decide_eq_true c116
                  clear c116
                  obtain rfl := Option.some.inj H
                  go_wp2_with (first | ((with_reducible refine gate_callee (f := 13) rfl ?_); refine goesL_ (some 32) rfl rfl Tryd.func13 (by kernel_rfl) rfl #[.string a0, .int .i64 a1] rfl (by (try simp only [List.map_toArray, List.map_cons, List.map_nil]); first | done | rfl | (simp only [List.length_drop, List.length_take]; rfl)) ?_; (with_reducible refine (lex_OneA.calls a0 a1 t103 t104 t105 t106 t107 t108 _ A11.out (hL.low (by repeat (first | (with_reducible first | exact HB.out | apply below_alloc | apply pw_below_drewN | apply below_drew1) | exact HB.out | refine below_set ?_ GE109.out | refine below_set ?_ GE118.out | refine below_set ?_ GE125.out | exact Below.refl _ _)))).mono ?_); rintro e w117 ⟨rfl, hb⟩; refine ⟨_, rfl, ?_⟩; have n0_ := Aside0.mk (below_step (by repeat (first | (with_reducible first | exact HB.out | apply below_alloc | apply pw_below_drewN | apply below_drew1) | exact HB.out)) hb); clear HB; have HB := n0_; clear n0_; (try clear hb); (try clear hb2); (try clear hk); (try clear hi)) | ((with_reducible refine gate_dst (N := 6) rfl ?_); (try (refine gate_guard (by rfl) ?_; dsimp only)); refine box_event ?hg (N := 6) ?hd (cs := #[.int .i64 0, .string (⟨#[]⟩ : ByteArray), .int .i64 0, .int .i64 0]) (t := 28) ?hr ?_; (case hd => rfl); (case hg => rfl); (case hr => first | (go_simp; done) | (go_simp; rfl)); intro gb109 hg w118 hbox hb; have n0_ := Aside0.mk (below_step (by repeat (first | (with_reducible first | exact HB.out | apply below_alloc | apply pw_below_drewN | apply below_drew1) | exact HB.out)) hb); have n1_ := Aside0.mk (hbox); have n2_ := Aside0.mk ((by rw [hg]; exact (below_size (by repeat (first | (with_reducible first | exact HB.out | apply below_alloc | apply pw_below_drewN | apply below_drew1) | exact HB.out))) : w.heap.size ≤ gb109)); have n3_ := Aside0.mk ((by rw [hg]; exact (below_size (by repeat (first | (with_reducible first | exact HB.out | apply below_alloc | apply pw_below_drewN | apply below_drew1) | exact HB.out))) : w.heap.size ≤ gb109)); clear HB; have HB := n0_; have BK109 := n1_; have GW109 := n2_; have GE109 := n3_; clear n0_ n1_ n2_ n3_; clear hb hbox hg; have hcz119_0 : w118.cell? ⟨gb109, 0, none⟩ = some (.int .i64 0) := (blk_cell BK109.out 0).trans rfl; have hcz119_1 : w118.cell? ⟨gb109, 1, none⟩ = some (.string (⟨#[]⟩ : ByteArray)) := (blk_cell BK109.out 1).trans rfl; have hcz119_2 : w118.cell? ⟨gb109, 2, none⟩ = some (.int .i64 0) := (blk_cell BK109.out 2).trans rfl; have hcz119_3 : w118.cell? ⟨gb109, 3, none⟩ = some (.int .i64 0) := (blk_cell BK109.out 3).trans rfl; have hfz119_0 := blk_frozen BK109.out 0; have hfz119_1 := blk_frozen BK109.out 1; have hfz119_2 := blk_frozen BK109.out 2; have hfz119_3 := blk_frozen BK109.out 3))
                  go_ret
                  exact ⟨by first | rfl | (simp [errW_none, errW_some] <;> rfl) | (simp [*, errW_none, errW_some] <;> rfl), by repeat (first | (with_reducible first | exact HB.out | apply below_alloc | apply pw_below_drewN | apply below_drew1 | refine below_set ?_ GE109.out) | exact HB.out)⟩
                · rw [if_neg c116] at H
                  have c116b0 : decide (a1 ≤ t108) = false := decide_eq_false c116
                  clear c116
                  obtain rfl := Option.some.inj H
                  go_wp2_with (first | ((with_reducible refine gate_callee (f := 13) rfl ?_); refine goesL_ (some 32) rfl rfl Tryd.func13 (by kernel_rfl) rfl #[.string a0, .int .i64 a1] rfl (by (try simp only [List.map_toArray, List.map_cons, List.map_nil]); first | done | rfl | (simp only [List.length_drop, List.length_take]; rfl)) ?_; (with_reducible refine (lex_OneA.calls a0 a1 t103 t104 t105 t106 t107 t108 _ A11.out (hL.low (by repeat (first | (with_reducible first | exact HB.out | apply below_alloc | apply pw_below_drewN | apply below_drew1) | exact HB.out | refine below_set ?_ GE109.out | refine below_set ?_ GE118.out | refine below_set ?_ GE125.out | exact Below.refl _ _)))).mono ?_); rintro e w120 ⟨rfl, hb⟩; refine ⟨_, rfl, ?_⟩; have n0_ := Aside0.mk (below_step (by repeat (first | (with_reducible first | exact HB.out | apply below_alloc | apply pw_below_drewN | apply below_drew1) | exact HB.out)) hb); clear HB; have HB := n0_; clear n0_; (try clear hb); (try clear hb2); (try clear hk); (try clear hi)) | ((with_reducible refine gate_dst (N := 6) rfl ?_); (try (refine gate_guard (by rfl) ?_; dsimp only)); refine box_event ?hg (N := 6) ?hd (cs := #[.int .i64 0, .string (⟨#[]⟩ : ByteArray), .int .i64 0, .int .i64 0]) (t := 28) ?hr ?_; (case hd => rfl); (case hg => rfl); (case hr => first | (go_simp; done) | (go_simp; rfl)); intro gb109 hg w121 hbox hb; have n0_ := Aside0.mk (below_step (by repeat (first | (with_reducible first | exact HB.out | apply below_alloc | apply pw_below_drewN | apply below_drew1) | exact HB.out)) hb); have n1_ := Aside0.mk (hbox); have n2_ := Aside0.mk ((by rw [hg]; exact (below_size (by repeat (first | (with_reducible first | exact HB.out | apply below_alloc | apply pw_below_drewN | apply below_drew1) | exact HB.out))) : w.heap.size ≤ gb109)); have n3_ := Aside0.mk ((by rw [hg]; exact (below_size (by repeat (first | (with_reducible first | exact HB.out | apply below_alloc | apply pw_below_drewN | apply below_drew1) | exact HB.out))) : w.heap.size ≤ gb109)); clear HB; have HB := n0_; have BK109 := n1_; have GW109 := n2_; have GE109 := n3_; clear n0_ n1_ n2_ n3_; clear hb hbox hg; have hcz122_0 : w121.cell? ⟨gb109, 0, none⟩ = some (.int .i64 0) := (blk_cell BK109.out 0).trans rfl; have hcz122_1 : w121.cell? ⟨gb109, 1, none⟩ = some (.string (⟨#[]⟩ : ByteArray)) := (blk_cell BK109.out 1).trans rfl; have hcz122_2 : w121.cell? ⟨gb109, 2, none⟩ = some (.int .i64 0) := (blk_cell BK109.out 2).trans rfl; have hcz122_3 : w121.cell? ⟨gb109, 3, none⟩ = some (.int .i64 0) := (blk_cell BK109.out 3).trans rfl; have hfz122_0 := blk_frozen BK109.out 0; have hfz122_1 := blk_frozen BK109.out 1; have hfz122_2 := blk_frozen BK109.out 2; have hfz122_3 := blk_frozen BK109.out 3))
                  go_ret
                  exact ⟨by first | rfl | (simp [errW_none, errW_some] <;> rfl) | (simp [*, errW_none, errW_some] <;> rfl), by repeat (first | (with_reducible first | exact HB.out | apply below_alloc | apply pw_below_drewN | apply below_drew1 | refine below_set ?_ GE109.out) | exact HB.out)⟩
          · rw [if_neg c107] at H
            have c107b0 : (t103 == 0 && (t104.toList == ([] : List UInt8) && (t105 == 0 && (t106 == 0)))) = false := by simpa using c107
            have c107b9 : (t103 == 0 && (t104.toList.isEmpty && (t105 == 0 && (t106 == 0)))) = false := by rw [← beq_nil_is t104.toList]; exact c107b0
            (try (have c107b1 : decide (t103 = 0 && (t104.toList == ([] : List UInt8) && (t105 == 0 && (t106 == 0)))) = false := by simpa using c107))
            (try (have c107b2 : (t103 == 0 && (t104.toList == ([] : List UInt8) && (t105 == 0 && (t106 == 0)))) = false := by simpa using c107))
            (try (have c107b3 : ¬ (t103 = 0 && (t104.toList == ([] : List UInt8) && (t105 == 0 && (t106 == 0)))) := by simpa using c107))
            clear c107
            obtain rfl := Option.some.inj H
            go_wp2_with (first | ((with_reducible refine gate_callee (f := 13) rfl ?_); refine goesL_ (some 32) rfl rfl Tryd.func13 (by kernel_rfl) rfl #[.string a0, .int .i64 a1] rfl (by (try simp only [List.map_toArray, List.map_cons, List.map_nil]); first | done | rfl | (simp only [List.length_drop, List.length_take]; rfl)) ?_; (with_reducible refine (lex_OneA.calls a0 a1 t103 t104 t105 t106 t107 t108 _ A11.out (hL.low (by repeat (first | (with_reducible first | exact HB.out | apply below_alloc | apply pw_below_drewN | apply below_drew1) | exact HB.out | refine below_set ?_ GE109.out | refine below_set ?_ GE118.out | refine below_set ?_ GE125.out | exact Below.refl _ _)))).mono ?_); rintro e w123 ⟨rfl, hb⟩; refine ⟨_, rfl, ?_⟩; have n0_ := Aside0.mk (below_step (by repeat (first | (with_reducible first | exact HB.out | apply below_alloc | apply pw_below_drewN | apply below_drew1) | exact HB.out)) hb); clear HB; have HB := n0_; clear n0_; (try clear hb); (try clear hb2); (try clear hk); (try clear hi)) | ((with_reducible refine gate_dst (N := 6) rfl ?_); (try (refine gate_guard (by rfl) ?_; dsimp only)); refine box_event ?hg (N := 6) ?hd (cs := #[.int .i64 0, .string (⟨#[]⟩ : ByteArray), .int .i64 0, .int .i64 0]) (t := 28) ?hr ?_; (case hd => rfl); (case hg => rfl); (case hr => first | (go_simp; done) | (go_simp; rfl)); intro gb109 hg w124 hbox hb; have n0_ := Aside0.mk (below_step (by repeat (first | (with_reducible first | exact HB.out | apply below_alloc | apply pw_below_drewN | apply below_drew1) | exact HB.out)) hb); have n1_ := Aside0.mk (hbox); have n2_ := Aside0.mk ((by rw [hg]; exact (below_size (by repeat (first | (with_reducible first | exact HB.out | apply below_alloc | apply pw_below_drewN | apply below_drew1) | exact HB.out))) : w.heap.size ≤ gb109)); have n3_ := Aside0.mk ((by rw [hg]; exact (below_size (by repeat (first | (with_reducible first | exact HB.out | apply below_alloc | apply pw_below_drewN | apply below_drew1) | exact HB.out))) : w.heap.size ≤ gb109)); clear HB; have HB := n0_; have BK109 := n1_; have GW109 := n2_; have GE109 := n3_; clear n0_ n1_ n2_ n3_; clear hb hbox hg; have hcz125_0 : w124.cell? ⟨gb109, 0, none⟩ = some (.int .i64 0) := (blk_cell BK109.out 0).trans rfl; have hcz125_1 : w124.cell? ⟨gb109, 1, none⟩ = some (.string (⟨#[]⟩ : ByteArray)) := (blk_cell BK109.out 1).trans rfl; have hcz125_2 : w124.cell? ⟨gb109, 2, none⟩ = some (.int .i64 0) := (blk_cell BK109.out 2).trans rfl; have hcz125_3 : w124.cell? ⟨gb109, 3, none⟩ = some (.int .i64 0) := (blk_cell BK109.out 3).trans rfl; have hfz125_0 := blk_frozen BK109.out 0; have hfz125_1 := blk_frozen BK109.out 1; have hfz125_2 := blk_frozen BK109.out 2; have hfz125_3 := blk_frozen BK109.out 3))
            go_ret
            exact ⟨by first | rfl | (simp [errW_none, errW_some] <;> rfl) | (simp [*, errW_none, errW_some] <;> rfl), by repeat (first | (with_reducible first | exact HB.out | apply below_alloc | apply pw_below_drewN | apply below_drew1 | refine below_set ?_ GE109.out) | exact HB.out)⟩
def copperplatelaw09_LexText.Pure : Prop := ∀ (a0 : ByteArray) (a1 : Int), a0.size ≤ 140737488351232 → (Lit.int .i64 a1).wf = true → ∃ k, copperplatelaw09_LexText.f k a0 a1 = some true
theorem copperplatelaw09_LexText.walk (P : copperplatelaw09_LexText.Pure) (a0 : ByteArray) (a1 : Int) (w : World) (w0 : a0.size ≤ 140737488351232) (w1 : (Lit.int .i64 a1).wf = true) (hL : LA w) :
    Calls Tryd.prog 5 #[.string a0, .int .i64 a1] w fun e w' => e = .returned (.bool true) ∧ Below w.heap.size w w' := by
  obtain ⟨k, h⟩ := P a0 a1 w0 w1
  refine (copperplatelaw09_LexText.calls k a0 a1 true w h (hL.low (by repeat (first | (with_reducible first | exact HB.out | apply below_alloc | apply pw_below_drewN | apply below_drew1) | exact HB.out | exact Below.refl _ _)))).mono ?_
  rintro e w' ⟨rfl, hd⟩
  exact ⟨rfl, hd⟩
end Go.Proofs.YtjgpmfjkcioinaaDoor.X
