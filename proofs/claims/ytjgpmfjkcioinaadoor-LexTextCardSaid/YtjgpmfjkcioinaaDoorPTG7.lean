/-
  'num.Number': what kind of number begins at a place, and where it ends.
-/
import Derived.Test.YtjgpmfjkcioinaaDoorPTG6
namespace Go.Proofs.YtjgpmfjkcioinaaDoor.G
open Go.RowKit Go.Proofs.YtjgpmfjkcioinaaDoorW.PrintWords Go.Proofs.YtjgpmfjkcioinaaDoor.M
set_option linter.unusedVariables false
set_option linter.unusedSimpArgs false
abbrev Num := Int × Int × Bool
def numFin (s : ByteArray) (k p : Int) : Num := if p < s.size ∧ (bt s p = 46 ∨ isLet (bt s p) = true ∨ isDig (bt s p) = true) then (0, p, false) else (k, p, true)
def numExp (s : ByteArray) (k p : Int) : Num :=
  if isAt s p [101, 69] = true then
    (if 0 < dig (at_ s (mv (p + 1) (isAt s (p + 1) [43, 45]))) then numFin s 4 (mv (p + 1) (isAt s (p + 1) [43, 45]) + dig (at_ s (mv (p + 1) (isAt s (p + 1) [43, 45])))) else (0, mv (p + 1) (isAt s (p + 1) [43, 45]), false))
  else numFin s k p
def numDot (s : ByteArray) (p : Int) : Num :=
  if isAt s p [46] = true then (if 0 < dig (at_ s (p + 1)) then numExp s 4 (p + 1 + dig (at_ s (p + 1))) else (0, p + 1, false)) else numExp s 3 p
def numInt (s : ByteArray) (p : Int) : Num :=
  if isAt s p [48] = true then numDot s (p + 1) else if 0 < dig (at_ s p) then numDot s (p + dig (at_ s p)) else (0, p, false)
def number (s : ByteArray) (i : Int) : Num := if 0 ≤ i ∧ i < s.size then numInt s (mv i (isAt s i [45])) else (0, i, false)
def NumPost (w : World) (T : Num) (e : Ending) (w' : World) : Prop := e = .returned (.tuple #[.int .i64 T.1, .int .i64 T.2.1, .bool T.2.2]) ∧ Below w.heap.size w w'
theorem digits_st (w W : World) (ba bp : Nat) (s : ByteArray) (p q : Int) (hs : s.size ≤ 1000000) (hq : upto isDig s p = q) (H : NumSt w W ba bp s p) :
    Calls Tryd.prog 42 #[.string s, .int .i64 p] W fun e W' => e = .returned (.int .i64 q) ∧ W'.cell? ⟨ba, 0, none⟩ = some (.int .i64 p) ∧ W'.cell? ⟨bp, 0, none⟩ = some (.string s) ∧ NumSt w W' ba bp s p :=
  (digits_any s p W (by omega)).mono fun e W' ⟨he, hb⟩ => ⟨by rw [he, hq], (H.later hb).cells⟩
set_option maxHeartbeats 1600000 in
set_option maxRecDepth 100000 in
theorem number_in (s : ByteArray) (i : Int) (w : World) (hs : s.size ≤ 1000000) (h0 : 0 ≤ i) (h1 : i < s.size) :
    Calls Tryd.prog 17 #[.string s, .int .i64 i] w (NumPost w (number s i)) := by
  obtain ⟨T, hT⟩ : ∃ T, number s i = T := ⟨_, rfl⟩
  rw [hT]
  unfold number at hT
  rw [if_pos ⟨h0, h1⟩] at hT
  have HT := Lib.hid hT
  clear hT
  go_enter Tryd.func17, Tryd.ntmps17
  go_wp2
  refine wp_scope_forward 0 rfl ?hq ?_
  case hq => intro l' a w h; exact h
  have hst : NumSt w ((w.alloc (Obj.cells #[Value.string s] 9)).alloc (Obj.cells #[Value.int IntKind.i64 i] 3)) (w.heap.size + 1) w.heap.size s i :=
    ⟨((Below.refl _ w).alloc (Nat.le_refl _) _).alloc (by simp) _, by omega, by omega, by omega,
      by have := heap_alloc_new (w.alloc (Obj.cells #[Value.string s] 9)) (Obj.cells #[Value.int IntKind.i64 i] 3); rw [World.size_alloc] at this; exact this,
      by rw [Below.heap_alloc _ _ _ (by simp)]; exact heap_alloc_new _ _⟩
  have hcell : (((w.alloc (Obj.cells #[Value.string s] 9)).alloc (Obj.cells #[Value.int IntKind.i64 i] 3)).alloc (Obj.cells #[Value.int IntKind.u8 45] 5)).cell? ⟨w.heap.size + 1 + 1, 0, none⟩ = some (.int .u8 45) := by
    have := World.cell?_alloc_new (w := (w.alloc (Obj.cells #[Value.string s] 9)).alloc (Obj.cells #[Value.int IntKind.i64 i] 3)) #[Value.int IntKind.u8 45] 5 0
    rw [World.size_alloc, World.size_alloc] at this
    exact this
  have C1 := is_one w _ (w.heap.size + 1) w.heap.size (w.heap.size + 1 + 1) s i 45 (by omega) (by omega) hs (hst.alloc (Obj.cells #[Value.int IntKind.u8 45] 5)) hcell
  clear hcell
  clear hst
  have hm := mv_le [45] (show i ≤ s.size by omega)
  obtain ⟨p, hp⟩ : ∃ p, mv i (isAt s i [45]) = p := ⟨_, rfl⟩
  obtain ⟨b1, hb1⟩ : ∃ b, isAt s i [45] = b := ⟨_, rfl⟩
  rw [hp] at HT hm C1
  rw [hb1] at C1
  clear hp hb1
  have HC1 := Lib.hid C1
  clear C1
  go_upto_region 7 with (go_at_call 40; (with_reducible refine HC1.out.mono ?_); rintro e W1 ⟨rfl, H1⟩; clear HC1)
  go_cut [34] (fun v34 wc => ∃ (b : Bool) (p2 : Int), v34 = .bool b ∧ i ≤ p2 ∧ p2 ≤ s.size ∧ NumSt w wc (w.heap.size + 1) w.heap.size s p2 ∧ Hid (T = if b = true then (0, p2, false) else numDot s p2))
  case first =>
    have hcell : ∀ (W : World) (o : Value) (t : TypeId), (W.alloc (Obj.cells #[o] t)).cell? ⟨W.heap.size, 0, none⟩ = some o := fun W o t => World.cell?_alloc_new W #[o] t 0
    have HA := Lib.hid (is_one w _ (w.heap.size + 1) w.heap.size W1.heap.size s p 48 (by omega) (by omega) hs (H1.alloc (Obj.cells #[Value.int IntKind.u8 48] 5)) (hcell W1 _ _))
    clear hcell
    have H1 := Lib.hid H1
    cases hz : isAt s p [48] with
    | true =>
      rw [hz] at HA
      have hlt := isAt_lt hz
      have HZ := Lib.hid hz
      clear hz
      go_wp2_with (go_at_call 40; (with_reducible refine HA.out.mono ?_); rintro e W2 ⟨rfl, H2⟩; clear HA)
      go_meet
      case rel => exact ⟨false, p + 1, rfl, by omega, by omega, H2, Lib.hid (by rw [← HT.out]; unfold numInt; rw [if_pos HZ.out]; rfl)⟩
    | false =>
      rw [hz] at HA
      have HZ := Lib.hid hz
      clear hz
      have hdl := dig_le s p (by omega) (by omega)
      have HS := Lib.hid (fun (W : World) (H : NumSt w W (w.heap.size + 1) w.heap.size s p) => some_any w W (w.heap.size + 1) w.heap.size s p (by omega) (by omega) hs H)
      obtain ⟨d, hd⟩ : ∃ d, dig (at_ s p) = d := ⟨_, rfl⟩
      rw [hd] at HS hdl
      have HD := Lib.hid hd
      clear hd
      by_cases hd0 : 0 < d
      · have hdt : decide (0 < d) = true := decide_eq_true hd0
        rw [hdt] at HS
        clear hdt
        go_wp2_with (first
          | (go_at_call 40; (with_reducible refine HA.out.mono ?_); rintro e W2 ⟨rfl, H2⟩; clear HA)
          | (go_at_call 41; (with_reducible refine (HS.out _ H2).mono ?_); rintro e W3 ⟨rfl, H3⟩; clear HS))
        go_meet
        case rel => exact ⟨false, p + d, rfl, by omega, by omega, H3, Lib.hid (by rw [← HT.out]; unfold numInt; rw [if_neg (by rw [HZ.out]; decide), HD.out, if_pos hd0]; rfl)⟩
      · have hdt : decide (0 < d) = false := decide_eq_false hd0
        rw [hdt] at HS
        clear hdt
        obtain rfl : d = 0 := by omega
        go_wp2_with (first
          | (go_at_call 40; (with_reducible refine HA.out.mono ?_); rintro e W2 ⟨rfl, H2⟩; clear HA)
          | (go_at_call 41; (with_reducible refine (HS.out _ H2).mono ?_); rintro e W3 ⟨rfl, H3⟩; clear HS))
        go_meet
        case rel => exact ⟨true, p, rfl, by omega, by omega, by simpa using H3, Lib.hid (by rw [← HT.out]; unfold numInt; rw [if_neg (by rw [HZ.out]; decide), HD.out, if_neg hd0]; rfl)⟩
  case rest =>
    obtain ⟨b, p2, rfl, hp2a, hp2b, H2, HT2⟩ := hcut
    clear HT
    cases b with
    | true =>
      have c1 := cell_of_one H2.ha
      have HH := Lib.hid H2
      clear H2
      go_wp2_with fail
      go_step3
      refine ⟨rfl, ?_⟩
      go_wp2
      go_quiet (fail)
      go_wp2
      go_ret3
      rw [show T = (0, p2, false) from HT2.out]
      exact ⟨rfl, below_drawn HH.out.below _⟩
    | false =>
      have HT3 : Hid (numDot s p2 = T) := Lib.hid HT2.out.symm
      clear HT2
      have hcell : ∀ (W : World) (o : Value) (t : TypeId), (W.alloc (Obj.cells #[o] t)).cell? ⟨W.heap.size, 0, none⟩ = some o := fun W o t => World.cell?_alloc_new W #[o] t 0
      have HA := Lib.hid (is_one w _ (w.heap.size + 1) w.heap.size wc.heap.size s p2 46 (by omega) (by omega) hs (H2.alloc (Obj.cells #[Value.int IntKind.u8 46] 5)) (hcell wc _ _))
      clear hcell
      have H2 := Lib.hid H2
      obtain ⟨bd, hbd⟩ : ∃ b, isAt s p2 [46] = b := ⟨_, rfl⟩
      rw [hbd] at HA
      go_upto_if 37 with (go_at_call 40; (with_reducible refine HA.out.mono ?_); rintro e W3 ⟨rfl, H3⟩; clear HA)
      go_cut [8] (fun v8 wd => ∃ (k : Int) (p3 : Int), v8 = .int .i64 k ∧ i ≤ p3 ∧ p3 ≤ s.size ∧ NumSt w wd (w.heap.size + 1) w.heap.size s p3 ∧ Hid (numExp s k p3 = T))
      case first =>
        cases bd with
        | false =>
          have HZ := Lib.hid hbd
          clear hbd
          go_wp2_with fail
          go_meet
          case rel => exact ⟨3, p2, rfl, by omega, by omega, H3, Lib.hid (by rw [← HT3.out]; unfold numDot; rw [if_neg (by rw [HZ.out]; decide)])⟩
        | true =>
          have hlt := isAt_lt hbd
          have HZ := Lib.hid hbd
          clear hbd
          have hdl := dig_le s (p2 + 1) (by omega) (by omega)
          have HS := Lib.hid (some_any w _ (w.heap.size + 1) w.heap.size s (p2 + 1) (by omega) (by omega) hs H3)
          obtain ⟨d, hd⟩ : ∃ d, dig (at_ s (p2 + 1)) = d := ⟨_, rfl⟩
          rw [hd] at HS hdl
          have HD := Lib.hid hd
          clear hd
          by_cases hd0 : 0 < d
          · have hdt : decide (0 < d) = true := decide_eq_true hd0
            rw [hdt] at HS
            clear hdt
            go_wp2_with (go_at_call 41; (with_reducible refine HS.out.mono ?_); rintro e W4 ⟨rfl, H4⟩; clear HS)
            go_meet
            case rel => exact ⟨4, p2 + 1 + d, rfl, by omega, by omega, H4, Lib.hid (by rw [← HT3.out]; unfold numDot; rw [if_pos HZ.out, HD.out, if_pos hd0])⟩
          · have hdt : decide (0 < d) = false := decide_eq_false hd0
            rw [hdt] at HS
            clear hdt
            obtain rfl : d = 0 := by omega
            go_wp2_with (go_at_call 41; (with_reducible refine HS.out.mono ?_); rintro e W4 ⟨rfl, H4⟩; clear HS)
            have c1 := cell_of_one H4.ha
            have HH := Lib.hid H4
            clear H4
            go_step3
            refine ⟨rfl, ?_⟩
            go_wp2
            go_quiet (fail)
            go_wp2
            go_ret3
            rw [show T = (0, p2 + 1, false) by rw [← HT3.out]; unfold numDot; rw [if_pos HZ.out, HD.out, if_neg hd0]]
            exact ⟨by simp, below_drawn HH.out.below _⟩
      case rest =>
        clear HT3 H2 hbd
        obtain ⟨k, p3, rfl, hp3a, hp3b, H3, HT3⟩ := hcut
        have hcell : ∀ (W : World) (o q : Value) (t : TypeId), (W.alloc (Obj.cells #[o, q] t)).cell? ⟨W.heap.size, 0, none⟩ = some o ∧ (W.alloc (Obj.cells #[o, q] t)).cell? ⟨W.heap.size, 1, none⟩ = some q := fun W o q t => ⟨World.cell?_alloc_new W #[o, q] t 0, World.cell?_alloc_new W #[o, q] t 1⟩
        have HA := Lib.hid (is_two w _ (w.heap.size + 1) w.heap.size wc.heap.size s p3 101 69 (by omega) (by omega) hs (H3.alloc (Obj.cells #[Value.int IntKind.u8 101, Value.int IntKind.u8 69] 5)) (hcell wc _ _ _).1 (hcell wc _ _ _).2)
        have H3 := Lib.hid H3
        obtain ⟨be, hbe⟩ : ∃ b, isAt s p3 [101, 69] = b := ⟨_, rfl⟩
        rw [hbe] at HA
        have Hcell := Lib.hid hcell
        clear hcell
        go_upto_if 43 with (go_at_call 40; (with_reducible refine HA.out.mono ?_); rintro e W4 ⟨rfl, H4⟩; clear HA)
        go_cut [8] (fun v8 we => ∃ (k : Int) (p4 : Int), v8 = .int .i64 k ∧ i ≤ p4 ∧ p4 ≤ s.size ∧ NumSt w we (w.heap.size + 1) w.heap.size s p4 ∧ Hid (numFin s k p4 = T))
        case first =>
          cases be with
          | false =>
            have HZ := Lib.hid hbe
            clear hbe
            go_wp2_with fail
            go_meet
            case rel => exact ⟨k, p3, rfl, by omega, by omega, H4, Lib.hid (by rw [← HT3.out]; unfold numExp; rw [if_neg (by rw [HZ.out]; decide)])⟩
          | true =>
            have hlt := isAt_lt hbe
            have HZ := Lib.hid hbe
            clear hbe
            have H4' : NumSt w W4 (w.heap.size + 1) w.heap.size s (p3 + 1) := H4
            clear H4
            have HB := Lib.hid (is_two w _ (w.heap.size + 1) w.heap.size W4.heap.size s (p3 + 1) 43 45 (by omega) (by omega) hs (H4'.alloc (Obj.cells #[Value.int IntKind.u8 43, Value.int IntKind.u8 45] 5)) (Hcell.out W4 _ _ _).1 (Hcell.out W4 _ _ _).2)
            have hq := mv_le [43, 45] (show p3 + 1 ≤ s.size by omega)
            have hnum : numExp s k p3 = (if 0 < dig (at_ s (mv (p3 + 1) (isAt s (p3 + 1) [43, 45]))) then numFin s 4 (mv (p3 + 1) (isAt s (p3 + 1) [43, 45]) + dig (at_ s (mv (p3 + 1) (isAt s (p3 + 1) [43, 45])))) else (0, mv (p3 + 1) (isAt s (p3 + 1) [43, 45]), false)) := by
              unfold numExp; rw [if_pos HZ.out]
            obtain ⟨q, hqd⟩ : ∃ q, mv (p3 + 1) (isAt s (p3 + 1) [43, 45]) = q := ⟨_, rfl⟩
            rw [hqd] at HB hq hnum
            obtain ⟨bs, hbs⟩ : ∃ b, isAt s (p3 + 1) [43, 45] = b := ⟨_, rfl⟩
            rw [hbs] at HB
            clear hqd hbs
            have hdl := dig_le s q (by omega) (by omega)
            have HS := Lib.hid (fun (W : World) (H : NumSt w W (w.heap.size + 1) w.heap.size s q) => some_any w W (w.heap.size + 1) w.heap.size s q (by omega) (by omega) hs H)
            obtain ⟨d, hd⟩ : ∃ d, dig (at_ s q) = d := ⟨_, rfl⟩
            rw [hd] at HS hdl hnum
            clear hd
            have HN := Lib.hid hnum
            clear hnum
            by_cases hd0 : 0 < d
            · have hdt : decide (0 < d) = true := decide_eq_true hd0
              rw [hdt] at HS
              clear hdt
              go_wp2_with (first
                | (go_at_call 40; (with_reducible refine HB.out.mono ?_); rintro e W5 ⟨rfl, H5⟩; clear HB)
                | (go_at_call 41; (with_reducible refine (HS.out _ H5).mono ?_); rintro e W6 ⟨rfl, H6⟩; clear HS))
              go_meet
              case rel => exact ⟨4, q + d, rfl, by omega, by omega, H6, Lib.hid (by rw [← HT3.out, HN.out, if_pos hd0])⟩
            · have hdt : decide (0 < d) = false := decide_eq_false hd0
              rw [hdt] at HS
              clear hdt
              obtain rfl : d = 0 := by omega
              go_wp2_with (first
                | (go_at_call 40; (with_reducible refine HB.out.mono ?_); rintro e W5 ⟨rfl, H5⟩; clear HB)
                | (go_at_call 41; (with_reducible refine (HS.out _ H5).mono ?_); rintro e W6 ⟨rfl, H6⟩; clear HS))
              have c1 := cell_of_one H6.ha
              have HH := Lib.hid H6
              clear H6 H5 H4'
              go_step3
              refine ⟨rfl, ?_⟩
              go_wp2
              go_quiet (fail)
              go_wp2
              go_ret3
              rw [show T = (0, q, false) by rw [← HT3.out, HN.out, if_neg hd0]]
              exact ⟨by simp, below_drawn HH.out.below _⟩
        case rest =>
          clear HT3 H3 hbe Hcell H4
          obtain ⟨k, p4, rfl, hp4a, hp4b, H4, HT4⟩ := hcut
          by_cases hz : p4 = s.size
          · have hzb : (p4 == (s.size : Int)) = true := by rw [hz]; exact beq_self_eq_true _
            have c1 := cell_of_one H4.ha
            have c2 := cell_of_one H4.hp
            have HH := Lib.hid H4
            have HZ := Lib.hid hz
            clear H4 hz
            go_wp2_with fail
            go_quiet (fail)
            go_wp2
            go_quiet (fail)
            go_wp2
            simp only [Exit.jump]
            go_ret3
            rw [show T = (k, p4, true) by rw [← HT4.out]; unfold numFin; rw [if_neg (by have := HZ.out; omega)]]
            exact ⟨rfl, by repeat (first | exact HH.out.below | apply below_drawn | apply below_drew)⟩
          · have hzb : (p4 == (s.size : Int)) = false := beq_eq_false_iff_ne.2 hz
            have hlt : p4 < s.size := by omega
            obtain ⟨n, rfl⟩ : ∃ n : Nat, p4 = n := ⟨p4.toNat, by omega⟩
            have hns : n < s.size := by omega
            have hbr := bt_range s n
            have hat : ∀ h : n < s.size, (((s[n]'h).toNat : Nat) : Int) = bt s n := fun h => bt_at s n h
            have hfin : numFin s k n = if bt s n = 46 ∨ isLet (bt s n) = true ∨ isDig (bt s n) = true then (0, (n : Int), false) else (k, (n : Int), true) := by
              unfold numFin
              by_cases hh : bt s n = 46 ∨ isLet (bt s n) = true ∨ isDig (bt s n) = true
              · rw [if_pos ⟨hlt, hh⟩, if_pos hh]
              · rw [if_neg (fun x => hh x.2), if_neg hh]
            have hdd : dig (at_ s n) = if isDig (bt s n) = true then dig (at_ s ((n : Int) + 1)) + 1 else 0 := by
              rw [at_cons s n (by omega) hlt]; rfl
            obtain ⟨b, hb⟩ : ∃ b, bt s n = b := ⟨_, rfl⟩
            rw [hb] at hbr hfin hdd
            simp only [hb] at hat
            rw [HT4.out] at hfin
            have HF := Lib.hid hfin
            have HDD := Lib.hid hdd
            clear hfin hdd hb hz HT4
            have hgn : decide ((0 : Int) ≤ (n : Int)) = true := decide_eq_true (by omega)
            by_cases h46 : b = 46
            · have h46b : (b != 46) = false := by rw [h46]; rfl
              have hT : T = (0, (n : Int), false) := by rw [HF.out, if_pos (.inl h46)]
              have HT := Lib.hid hT
              have c1 := cell_of_one H4.ha
              have c2 := cell_of_one H4.hp
              have HH := Lib.hid H4
              clear H4 h46 hT
              go_wp2_with fail
              go_quiet (fail)
              go_wp2
              go_step3
              go_wp2
              go_quiet (fail)
              go_wp2
              simp only [Exit.jump]
              go_ret3
              rw [HT.out]
              exact ⟨rfl, by repeat (first | exact HH.out.below | apply below_drawn | apply below_drew)⟩
            · have h46b : (b != 46) = true := bne_iff_ne.2 h46
              cases hl : isLet b with
              | true =>
                have hT : T = (0, (n : Int), false) := by rw [HF.out, if_pos (.inr (.inl hl))]
                have HT := Lib.hid hT
                have c1 := cell_of_one H4.ha
                have c2 := cell_of_one H4.hp
                have HH := Lib.hid H4
                clear H4 h46 hT
                have HBe := Lib.hid (fun (W : World) => begins_any b W hbr.1 hbr.2)
                rw [hl] at HBe
                clear hl
                go_wp2_with fail
                go_quiet ((go_at_call 30; first | exact Calls.quiet_of_same (HBe.out _) | exact quiet_same (HBe.out _) | exact quiet_add_same (HBe.out _)))
                go_wp2
                go_step3
                go_wp2
                go_quiet (fail)
                go_wp2
                simp only [Exit.jump]
                go_ret3
                rw [HT.out]
                exact ⟨rfl, by repeat (first | exact HH.out.below | apply below_drawn | apply below_drew)⟩
              | false =>
                have HH := Lib.hid H4
                have HBe := Lib.hid (fun (W : World) => begins_any b W hbr.1 hbr.2)
                rw [hl] at HBe
                have hup : upto isDig s n = n + dig (at_ s n) := by unfold upto; rw [if_pos ⟨by omega, by omega⟩]; rfl
                have HDi := Lib.hid (fun (W : World) (H : NumSt w W (w.heap.size + 1) w.heap.size s n) => digits_st w W (w.heap.size + 1) w.heap.size s n _ hs hup H)
                clear hup
                cases hd : isDig b with
                | true =>
                  have hT : T = (0, (n : Int), false) := by rw [HF.out, if_pos (.inr (.inr hd))]
                  have HT := Lib.hid hT
                  have hdd := HDD.out
                  rw [hd, if_pos rfl] at hdd
                  obtain ⟨d, hdq⟩ : ∃ d, dig (at_ s n) = d := ⟨_, rfl⟩
                  rw [hdq] at HDi hdd
                  have hne : ((n : Int) + (d : Int) == (n : Int)) = false := beq_eq_false_iff_ne.2 (by omega)
                  clear hdd hdq hT hd hl h46 H4
                  go_wp2_with fail
                  have H5 := HH.out
                  go_region_held3 (fun w' => w'.cell? ⟨w.heap.size + 1, 0, none⟩ = some (.int .i64 n) ∧ w'.cell? ⟨w.heap.size, 0, none⟩ = some (.string s) ∧ NumSt w w' (w.heap.size + 1) w.heap.size s n)
                    (first | exact NumSt.cells (by assumption) | exact NumSt.cells (NumSt.drew (by assumption)) | exact NumSt.cells (NumSt.drewN (by assumption) _) | (refine NumSt.cells (NumSt.later ?_ (by assumption)); assumption))
                    (first
                      | (go_at_call 30; refine (HBe.out _).mono ?_; rintro e w' ⟨rfl, rfl⟩)
                      | (go_at_call 42; refine (HDi.out _ ?_).mono ?_; (repeat (first | assumption | apply NumSt.drew | apply NumSt.drewN)); rintro e w' ⟨rfl, hx1, hx2, hx3⟩))
                  go_wp2
                  go_step3
                  go_wp2
                  go_quiet (fail)
                  go_wp2
                  simp only [Exit.jump]
                  go_ret3
                  rw [HT.out]
                  exact ⟨rfl, by repeat (first | exact NumSt.below (ba := w.heap.size + 1) (bp := w.heap.size) (s := s) (p := (n : Int)) (by assumption) | apply below_drawn | apply below_drew)⟩
                | false =>
                  have hT : T = (k, (n : Int), true) := by rw [HF.out, if_neg (by rw [hl, hd]; simp [h46])]
                  have HT := Lib.hid hT
                  have hdd := HDD.out
                  rw [hd, if_neg (by decide)] at hdd
                  rw [hdd] at HDi
                  have hne : ((n : Int) + ((0 : Nat) : Int) == (n : Int)) = true := by rw [beq_iff_eq]; omega
                  clear hdd hT hd hl h46 H4
                  go_wp2_with fail
                  have H5 := HH.out
                  go_region_held3 (fun w' => w'.cell? ⟨w.heap.size + 1, 0, none⟩ = some (.int .i64 n) ∧ w'.cell? ⟨w.heap.size, 0, none⟩ = some (.string s) ∧ NumSt w w' (w.heap.size + 1) w.heap.size s n)
                    (first | exact NumSt.cells (by assumption) | exact NumSt.cells (NumSt.drew (by assumption)) | exact NumSt.cells (NumSt.drewN (by assumption) _) | (refine NumSt.cells (NumSt.later ?_ (by assumption)); assumption))
                    (first
                      | (go_at_call 30; refine (HBe.out _).mono ?_; rintro e w' ⟨rfl, rfl⟩)
                      | (go_at_call 42; refine (HDi.out _ ?_).mono ?_; (repeat (first | assumption | apply NumSt.drew | apply NumSt.drewN)); rintro e w' ⟨rfl, hx1, hx2, hx3⟩))
                  go_wp2
                  go_quiet (fail)
                  go_wp2
                  simp only [Exit.jump]
                  go_ret3
                  rw [HT.out]
                  exact ⟨rfl, by repeat (first | exact NumSt.below (ba := w.heap.size + 1) (bp := w.heap.size) (s := s) (p := (n : Int)) (by assumption) | apply below_drawn | apply below_drew)⟩
set_option maxHeartbeats 400000 in
set_option maxRecDepth 100000 in
theorem number_out (s : ByteArray) (i : Int) (w : World) (h : ¬ (0 ≤ i ∧ i < s.size)) :
    Calls Tryd.prog 17 #[.string s, .int .i64 i] w (NumPost w (number s i)) := by
  have hT : number s i = (0, i, false) := by unfold number; rw [if_neg h]
  rw [hT]
  have HT := Lib.hid hT
  clear hT
  by_cases h0 : 0 ≤ i
  · have h1 : (s.size : Int) ≤ i := by omega
    clear h
    go_enter Tryd.func17, Tryd.ntmps17
    go_wp2
    go_step3
    go_wp2
    rw [Exit.noGoto_ret]
    go_ret3
    exact ⟨rfl, (Below.refl _ w).alloc (Nat.le_refl _) _⟩
  · have h1 : i < 0 := by omega
    clear h h0
    go_enter Tryd.func17, Tryd.ntmps17
    go_wp2
    go_step3
    go_wp2
    rw [Exit.noGoto_ret]
    go_ret3
    exact ⟨rfl, (Below.refl _ w).alloc (Nat.le_refl _) _⟩
def num_Number.f (s : ByteArray) (i : Int) : Option (Int × Int × Bool) := if s.size ≤ 1000000 then some (number s i) else none
theorem num_Number.calls (a0 : ByteArray) (a1 : Int) (r1 : Int) (r2 : Int) (r3 : Bool) (w : World) (h : num_Number.f a0 a1 = some (r1, r2, r3)) :
    Calls Tryd.prog 17 #[.string a0, .int .i64 a1] w fun e w' => e = .returned (.tuple #[.int .i64 r1, .int .i64 r2, .bool r3]) ∧ Below w.heap.size w w' := by
  obtain ⟨hs, hr⟩ := small_of h
  by_cases hi : 0 ≤ a1 ∧ a1 < a0.size
  · refine (number_in a0 a1 w hs hi.1 hi.2).mono fun e w' hp => ?_
    rw [hr] at hp
    exact hp
  · refine (number_out a0 a1 w hi).mono fun e w' hp => ?_
    rw [hr] at hp
    exact hp
end Go.Proofs.YtjgpmfjkcioinaaDoor.G
