/-
  'strings.IndexAny' over two plain bytes, at every text: the place of the first byte that is one of them, or -1. (A rune beyond 127 is none of them.)
-/
import Derived.Test.YtjgpmfjkcioinaaDoorPTG2
import Derived.Deep.QuietTactic
import Derived.BigQuiet
import Derived.WalkMore
import Derived.Lib.OthersKept
import Derived.Lib.TrimU
namespace Go.Proofs.YtjgpmfjkcioinaaDoor.G
open Go.RowKit Go.Proofs.YtjgpmfjkcioinaaDoorW.PrintWords Go.Proofs.YtjgpmfjkcioinaaDoor.M
set_option linter.unusedVariables false
set_option linter.unusedSimpArgs false
theorem enc2 (r : Nat) (h : 128 ≤ r) (h2 : r < 2048) : ∃ E : ByteArray, Utf8.encode (r : Int) = E ∧ E.size = 2 ∧ ∀ h : 1 < E.size, 128 ≤ (E[1]'h).toNat := by
  have hv : Utf8.valid (r : Int) = true := by simp [Utf8.valid]; omega
  refine ⟨_, rfl, ?_, ?_⟩
  all_goals unfold Utf8.encode
  all_goals simp only [hv, if_true]
  · rw [if_neg (by omega), if_pos (by omega)]; rfl
  · intro h
    have e : ∀ (q : ByteArray) (h : 1 < q.size), q = ⟨#[UInt8.ofNat (192 + (r : Int).toNat / 64), UInt8.ofNat (128 + (r : Int).toNat % 64)]⟩ → 128 ≤ (q[1]'h).toNat := by
      rintro q h rfl
      show 128 ≤ (UInt8.ofNat (128 + (r : Int).toNat % 64)).toNat
      simp
      omega
    exact e _ h (by rw [if_neg (by omega), if_pos (by omega)])
theorem enc3 (r : Nat) (h : 2048 ≤ r) (hv : Utf8.valid (r : Int) = true) : 3 ≤ (Utf8.encode (r : Int)).size := by
  unfold Utf8.encode
  simp only [hv, if_true]
  rw [if_neg (by omega), if_neg (by omega)]
  split <;> simp [ByteArray.size]
set_option maxHeartbeats 400000 in
set_option maxRecDepth 100000 in
theorem indexRune_wide2 (C : ByteArray) (hC : C.size = 2) (hlow : ∀ (j : Nat) (h : j < C.size), (C[j]'h).toNat < 128) (r : Nat) (h : 128 ≤ r) (h2 : r < 2048) (w : World) :
    Calls Tryd.prog 51 #[.string C, .int .i32 r] w fun e w' => e = .returned (.int .i64 (-1)) ∧ Below w.heap.size w w' := by
  obtain ⟨E, he, hE, hb⟩ := enc2 r h h2
  have hr : Lib.validRune (r : Int) = true := by simp [Lib.validRune]; omega
  have hne : ((r : Int) == 65533) = false := by simp; omega
  have h3 : ¬ ((r : Int) < 128) := by omega
  have h4 : (0 : Int) ≤ r := by omega
  have hn2 : (((C[1]'(by omega)).toNat : Int) != ((E[1]'(by omega)).toNat : Int)) = true := by
    have := hlow 1 (by omega); have := hb (by omega); simp; omega
  have hw2 : IntKind.i64.wrap 2 = 2 := by decide
  clear hlow hb
  have HI : ∀ (c : Int) (W : World), Calls Tryd.prog 25 #[.string ByteArray.empty, .int .u8 c] W fun e w' => e = .returned (.int .i64 (-1)) ∧ w' = W := by
    intro c W
    refine (Tryd.strings_IndexByte _ _ _).mono ?_
    rintro e w' ⟨rfl, rfl⟩
    refine ⟨?_, rfl⟩
    rfl
  go_enter Tryd.func51, Tryd.ntmps51
  go_wp2_with (first
    | (go_at_call 77; refine (Tryd.utf8_ValidRune _ _).mono ?_; rintro e w' ⟨rfl, hw⟩; rw [hw, hr]))
  go_step3
  go_wp2
  refine wp_loop_rounds 1 ?_
  rw [rounds_succ]
  go_wp2
  go_step3
  go_wp2
  go_quiet (fail)
  go_wp2
  go_quiet ((go_at_call 25; exact quiet_add_same (HI _ _)))
  go_wp2
  rw [Exit.noGoto_ret]
  go_wp2
  rw [Exit.noGoto_ret]
  go_ret
  exact ⟨rfl, below_drawn (Below.refl _ _) _⟩
set_option maxHeartbeats 400000 in
set_option maxRecDepth 100000 in
theorem indexRune_wide3 (C : ByteArray) (hC : C.size = 2) (r : Nat) (h : 2048 ≤ r) (hne0 : r ≠ 65533) (hv : Utf8.valid (r : Int) = true) (w : World) :
    Calls Tryd.prog 51 #[.string C, .int .i32 r] w fun e w' => e = .returned (.int .i64 (-1)) ∧ Below w.heap.size w w' := by
  have hE3 := enc3 r h hv
  have hE4 := encode_size_le (r : Int)
  obtain ⟨E, he⟩ : ∃ E, Utf8.encode (r : Int) = E := ⟨_, rfl⟩
  rw [he] at hE3 hE4
  have hr : Lib.validRune (r : Int) = true := by simp [Utf8.valid] at hv; simp [Lib.validRune]; omega
  have hne : ((r : Int) == 65533) = false := by simp; omega
  have h3 : ¬ ((r : Int) < 128) := by omega
  have h4 : (0 : Int) ≤ r := by omega
  clear hne0 hv
  rcases (show E.size = 3 ∨ E.size = 4 by omega) with hz | hz
  all_goals
    clear hE3 hE4
    go_enter Tryd.func51, Tryd.ntmps51
    go_wp2_with (first
      | (go_at_call 77; refine (Tryd.utf8_ValidRune _ _).mono ?_; rintro e w' ⟨rfl, hw⟩; rw [hw, hr]))
    go_step3
    go_wp2
    refine wp_loop_rounds 1 ?_
    rw [rounds_succ]
    go_wp2
    rw [Exit.noGoto_ret]
    go_ret
    exact ⟨rfl, Below.refl _ _⟩
set_option maxHeartbeats 400000 in
set_option maxRecDepth 100000 in
theorem indexRune_err (C : ByteArray) (hC : C.size = 2) (hlow : ∀ (j : Nat) (h : j < C.size), (C[j]'h).toNat < 128) (w : World) :
    Calls Tryd.prog 51 #[.string C, .int .i32 65533] w fun e w' => e = .returned (.int .i64 (-1)) ∧ Below w.heap.size w w' := by
  have HL := Lib.hid hlow
  clear hlow
  go_enter Tryd.func51, Tryd.ntmps51
  go_wp2
  go_loopg [5, 6] C.size (fun g _ _ wx => ∃ i : Nat, i + g = C.size ∧ wx = w.iter C i)
  case atStart => exact ⟨0, by omega, rfl⟩
  case round =>
    obtain ⟨i, hig, rfl⟩ := hrel
    cases gk with
    | zero =>
      obtain rfl : i = 2 := by omega
      have hnx := fun ty => run_next_end (P := Tryd.prog) w C 2 ty (by omega)
      go_wp2
      go_ret
      exact ⟨rfl, (Below.refl _ w).alloc (Nat.le_refl _) _⟩
    | succ g =>
      have hi : i < C.size := by omega
      obtain ⟨x, hx⟩ : ∃ x : UInt8, C[i]'hi = x := ⟨_, rfl⟩
      have hx128 : x.toNat < 128 := by rw [← hx]; exact HL.out i hi
      have hnx := fun ty => run_next_ascii (P := Tryd.prog) w C i ty hi (by rw [hx]; exact hx128)
      rw [hx] at hnx
      clear hx
      have hne : ((x.toNat : Int) == 65533) = false := by simp; omega
      go_wp2
      go_roundg g
      case measure => omega
      case rel => exact ⟨i + 1, by omega, rfl⟩
theorem indexRune_high (C : ByteArray) (hC : C.size = 2) (hlow : ∀ (j : Nat) (h : j < C.size), (C[j]'h).toNat < 128) (r : Nat) (h : 128 ≤ r) (hv : Utf8.valid (r : Int) = true) (w : World) :
    Calls Tryd.prog 51 #[.string C, .int .i32 r] w fun e w' => e = .returned (.int .i64 (-1)) ∧ Below w.heap.size w w' := by
  by_cases h1 : r = 65533
  · subst h1; exact indexRune_err C hC hlow w
  · by_cases h2 : r < 2048
    · exact indexRune_wide2 C hC hlow r h h2 w
    · exact indexRune_wide3 C hC r (by omega) h1 hv w
theorem decode_valid (s : ByteArray) (pos : Nat) : Utf8.valid ((Utf8.decode s pos).1 : Int) = true := by
  unfold Utf8.decode
  simp only []
  have hE : Utf8.valid ((Utf8.runeError : Nat) : Int) = true := by decide
  split
  · rename_i h
    obtain ⟨b, hb⟩ : ∃ b, (s.get! (pos + 0)).toNat = b := ⟨_, rfl⟩
    rw [hb] at h
    show Utf8.valid (((s.get! (pos + 0)).toNat : Nat) : Int) = true
    rw [hb]
    simp [Utf8.valid]; omega
  · split
    · split
      · rename_i h1 h2
        simp only [Utf8.valid, Bool.or_eq_true, Bool.and_eq_true, decide_eq_true_eq]
        have := Nat.mod_lt (s.get! (pos + 0)).toNat (show 0 < 32 by omega)
        have := Nat.mod_lt (s.get! (pos + 1)).toNat (show 0 < 64 by omega)
        omega
      · exact hE
    · split
      · split
        · rename_i h1 h2
          simp only [Bool.and_eq_true] at h2
          exact h2.2
        · exact hE
      · split
        · split
          · rename_i h1 h2
            simp only [Bool.and_eq_true] at h2
            exact h2.2
          · exact hE
        · exact hE
theorem decode_wide (s : ByteArray) (pos : Nat) (h : pos < s.size) (hb : ¬ bt s pos < 128) : pos + (Utf8.decode s pos).2 ≤ s.size ∧ ∀ j : Nat, j < (Utf8.decode s pos).2 → 128 ≤ bt s ((pos + j : Nat) : Int) := by
  have hg := get_bt s pos h
  have h1 : ¬ (s.get! (pos + 0)).toNat < 128 := by omega
  have h0 : 128 ≤ bt s ((pos + 0 : Nat) : Int) := by simpa using hb
  have step : ∀ k, (decide (pos + k < s.size) && (s.get! (pos + k)).toNat / 64 == 2) = true → pos + k < s.size ∧ 128 ≤ bt s ((pos + k : Nat) : Int) := by
    intro k hk
    simp only [Bool.and_eq_true, decide_eq_true_eq, beq_iff_eq] at hk
    have := get_bt s (pos + k) hk.1
    rw [Nat.add_zero] at this
    omega
  have one : ∀ j : Nat, j < 1 → 128 ≤ bt s ((pos + j : Nat) : Int) := by intro j hj; obtain rfl : j = 0 := by omega
                                                                         exact h0
  unfold Utf8.decode
  simp only []
  rw [if_neg h1]
  split
  · rename_i h2
    rw [Bool.and_eq_true] at h2
    have s1 := step 1 h2.2
    split
    · refine ⟨by simp; omega, ?_⟩
      intro j hj
      simp only at hj
      rcases (show j = 0 ∨ j = 1 by omega) with rfl | rfl
      · exact h0
      · exact s1.2
    · exact ⟨by simp; omega, one⟩
  · split
    · rename_i h2
      rw [Bool.and_eq_true, Bool.and_eq_true] at h2
      have s1 := step 1 h2.1.2
      have s2 := step 2 h2.2
      split
      · refine ⟨by simp; omega, ?_⟩
        intro j hj
        simp only at hj
        rcases (show j = 0 ∨ j = 1 ∨ j = 2 by omega) with rfl | rfl | rfl
        · exact h0
        · exact s1.2
        · exact s2.2
      · exact ⟨by simp; omega, one⟩
    · split
      · rename_i h2
        rw [Bool.and_eq_true, Bool.and_eq_true, Bool.and_eq_true] at h2
        have s1 := step 1 h2.1.1.2
        have s2 := step 2 h2.1.2
        have s3 := step 3 h2.2
        split
        · refine ⟨by simp; omega, ?_⟩
          intro j hj
          simp only at hj
          rcases (show j = 0 ∨ j = 1 ∨ j = 2 ∨ j = 3 by omega) with rfl | rfl | rfl | rfl
          · exact h0
          · exact s1.2
          · exact s2.2
          · exact s3.2
        · exact ⟨by simp; omega, one⟩
      · exact ⟨by simp; omega, one⟩
theorem cnt_skip (p : Int → Bool) (s : ByteArray) (pos : Nat) : ∀ K : Nat, pos + K ≤ s.size → (∀ j : Nat, j < K → p (bt s ((pos + j : Nat) : Int)) = true) → cnt p (at_ s pos) = K + cnt p (at_ s ((pos + K : Nat) : Int))
  | 0, _, _ => by simp
  | K + 1, h, hp => by
    rw [cnt_skip p s pos K (by omega) (fun j hj => hp j (by omega)), at_cons s ((pos + K : Nat) : Int) (by omega) (by omega), cnt_yes _ (hp K (by omega)), show (((pos + K : Nat) : Int) + 1) = ((pos + (K + 1) : Nat) : Int) by omega]
    omega
def noneOf (C : ByteArray) (c : Int) : Bool := decide (bt C 0 ≠ c ∧ bt C 1 ≠ c)
def anyIdx (C s : ByteArray) : Int := if cnt (noneOf C) (by_ s) < s.size then ((cnt (noneOf C) (by_ s) : Nat) : Int) else -1
theorem list_two (C : ByteArray) (hC : C.size = 2) : ∃ x y : UInt8, C.data.toList = [x, y] ∧ bt C 0 = x.toNat ∧ bt C 1 = y.toNat := by
  obtain ⟨⟨l⟩⟩ := C
  match l, hC with
  | [x, y], _ => exact ⟨x, y, rfl, rfl, rfl⟩
theorem byte_two (C : ByteArray) (hC : C.size = 2) (c : Int) (h0 : 0 ≤ c) (h1 : c ≤ 255) : (0 ≤ Lib.indexByte C.data.toList c.toNat.toUInt8) ↔ noneOf C c = false := by
  obtain ⟨x, y, e, e0, e1⟩ := list_two C hC
  have hk := Lib.contains_iff_indexByte C.data.toList c.toNat.toUInt8
  have hc : c.toNat.toUInt8.toNat = c.toNat := by simp; omega
  have hx : (x = c.toNat.toUInt8) ↔ (x.toNat : Int) = c := ⟨fun h => by rw [h, hc]; omega, fun h => UInt8.toNat_inj.1 (by rw [hc]; omega)⟩
  have hy : (y = c.toNat.toUInt8) ↔ (y.toNat : Int) = c := ⟨fun h => by rw [h, hc]; omega, fun h => UInt8.toNat_inj.1 (by rw [hc]; omega)⟩
  rw [← decide_eq_true_iff (p := 0 ≤ Lib.indexByte C.data.toList c.toNat.toUInt8), ← hk, e]
  unfold noneOf
  rw [e0, e1, decide_eq_false_iff_not]
  simp only [List.contains_cons, List.contains_nil, Bool.or_false, Bool.or_eq_true, beq_iff_eq]
  rw [eq_comm (a := c.toNat.toUInt8) (b := x), eq_comm (a := c.toNat.toUInt8) (b := y), hx, hy]
  omega
theorem low_two (C : ByteArray) (hC : C.size = 2) (hlow : ∀ (j : Nat) (h : j < C.size), (C[j]'h).toNat < 128) : bt C 0 < 128 ∧ bt C 1 < 128 := by
  have h0 := bt_at C 0 (by omega)
  have h1 := bt_at C 1 (by omega)
  have := hlow 0 (by omega)
  have := hlow 1 (by omega)
  simp at h0 h1
  omega
set_option maxHeartbeats 800000 in
set_option maxRecDepth 100000 in
theorem indexAny_short (C : ByteArray) (hC : C.size = 2) (hlow : ∀ (j : Nat) (h : j < C.size), (C[j]'h).toNat < 128) (s : ByteArray) (hs : s.size ≤ 8) (w : World) :
    Calls Tryd.prog 27 #[.string s, .string C] w fun e w' => e = .returned (.int .i64 (anyIdx C s)) ∧ Below w.heap.size w w' := by
  have HB := Lib.hid (byte_two C hC)
  have HH := Lib.hid (fun (r : Nat) (h : 128 ≤ r) (hv : Utf8.valid (r : Int) = true) (W : World) => indexRune_high C hC hlow r h hv W)
  have HC2 := Lib.hid (low_two C hC hlow)
  clear hlow
  have hemp : C.toList.isEmpty = false := by
    rw [Lib.toList_data]
    obtain ⟨x, y, e, _⟩ := list_two C hC
    rw [e]; rfl
  have hn1 : ((C.size : Int) == 1) = false := beq_eq_false_iff_ne.2 (by omega)
  have h8z : decide ((8 : Int) < (s.size : Int)) = false := decide_eq_false (by omega)
  have HS := Lib.hid hC
  clear hC
  go_enter Tryd.func27, Tryd.ntmps27
  go_wp2_with (go_at_call 52; refine (Tryd.strings_shouldUseASCIISet _ _).mono ?_; rintro e w' ⟨rfl, hw⟩; rw [hw, h8z])
  go_loopg [9, 10] s.size (fun gf _ _ wx => ∃ pos : Nat, wx.heap[w.heap.size]? = some (.stringIter s pos) ∧ Below w.heap.size w wx ∧ Hid (cnt (noneOf C) (by_ s) = pos + cnt (noneOf C) (at_ s pos)) ∧ pos ≤ s.size ∧ s.size ≤ pos + gf)
  case atStart => exact ⟨0, World.iter_heap w s 0, (Below.refl _ w).alloc (Nat.le_refl _) _, Lib.hid (by rw [show ((0 : Nat) : Int) = 0 from rfl, at_zero]; omega), by omega, by omega⟩
  case round =>
    obtain ⟨pos, hit, hbw, HL, hle, hfu⟩ := hrel
    by_cases hps : pos < s.size
    · obtain ⟨g', rfl⟩ : ∃ g', gk = g' + 1 := ⟨gk - 1, by omega⟩
      have hnx : ∀ ty, (Instr.next (.pointer (some ⟨w.heap.size, 0, none⟩)) true ty).run Tryd.prog wr = _ := fun ty => Lib.run_next_any_at wr w.heap.size s pos ty hit hps
      have hwd := Lib.width_pos s pos
      have hdv := decode_valid s pos
      have HLo := Lib.hid (decode_low s pos hps)
      have HHi := Lib.hid (decode_high s pos hps)
      have HWi := Lib.hid (decode_wide s pos hps)
      have hbr := bt_range s pos
      have HHd := Lib.hid (at_cons s pos (by omega) (by omega))
      obtain ⟨R, hR⟩ : ∃ R, (Utf8.decode s pos).1 = R := ⟨_, rfl⟩
      obtain ⟨K, hK⟩ : ∃ K, (Utf8.decode s pos).2 = K := ⟨_, rfl⟩
      have hRK : Utf8.decode s pos = (R, K) := by rw [← hR, ← hK]
      rw [hRK] at HLo HHi HWi
      rw [hR, hK] at hnx
      rw [hR] at hdv
      rw [hK] at hwd
      clear hR hK hRK
      have hit2 := Lib.iterAt_heap wr w.heap.size s pos (pos + K) hit
      have hbw2 := Lib.below_iterAt hbw (k := w.heap.size) (Nat.le_refl _) s (pos + K)
      obtain ⟨W, hWd⟩ : ∃ W, wr.iterAt w.heap.size s (pos + K) = W := ⟨_, rfl⟩
      rw [hWd] at hnx hit2 hbw2
      clear hWd hit hbw
      obtain ⟨b, hb⟩ : ∃ b, bt s pos = b := ⟨_, rfl⟩
      rw [hb] at HLo HHi HWi hbr HHd
      by_cases hlo : b < 128
      · obtain ⟨n, rfl⟩ : ∃ n : Nat, b = n := ⟨b.toNat, by omega⟩
        obtain ⟨rfl, rfl⟩ : R = n ∧ K = 1 := by have := HLo.out hlo; simpa using this
        clear HLo HHi HWi hdv
        have hback : ((R : Nat) : Int).toNat.toUInt8 = R.toUInt8 := by rw [Int.toNat_natCast]
        have HBb := Lib.hid (HB.out (R : Int) hbr.1 hbr.2)
        rw [hback] at HBb
        have Hb := Lib.hid hb
        clear hb
        obtain ⟨ix, hix⟩ : ∃ ix, Lib.indexByte C.data.toList R.toUInt8 = ix := ⟨_, rfl⟩
        rw [hix] at HBb
        cases hno : noneOf C (R : Int) with
        | true =>
          have hlt : ix < 0 := by
            by_cases q : 0 ≤ ix
            · have := HBb.out.1 q; rw [hno] at this; cases this
            · omega
          have HN := Lib.hid hno
          clear hno
          go_wp2_with (go_at_call 51; refine (Tryd.strings_IndexRune_ascii C _ _ (by omega) (by omega)).mono ?_; rintro e w' ⟨rfl, hw⟩; rw [hw, hback, hix])
          go_roundg g'
          case measure => omega
          case rel => exact ⟨pos + 1, hit2, hbw2, Lib.hid (by rw [HL.out, HHd.out, cnt_yes _ HN.out, show ((pos : Int) + 1) = ((pos + 1 : Nat) : Int) by omega]; omega), by omega, by omega⟩
        | false =>
          have hge : 0 ≤ ix := HBb.out.2 hno
          have HN := Lib.hid hno
          clear hno
          go_wp2_with (go_at_call 51; refine (Tryd.strings_IndexRune_ascii C _ _ (by omega) (by omega)).mono ?_; rintro e w' ⟨rfl, hw⟩; rw [hw, hback, hix])
          go_ret
          exact ⟨ret_int (by unfold anyIdx; rw [HL.out, HHd.out, cnt_no _ HN.out, if_pos (by omega)]; rfl), hbw2⟩
      · have hhi : 128 ≤ R := HHi.out hlo
        have hw1 := HWi.out hlo
        have hsk : cnt (noneOf C) (at_ s pos) = K + cnt (noneOf C) (at_ s ((pos + K : Nat) : Int)) := cnt_skip (noneOf C) s pos K hw1.1 (fun j hj => by
          have := hw1.2 j hj
          have := HC2.out
          unfold noneOf
          exact decide_eq_true (by omega))
        have hpK : pos + K ≤ s.size := hw1.1
        have HSk := Lib.hid hsk
        have HCall := Lib.hid (fun (W : World) => HH.out R hhi hdv W)
        clear hsk hw1 HWi HHi HLo hb HHd HB hdv
        go_wp2_with (go_at_call 51; refine (HCall.out _).mono ?_; rintro e w' ⟨rfl, hbx⟩)
        go_roundg g'
        case measure => omega
        case rel => exact ⟨pos + K, (hbx.block _ (Array.getElem?_eq_some_iff.1 hit2).1).trans hit2, hbw2.trans (hbx.mono hbw2.size), Lib.hid (by rw [HL.out, HSk.out]; omega), hpK, by omega⟩
    · have hnx : ∀ ty, (Instr.next (.pointer (some ⟨w.heap.size, 0, none⟩)) true ty).run Tryd.prog wr = _ := fun ty => Lib.run_next_end_at wr w.heap.size s pos ty hit hps
      go_wp2
      go_ret
      exact ⟨ret_int (by unfold anyIdx; rw [HL.out, at_nil s pos (by omega), cnt_nil, if_neg (by omega)]), hbw⟩
end Go.Proofs.YtjgpmfjkcioinaaDoor.G
