/-
  'strings.IndexAny' at two plain bytes and every text; 'Blank': where what counts for nothing ends.
-/
import Derived.Test.YtjgpmfjkcioinaaDoorPTG3
namespace Go.Proofs.YtjgpmfjkcioinaaDoor.G
open Go.RowKit Go.Proofs.YtjgpmfjkcioinaaDoorW.PrintWords Go.Proofs.YtjgpmfjkcioinaaDoor.M
set_option linter.unusedVariables false
set_option linter.unusedSimpArgs false
theorem contains_two (C : ByteArray) (hC : C.size = 2) (x : UInt8) : C.data.toList.contains x = !noneOf C x.toNat := by
  obtain ⟨a, b, e, e0, e1⟩ := list_two C hC
  rw [e]
  unfold noneOf
  rw [e0, e1]
  have ha : (a = x) ↔ (a.toNat : Int) = x.toNat := ⟨fun h => by rw [h], fun h => UInt8.toNat_inj.1 (by omega)⟩
  have hb : (b = x) ↔ (b.toNat : Int) = x.toNat := ⟨fun h => by rw [h], fun h => UInt8.toNat_inj.1 (by omega)⟩
  rw [Bool.eq_iff_iff]
  simp only [List.contains_cons, List.contains_nil, Bool.or_false, Bool.or_eq_true, beq_iff_eq, Bool.not_eq_true', decide_eq_false_iff_not]
  rw [eq_comm (a := x) (b := a), eq_comm (a := x) (b := b), ha, hb]
  omega
theorem indexAny_list (C : ByteArray) (hC : C.size = 2) : ∀ l : List UInt8, Lib.indexAny l C.data.toList = if cnt (noneOf C) (l.map fun b => (b.toNat : Int)) < l.length then ((cnt (noneOf C) (l.map fun b => (b.toNat : Int)) : Nat) : Int) else -1
  | [] => by simp [Lib.indexAny, cnt]
  | x :: l => by
    rw [Lib.indexAny, contains_two C hC x, List.map_cons]
    cases h : noneOf C x.toNat with
    | true =>
      rw [cnt_yes _ h, indexAny_list C hC l, List.length_cons]
      simp only [Bool.not_true, Bool.false_eq_true, if_false]
      by_cases h2 : cnt (noneOf C) (l.map fun b => (b.toNat : Int)) < l.length
      · rw [if_pos h2, if_neg (by simp), if_pos (by omega)]; omega
      · rw [if_neg h2, if_pos (by rfl), if_neg (by omega)]
    | false =>
      rw [cnt_no _ h]
      simp
theorem indexAny_any (C : ByteArray) (hC : C.size = 2) (hlow : ∀ (j : Nat) (h : j < C.size), (C[j]'h).toNat < 128) (s : ByteArray) (hs : s.size ≤ 1000000) (w : World) :
    Calls Tryd.prog 27 #[.string s, .string C] w fun e w' => e = .returned (.int .i64 (anyIdx C s)) ∧ Below w.heap.size w w' := by
  by_cases h8 : s.size ≤ 8
  · exact indexAny_short C hC hlow s h8 w
  · refine (Tryd.strings_IndexAny_long (by intro w; kernel_rfl) s C w (by omega) (by omega) (by omega) (by omega) ?_).mono ?_
    · intro j b hb
      have hj : j < C.size := by
        have := (List.getElem?_eq_some_iff.1 hb).1
        simpa using this
      have := hlow j hj
      rw [Lib.data_getElem? C j hj] at hb
      cases hb
      exact this
    · rintro e w' ⟨rfl, rfl⟩
      refine ⟨ret_int ?_, ((Below.refl _ w).alloc (Nat.le_refl _) _).alloc (by simp) _⟩
      have := indexAny_list C hC s.data.toList
      rw [this]
      unfold anyIdx by_
      simp
def bom : List Int → Bool
  | 239 :: 187 :: 191 :: _ => true
  | _ => false
theorem bom_prefix (t : ByteArray) : Lib.hasPrefix t.data.toList [239, 187, 191] = bom (by_ t) := by
  unfold by_
  generalize t.data.toList = l
  have key : ∀ (n : UInt8) (k : UInt8) (m : Int), (k.toNat : Int) = m → ((n == k) = true ↔ (n.toNat : Int) = m) := by
    intro n k m hk
    rw [beq_iff_eq]
    exact ⟨fun h => by rw [h]; exact hk, fun h => UInt8.toNat_inj.1 (by omega)⟩
  have k1 := fun n => key n 239 239 rfl
  have k2 := fun n => key n 187 187 rfl
  have k3 := fun n => key n 191 191 rfl
  unfold Lib.hasPrefix
  match l with
  | [] => rfl
  | [a] =>
    rw [Bool.eq_iff_iff]
    simp [bom, List.isPrefixOf]
  | [a, b] =>
    rw [Bool.eq_iff_iff]
    simp [bom, List.isPrefixOf]
  | a :: b :: c :: m =>
    rw [Bool.eq_iff_iff]
    simp only [List.isPrefixOf, List.map_cons, Bool.and_eq_true, Bool.and_true]
    rw [BEq.comm (a := (239 : UInt8)), BEq.comm (a := (187 : UInt8)), BEq.comm (a := (191 : UInt8)), k1, k2, k3]
    constructor
    · rintro ⟨h1, h2, h3⟩
      rw [h1, h2, h3]; rfl
    · intro h
      unfold bom at h
      split at h
      · rename_i h1
        simp only [List.cons.injEq] at h1
        exact ⟨h1.1, h1.2.1, h1.2.2.1⟩
      · cases h
theorem bl_comment (l : List Int) : bl true l = cnt noEnd l + bl false (l.drop (cnt noEnd l)) := by
  induction l with
  | nil => rfl
  | cons c l ih =>
    rw [bl_true]
    by_cases h : noEnd c = true
    · rw [if_pos h, cnt_yes _ h, List.drop_succ_cons]
      omega
    · rw [Bool.not_eq_true] at h
      have hb : isBl c = true := by simp [noEnd] at h; simp [isBl]; omega
      rw [cnt_no _ h, List.drop_zero, h, if_neg (by decide), bl_false, if_pos hb]
      omega
theorem bl_blank {c : Int} (l : List Int) (h : isBl c = true) : bl false (c :: l) = bl false l + 1 := by rw [bl_false, if_pos h]
theorem bl_hash (l : List Int) : bl false (35 :: l) = cnt noEnd (35 :: l) + bl false ((35 :: l).drop (cnt noEnd (35 :: l))) := by
  have h : noEnd 35 = true := by decide
  rw [cnt_yes _ h, List.drop_succ_cons, bl_false, if_neg (by decide), if_pos rfl]
  have := bl_comment l
  omega
theorem bl_bom (l : List Int) (h : bom l = true) : bl false l = 3 + bl false (l.drop 3) ∧ 3 ≤ l.length := by
  unfold bom at h
  split at h
  · rename_i m
    refine ⟨?_, by simp⟩
    rw [bl_false, if_neg (by decide), if_neg (by decide), if_pos rfl]
    simp only [List.drop_succ_cons, List.drop_zero]
    omega
  · cases h
theorem bl_none {c : Int} (l : List Int) (h1 : isBl c = false) (h2 : bom (c :: l) = false) (h3 : c ≠ 35) : bl false (c :: l) = 0 := by
  rw [bl_false, h1, if_neg (by decide), if_neg h3]
  by_cases h : c = 239
  · subst h
    rw [if_pos rfl]
    split
    · rename_i m; simp [bom] at h2
    · rfl
  · rw [if_neg h]
theorem bl_le : ∀ (b : Bool) (l : List Int), bl b l ≤ l.length
  | b, [] => by rw [bl_nil]; exact Nat.zero_le _
  | true, c :: l => by
    have h1 := bl_le true l; have h2 := bl_le false l
    rw [bl_true, List.length_cons]; split <;> omega
  | false, c :: l => by
    have h1 := bl_le true l; have h2 := bl_le false l
    rw [bl_false, List.length_cons]
    split
    · omega
    · split
      · omega
      · split
        · split
          · rename_i m
            have h3 := bl_le false m
            simp only [List.length_cons]; omega
          · omega
        · omega
theorem isBl_index (c : Int) (h0 : 0 ≤ c) (h1 : c ≤ 255) : decide (0 ≤ Lib.indexByte [9, 10, 13, 32, 44] c.toNat.toUInt8) = isBl c := by
  have key : ∀ n : Fin 256, decide (0 ≤ Lib.indexByte [9, 10, 13, 32, 44] (n.val).toUInt8) = isBl (n.val : Int) := by decide +kernel
  have := key ⟨c.toNat, by omega⟩
  rw [show ((⟨c.toNat, by omega⟩ : Fin 256).val : Int) = c by simp; omega] at this
  exact this
def CRLF : ByteArray := ⟨#[13, 10]⟩
theorem noneOf_crlf (c : Int) : noneOf CRLF c = noEnd c := by
  unfold noneOf noEnd
  apply decide_eq_decide.2
  have e0 : bt CRLF 0 = 13 := rfl
  have e1 : bt CRLF 1 = 10 := rfl
  rw [e0, e1]
  omega
theorem cnt_congr {p q : Int → Bool} (h : ∀ c, p c = q c) (l : List Int) : cnt p l = cnt q l := by rw [show p = q from funext h]
def blank (s : ByteArray) (i : Int) : Int := if 0 ≤ i ∧ i ≤ s.size then i + bl false (at_ s i) else i
set_option maxHeartbeats 1600000 in
set_option maxRecDepth 100000 in
theorem blank_in (s : ByteArray) (i : Int) (w : World) (hs : s.size ≤ 1000000) (h0 : 0 ≤ i) (h1 : i ≤ s.size) :
    Calls Tryd.prog 12 #[.string s, .int .i64 i] w fun e w' => e = .returned (.int .i64 (i + bl false (at_ s i))) ∧ Below w.heap.size w w' := by
  have HA := Lib.hid (fun (t : ByteArray) (ht : t.size ≤ 1000000) (W : World) => indexAny_any CRLF rfl (by decide) t ht W)
  have HI : ∀ (c : Int) (W : World), Calls Tryd.prog 25 #[.string ⟨#[9, 10, 13, 32, 44]⟩, .int .u8 c] W fun e w' => e = .returned (.int .i64 (Lib.indexByte [9, 10, 13, 32, 44] c.toNat.toUInt8)) ∧ w' = W := fun c W => Tryd.strings_IndexByte _ _ _
  have HI := Lib.hid HI
  have HP := Lib.hid (fun (t : ByteArray) (W : World) => Tryd.strings_HasPrefix t ⟨#[239, 187, 191]⟩ W)
  obtain ⟨T, hT⟩ : ∃ T : Int, i + bl false (at_ s i) = T := ⟨_, rfl⟩
  have H0 := Lib.hid hT
  rw [hT]
  clear hT
  go_enter Tryd.func12, Tryd.ntmps12
  go_wp2
  go_step3
  go_wp2
  go_step3
  go_wp2
  go_loopg [1] s.size (fun gf s1 wx => ∃ n : Nat, s1 = .int .i64 n ∧ n ≤ s.size ∧ Hid ((n : Int) + bl false (at_ s n) = T) ∧ Below w.heap.size w wx ∧ s.size ≤ n + gf)
  case atStart => exact ⟨i.toNat, by rw [show ((i.toNat : Nat) : Int) = i by omega], by omega, Lib.hid (by rw [show ((i.toNat : Nat) : Int) = i by omega]; exact H0.out), Below.refl _ _, by omega⟩
  case round =>
    obtain ⟨n, rfl, hle, HT, hbw, hfu⟩ := hrel
    by_cases hlt : n < s.size
    · obtain ⟨g', rfl⟩ : ∃ g', gk = g' + 1 := ⟨gk - 1, by omega⟩
      have hhd := at_cons s n (by omega) (by omega)
      have hbr := bt_range s n
      obtain ⟨b, hb⟩ : ∃ b, bt s n = b := ⟨_, rfl⟩
      rw [hb] at hhd hbr
      have hB := isBl_index b hbr.1 hbr.2
      have hat : ∀ h : n < s.size, (((s[n]'h).toNat : Nat) : Int) = b := fun h => by rw [← hb]; exact bt_at s n h
      have HD := Lib.hid hhd
      clear hhd
      obtain ⟨ix, hix⟩ : ∃ ix, Lib.indexByte [9, 10, 13, 32, 44] b.toNat.toUInt8 = ix := ⟨_, rfl⟩
      rw [hix] at hB
      have Hb := Lib.hid hb
      clear hb
      cases hbl : isBl b with
      | true =>
        rw [hbl] at hB
        have hB2 : 0 ≤ ix := of_decide_eq_true hB
        clear hB
        have HBl := Lib.hid hbl
        clear hbl
        go_wp2_with (go_at_call 25; refine (HI.out _ _).mono ?_; rintro e w' ⟨rfl, hw⟩; rw [hw, hix])
        go_roundg g'
        case measure => omega
        case rel => exact ⟨n + 1, by go_num, by omega, Lib.hid (by rw [← HT.out, HD.out, bl_blank _ HBl.out, show ((n : Int) + 1) = ((n + 1 : Nat) : Int) by omega]; omega), hbw, by omega⟩
      | false =>
        rw [hbl] at hB
        have hB2 : ix < 0 := by have := of_decide_eq_false hB; omega
        clear hB
        have HBl := Lib.hid hbl
        clear hbl
        have hpre : Lib.hasPrefix (s.extract n s.size).data.toList [239, 187, 191] = bom (at_ s n) := by
          have := bom_prefix (s.extract n s.size)
          have h2 := by_tail s n (by omega)
          rw [Int.toNat_natCast] at h2
          rw [h2] at this
          exact this
        have HPre : ∀ W : World, Calls Tryd.prog 26 #[.string (s.extract n s.size), .string ⟨#[239, 187, 191]⟩] W fun e w' => e = .returned (.bool (bom (at_ s n))) ∧ w' = W := by
          intro W
          refine (HP.out (s.extract n s.size) W).mono ?_
          rintro e w' ⟨rfl, rfl⟩
          exact ⟨ret_bool hpre, rfl⟩
        clear hpre
        have hlen := at_length s n (by omega) (by omega)
        have hdr := at_add s n 3 (by omega)
        obtain ⟨L, hL⟩ : ∃ L, at_ s (n : Int) = L := ⟨_, rfl⟩
        rw [hL] at HT HD HPre hlen hdr
        have HL := Lib.hid hL
        have HDr := Lib.hid hdr
        clear hL hdr
        cases hq : bom L with
        | true =>
          rw [hq] at HPre
          have hbb := bl_bom L hq
          have HBB := Lib.hid hbb.1
          have h3 : 3 ≤ L.length := hbb.2
          clear hbb hq
          have HPre := Lib.hid HPre
          go_wp2_with (first
            | (go_at_call 25; refine (HI.out _ _).mono ?_; rintro e w' ⟨rfl, hw⟩; rw [hw, hix])
            | (go_at_call 26; refine (HPre.out _).mono ?_; rintro e w' ⟨rfl, hw⟩; rw [hw]))
          go_roundg g'
          case measure => omega
          case rel => exact ⟨n + 3, by go_num, by omega, Lib.hid (by rw [← HT.out, HBB.out, ← HDr.out, show ((n : Int) + ((3 : Nat) : Int)) = ((n + 3 : Nat) : Int) by omega]; omega), hbw, by omega⟩
        | false =>
          rw [hq] at HPre
          have Hq := Lib.hid hq
          clear hq
          have HPre := Lib.hid HPre
          by_cases h35 : b = 35
          · have h35b : (b == 35) = true := by rw [h35]; rfl
            have hbh := bl_hash (at_ s ((n : Int) + 1))
            rw [← h35, ← HD.out] at hbh
            have hk1 : 1 ≤ cnt noEnd L := by rw [HD.out, cnt_yes _ (by rw [h35]; decide)]; omega
            have hkl := cnt_le noEnd L
            have hany : ∀ W : World, Calls Tryd.prog 27 #[.string (s.extract n s.size), .string ⟨#[13, 10]⟩] W fun e w' => e = .returned (.int .i64 (if cnt noEnd L < L.length then ((cnt noEnd L : Nat) : Int) else -1)) ∧ Below W.heap.size W w' := by
              intro W
              have hz : (s.extract n s.size).size = s.size - n := by simp
              refine (HA.out (s.extract n s.size) (by omega) W).mono ?_
              rintro e w' ⟨rfl, hb⟩
              refine ⟨ret_int ?_, hb⟩
              have h2 := by_tail s n (by omega)
              rw [Int.toNat_natCast, HL.out] at h2
              unfold anyIdx
              rw [h2, cnt_congr noneOf_crlf]
              have : (s.extract n s.size).size = L.length := by omega
              rw [this]
            obtain ⟨k, hk⟩ : ∃ k, cnt noEnd L = k := ⟨_, rfl⟩
            rw [hk] at hbh hk1 hkl hany
            have HBh := Lib.hid hbh
            clear hbh
            clear hk
            have H35 := Lib.hid h35
            clear h35
            by_cases hkk : k < L.length
            · rw [if_pos hkk] at hany
              have HAny := Lib.hid hany
              clear hany
              go_wp2_with (first
                | (go_at_call 25; refine (HI.out _ _).mono ?_; rintro e w' ⟨rfl, hw⟩; rw [hw, hix])
                | (go_at_call 26; refine (HPre.out _).mono ?_; rintro e w' ⟨rfl, hw⟩; rw [hw])
                | (go_at_call 27; refine (HAny.out _).mono ?_; rintro e w' ⟨rfl, hbx⟩))
              go_roundg g'
              case measure => omega
              case rel => exact ⟨n + k, by go_num, by omega, Lib.hid (by rw [← HT.out, HBh.out, ← HL.out, ← at_add s n k (by omega), show ((n : Int) + (k : Int)) = ((n + k : Nat) : Int) by omega]; omega), hbw.trans (hbx.mono hbw.size), by omega⟩
            · rw [if_neg hkk] at hany
              have HAny := Lib.hid hany
              clear hany
              go_wp2_with (first
                | (go_at_call 25; refine (HI.out _ _).mono ?_; rintro e w' ⟨rfl, hw⟩; rw [hw, hix])
                | (go_at_call 26; refine (HPre.out _).mono ?_; rintro e w' ⟨rfl, hw⟩; rw [hw])
                | (go_at_call 27; refine (HAny.out _).mono ?_; rintro e w' ⟨rfl, hbx⟩))
              rw [Exit.noGoto_ret]
              go_ret
              exact ⟨ret_int (by rw [← HT.out, HBh.out, List.drop_of_length_le (by omega), bl_nil]; omega), hbw.trans (hbx.mono hbw.size)⟩
          · have h35b : (b == 35) = false := beq_eq_false_iff_ne.2 h35
            have hz : bl false L = 0 := by
              rw [HD.out]; exact bl_none _ HBl.out (by rw [← HD.out]; exact Hq.out) h35
            have HZ := Lib.hid hz
            clear hz
            go_wp2_with (first
              | (go_at_call 25; refine (HI.out _ _).mono ?_; rintro e w' ⟨rfl, hw⟩; rw [hw, hix])
              | (go_at_call 26; refine (HPre.out _).mono ?_; rintro e w' ⟨rfl, hw⟩; rw [hw]))
            rw [Exit.noGoto_ret]
            go_ret
            exact ⟨ret_int (by rw [← HT.out, HZ.out]; omega), hbw⟩
    · go_wp2
      rw [Exit.noGoto_ret]
      go_ret
      exact ⟨ret_int (by rw [← HT.out, at_nil s n (by omega), bl_nil]; omega), hbw⟩
set_option maxHeartbeats 400000 in
theorem blank_any (s : ByteArray) (i : Int) (w : World) (hs : s.size ≤ 1000000) :
    Calls Tryd.prog 12 #[.string s, .int .i64 i] w fun e w' => e = .returned (.int .i64 (blank s i)) ∧ Below w.heap.size w w' := by
  by_cases h : 0 ≤ i ∧ i ≤ s.size
  · unfold blank
    rw [if_pos h]
    exact blank_in s i w hs h.1 h.2
  · have hu : blank s i = i := by unfold blank; rw [if_neg h]
    rw [hu]
    clear hu
    by_cases h0 : 0 ≤ i
    · have h1 : ¬ i ≤ s.size := fun h1 => h ⟨h0, h1⟩
      clear h
      go_enter Tryd.func12, Tryd.ntmps12
      go_wp2
      go_step3
      go_wp2
      rw [Exit.noGoto_ret]
      go_ret
      exact ⟨rfl, Below.refl _ _⟩
    · clear h
      go_enter Tryd.func12, Tryd.ntmps12
      go_wp2
      go_step3
      go_wp2
      rw [Exit.noGoto_ret]
      go_ret
      exact ⟨rfl, Below.refl _ _⟩
end Go.Proofs.YtjgpmfjkcioinaaDoor.G
