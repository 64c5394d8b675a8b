/-
  Small letters: what 'strings.ToLower' makes of four bytes, read as a code. Plain Lean, over Go's own table of cases.
-/
import Derived.Test.YtjgpmfjkcioinaaGreatDoorPLGG12
import Derived.Test.YtjgpmfjkcioinaaGreatDoorPLGG2
import Derived.Lib.MapLaws
import Derived.Lib.CaseU
import Derived.Shelf.Strings.CaseAny
import Derived.Lib.ConvBytes
import Derived.Lib.SmallJoins
namespace Go.Proofs.YtjgpmfjkcioinaaGreatDoor.G
open Go.RowKit Go.Proofs.YtjgpmfjkcioinaaGreatDoorW.PrintWords Go.Proofs.YtjgpmfjkcioinaaGreatDoor.M
set_option linter.unusedVariables false
set_option linter.unusedSimpArgs false
def dv (c : Int) : Int := if 48 ≤ c ∧ c ≤ 57 then c - 48 else if 97 ≤ c ∧ c ≤ 102 then c - 87 else -1
theorem dv_le (c : Int) : -1 ≤ dv c ∧ dv c ≤ 15 := by
  unfold dv
  repeat' split
  all_goals omega
def rowOk (x : Lib.CaseRow) : Bool :=
  decide (x.2.1 < 128) || (decide (x.2.2.2.1 > 1114111) && decide (128 ≤ x.1)) || (decide (x.2.2.2.1 ≤ 1114111) && decide (128 ≤ x.1) && decide (103 ≤ (x.1 : Int) + x.2.2.2.1))
theorem rows_ok : Lib.caseT.all rowOk = true := by decide +kernel
theorem lookup_in (T : Array Lib.CaseRow) (r : Int) : ∀ (f lo hi i : Nat), hi ≤ T.size → Lib.lookupIdx T r f lo hi = some i → i < T.size ∧ ((T.getD i (0, 0, 0, 0, 0)).1 : Int) ≤ r ∧ r ≤ ((T.getD i (0, 0, 0, 0, 0)).2.1 : Int)
  | 0, lo, hi, i, hh, h => by simp [Lib.lookupIdx] at h
  | f + 1, lo, hi, i, hh, h => by
    unfold Lib.lookupIdx at h
    split at h
    · rename_i hlt
      split at h
      · rename_i hc
        cases h
        exact ⟨by omega, hc⟩
      · split at h
        · exact lookup_in T r f _ _ i (by omega) h
        · exact lookup_in T r f _ _ i hh h
    · cases h
theorem lower_high (r : Int) (h : 128 ≤ r) : 103 ≤ Lib.toLowerU r := by
  unfold Lib.toLowerU
  rw [if_neg (by omega)]
  unfold Lib.toR Lib.lookupGo
  cases hx : Lib.lookupIdx Lib.caseA r (Lib.caseA.size + 1) 0 Lib.caseA.size with
  | none => simp only [Option.map_none]; omega
  | some i =>
    obtain ⟨h1, h2, h3⟩ := lookup_in Lib.caseA r _ _ _ i (Nat.le_refl _) hx
    have hok : rowOk (Lib.caseA.getD i (0, 0, 0, 0, 0)) = true := by
      have := rows_ok
      rw [List.all_eq_true] at this
      apply this
      have e : Lib.caseA.getD i (0, 0, 0, 0, 0) = Lib.caseA[i] := by simp [Array.getD, h1]
      rw [e]
      simp [Lib.caseA]
    simp only [Option.map_some]
    obtain ⟨x, hxx⟩ : ∃ x, Lib.caseA.getD i (0, 0, 0, 0, 0) = x := ⟨_, rfl⟩
    rw [hxx] at h2 h3 hok ⊢
    unfold Lib.convertR
    simp only [rowOk, Bool.or_eq_true, Bool.and_eq_true, decide_eq_true_eq] at hok
    have hd : x.delta 1 = x.2.2.2.1 := rfl
    rw [hd]
    split
    · have := Int.emod_nonneg (r - x.1) (show (2 : Int) ≠ 0 by omega)
      omega
    · omega
theorem encodeRune_no (z : Int) (h : 103 ≤ z) : ∃ b m, Lib.encodeRune z = b :: m ∧ dv (b.toNat : Int) = -1 := by
  have key : ∀ (c : Int) (m : List Int), 103 ≤ c → c < 256 → Lib.encodeRuneZ z = c :: m → ∃ b m, Lib.encodeRune z = b :: m ∧ dv (b.toNat : Int) = -1 := by
    intro c m h0 h1 e
    refine ⟨c.toNat.toUInt8, m.map fun x => x.toNat.toUInt8, by unfold Lib.encodeRune; rw [e]; rfl, ?_⟩
    have : ((c.toNat.toUInt8.toNat : Nat) : Int) = c := by simp; omega
    rw [this]
    unfold dv
    rw [if_neg (by omega), if_neg (by omega)]
  unfold Lib.encodeRuneZ at key
  by_cases a : 0 ≤ z ∧ z ≤ 127
  · exact key z [] h (by omega) (by rw [if_pos a])
  · by_cases b : 128 ≤ z ∧ z ≤ 2047
    · exact key (192 + z / 64) _ (by omega) (by omega) (by rw [if_neg a, if_pos b])
    · by_cases c : (2048 ≤ z ∧ z < 55296) ∨ (57343 < z ∧ z ≤ 65535)
      · exact key (224 + z / 4096) _ (by omega) (by omega) (by rw [if_neg a, if_neg b, if_pos c])
      · by_cases d : 65536 ≤ z ∧ z ≤ 1114111
        · exact key (240 + z / 262144) _ (by omega) (by omega) (by rw [if_neg a, if_neg b, if_neg c, if_pos d])
        · exact key 239 _ (by omega) (by omega) (by rw [if_neg a, if_neg b, if_neg c, if_neg d])
theorem decodeL_high (b : UInt8) (t : List UInt8) (h : ¬ b.toNat < 128) : 128 ≤ (Lib.decodeL (b :: t)).1 := by
  rw [Lib.decodeL_N]
  have hb : ((b :: t).getD 0 0).toNat = b.toNat := rfl
  rw [hb]
  rcases Lib.decodeN_shape (b :: t).length b.toNat ((b :: t).getD 1 0).toNat ((b :: t).getD 2 0).toNat ((b :: t).getD 3 0).toNat with ⟨c, e⟩ | ⟨c1, c2, c3, cv, e⟩ | ⟨c1, c2, c3, c4, cv, cs, e⟩ | ⟨c1, c2, c3, c4, c5, cv, cw, e⟩ | e
  · omega
  all_goals (rw [e]; dsimp only; omega)
def lowB (c : Int) : Int := if 65 ≤ c ∧ c ≤ 90 then c + 32 else c
theorem dv_low (c : Int) : dv (lowB c) = hexv c := by
  unfold dv lowB hexv
  repeat' split
  all_goals omega
theorem lowerD_low : ∀ (l : List UInt8), (∀ b ∈ l, b.toNat < 128) → (Lib.toLowerD l).map (fun b => (b.toNat : Int)) = l.map (fun b => lowB (b.toNat : Int))
  | [], _ => rfl
  | b :: t, h => by
    have hb := h b (by simp)
    have e : Lib.decodeL (b :: t) = (b.toNat, 1) := Lib.decodeL_ascii b t hb
    unfold Lib.toLowerD
    rw [Lib.mapD_step Lib.toLowerU (b :: t) (by simp), e]
    have ih := lowerD_low t (fun x hx => h x (by simp [hx]))
    unfold Lib.toLowerD at ih
    have hz : Lib.toLowerU ((b.toNat : Nat) : Int) = lowB b.toNat := by unfold Lib.toLowerU lowB; rw [if_pos (by omega)]
    have hr : 0 ≤ lowB b.toNat ∧ lowB b.toNat ≤ 127 := by unfold lowB; split <;> omega
    simp only [hz, List.drop_succ_cons, List.drop_zero]
    rw [if_pos hr.1, List.map_append, ih]
    unfold Lib.encodeRune
    rw [Lib.encodeRuneZ_one hr.1 hr.2]
    simp only [List.map_cons, List.map_nil, List.cons_append, List.nil_append, List.cons.injEq, and_true]
    simp; omega
theorem lowerD_high : ∀ (l : List UInt8), (∃ b ∈ l, ¬ b.toNat < 128) → ∃ p b, p < l.length ∧ (Lib.toLowerD l)[p]? = some b ∧ dv (b.toNat : Int) = -1
  | [], ⟨b, hb, _⟩ => by cases hb
  | c :: t, ⟨b, hb, hh⟩ => by
    unfold Lib.toLowerD
    rw [Lib.mapD_step Lib.toLowerU (c :: t) (by simp)]
    by_cases hc : c.toNat < 128
    · have e : Lib.decodeL (c :: t) = (c.toNat, 1) := Lib.decodeL_ascii c t hc
      rw [e]
      have hbt : b ∈ t := by
        rcases List.mem_cons.1 hb with rfl | h
        · exact absurd hc hh
        · exact h
      obtain ⟨p, x, hp, hx, hd⟩ := lowerD_high t ⟨b, hbt, hh⟩
      unfold Lib.toLowerD at hx
      have hz : Lib.toLowerU ((c.toNat : Nat) : Int) = lowB c.toNat := by unfold Lib.toLowerU lowB; rw [if_pos (by omega)]
      have hr : 0 ≤ lowB c.toNat ∧ lowB c.toNat ≤ 127 := by unfold lowB; split <;> omega
      simp only [hz, List.drop_succ_cons, List.drop_zero]
      rw [if_pos hr.1]
      unfold Lib.encodeRune
      rw [Lib.encodeRuneZ_one hr.1 hr.2]
      exact ⟨p + 1, x, by simp; omega, by simpa using hx, hd⟩
    · have h1 := decodeL_high c t hc
      have h2 := lower_high ((Lib.decodeL (c :: t)).1 : Int) (by omega)
      rw [if_pos (by omega)]
      obtain ⟨x, m, hx, hd⟩ := encodeRune_no _ h2
      rw [hx]
      exact ⟨0, x, by simp, by simp, hd⟩
def hfold : List Int → Int → Int
  | [], n => n
  | c :: l, n => if dv c < 0 then -1 else hfold l (n * 16 + dv c)
theorem hfold_no : ∀ (l : List Int) (n : Int), (∃ c ∈ l, dv c < 0) → hfold l n = -1
  | [], n, ⟨c, hc, _⟩ => by cases hc
  | c :: l, n, ⟨d, hd, h⟩ => by
    unfold hfold
    by_cases hc : dv c < 0
    · rw [if_pos hc]
    · rw [if_neg hc]
      rcases List.mem_cons.1 hd with rfl | hd
      · exact absurd h hc
      · exact hfold_no l _ ⟨d, hd, h⟩
theorem lower_four (a b c d : UInt8) : hfold ((Lib.toLowerD [a, b, c, d]).map fun x => (x.toNat : Int)) 0 = hex4 [(a.toNat : Int), b.toNat, c.toNat, d.toNat] ∧ (0 ≤ hex4 [(a.toNat : Int), b.toNat, c.toNat, d.toNat] → (Lib.toLowerD [a, b, c, d]).length = 4) := by
  by_cases h : ∀ x ∈ [a, b, c, d], x.toNat < 128
  · have e := lowerD_low [a, b, c, d] h
    have hlen : (Lib.toLowerD [a, b, c, d]).length = 4 := by have := congrArg List.length e; simpa using this
    refine ⟨?_, fun _ => hlen⟩
    rw [e]
    simp only [List.map_cons, List.map_nil, hfold, dv_low, hex4]
    by_cases h1 : hexv a.toNat < 0
    · rw [if_pos h1, if_neg (by omega)]
    · rw [if_neg h1]
      by_cases h2 : hexv b.toNat < 0
      · rw [if_pos h2, if_neg (by omega)]
      · rw [if_neg h2]
        by_cases h3 : hexv c.toNat < 0
        · rw [if_pos h3, if_neg (by omega)]
        · rw [if_neg h3]
          by_cases h4 : hexv d.toNat < 0
          · rw [if_pos h4, if_neg (by omega)]
          · rw [if_neg h4, if_pos (by omega)]; omega
  · have hx : ∃ x ∈ [a, b, c, d], ¬ x.toNat < 128 := by
      simpa only [Classical.not_forall, exists_prop] using h
    obtain ⟨p, y, _, hy, hd⟩ := lowerD_high [a, b, c, d] hx
    rw [hfold_no _ 0 ⟨(y.toNat : Int), List.mem_map.2 ⟨y, List.mem_of_getElem? hy, rfl⟩, by omega⟩]
    have hex : hex4 [(a.toNat : Int), b.toNat, c.toNat, d.toNat] = -1 := by
      unfold hex4
      simp only []
      rw [if_neg]
      obtain ⟨x, hx1, hx2⟩ := hx
      have hv : hexv (x.toNat : Int) = -1 := by unfold hexv; rw [if_neg (by omega), if_neg (by omega), if_neg (by omega)]
      simp only [List.mem_cons, List.not_mem_nil, or_false] at hx1
      rcases hx1 with rfl | rfl | rfl | rfl <;> omega
    rw [hex]
    exact ⟨rfl, fun h => absurd h (by decide)⟩
theorem lower_stops (a b c d : UInt8) : (Lib.toLowerD [a, b, c, d]).length = 4 ∨ ∃ p, p < 4 ∧ p < (Lib.toLowerD [a, b, c, d]).length ∧ dv ((Lib.toLowerD [a, b, c, d]).getD p 0).toNat = -1 := by
  by_cases h : ∀ x ∈ [a, b, c, d], x.toNat < 128
  · have e := lowerD_low [a, b, c, d] h
    exact .inl (by have := congrArg List.length e; simpa using this)
  · have hx : ∃ x ∈ [a, b, c, d], ¬ x.toNat < 128 := by
      simpa only [Classical.not_forall, exists_prop] using h
    obtain ⟨p, y, hp, hy, hd⟩ := lowerD_high [a, b, c, d] hx
    refine .inr ⟨p, hp, (List.getElem?_eq_some_iff.1 hy).1, ?_⟩
    rw [List.getD_eq_getElem?_getD, hy]; exact hd
theorem mapD_len (f : Int → Int) : ∀ (n : Nat) (l : List UInt8), l.length ≤ n → (Lib.mapD f l).length ≤ 4 * l.length
  | 0, l, h => by
    have : l = [] := List.eq_nil_of_length_eq_zero (by omega)
    subst this
    exact Nat.le_refl _
  | n + 1, l, h => by
    by_cases hl : l = []
    · subst hl; exact Nat.le_refl _
    · have hp := List.length_pos_iff.2 hl
      have hw := Lib.decodeL_width l
      have hle := Lib.decodeL_le l hl
      have ih := mapD_len f n (l.drop (Lib.decodeL l).2) (by rw [List.length_drop]; omega)
      rw [Lib.mapD_step f l hl, List.length_append]
      rw [List.length_drop] at ih
      have he : ∀ z, (Lib.encodeRune z).length ≤ 4 := by
        intro z
        unfold Lib.encodeRune Lib.encodeRuneZ
        repeat' split
        all_goals simp
      have := he (f (Lib.decodeL l).1)
      split
      · omega
      · simp; omega
theorem hex_index (c : Int) (h0 : 0 ≤ c) (h1 : c ≤ 255) : Lib.indexByte [48, 49, 50, 51, 52, 53, 54, 55, 56, 57, 97, 98, 99, 100, 101, 102] c.toNat.toUInt8 = dv c := by
  have key : ∀ n : Fin 256, Lib.indexByte [48, 49, 50, 51, 52, 53, 54, 55, 56, 57, 97, 98, 99, 100, 101, 102] (n.val : Int).toNat.toUInt8 = dv (n.val : Int) := by decide +kernel
  obtain ⟨n, rfl⟩ : ∃ n : Nat, c = n := ⟨c.toNat, by omega⟩
  exact key ⟨n, by omega⟩
end Go.Proofs.YtjgpmfjkcioinaaGreatDoor.G
namespace Go.Proofs.YtjgpmfjkcioinaaGreatDoor.G
open Go.RowKit Go.Proofs.YtjgpmfjkcioinaaGreatDoorW.PrintWords Go.Proofs.YtjgpmfjkcioinaaGreatDoor.M
set_option linter.unusedVariables false
set_option linter.unusedSimpArgs false
structure TE (w : World) : Prop where
  u8 : Lib.Utf8Tabs 2 3 w
  cv : Lib.CaseVar 1 Lib.caseA w
theorem TE.low {w W : World} (h : TE w) (hb : Below w.heap.size w W) : TE W := ⟨Utf8Tabs_below h.u8 hb, Lib.CaseVar_below h.cv hb⟩
def hexAt (s : ByteArray) (i : Int) : Int := if i < 0 then -1 else hex4 (at_ s i)
def hexN (s : ByteArray) (i : Int) : Int := if 0 ≤ hexAt s i then hexAt s i else 0
def hexOk (s : ByteArray) (i : Int) : Bool := decide (0 ≤ hexAt s i)
theorem hex4_short {l : List Int} (h : l.length < 4) : hex4 l = -1 := by
  unfold hex4
  split
  · simp at h; omega
  · rfl
theorem hexAt_out (s : ByteArray) (i : Int) (h : i < 0 ∨ (s.size : Int) - 4 < i) : hexAt s i = -1 := by
  unfold hexAt
  split
  · rfl
  · apply hex4_short
    by_cases h1 : i ≤ s.size
    · have := at_length s i (by omega) h1; omega
    · rw [at_nil s i (by omega)]; simp
theorem four_at (s : ByteArray) (n : Nat) (h : n + 4 ≤ s.size) : ∃ a b c d : UInt8, (s.extract n (n + 4)).data.toList = [a, b, c, d] ∧ hexAt s n = hex4 [(a.toNat : Int), b.toNat, c.toNat, d.toNat] := by
  have hl : (s.extract n (n + 4)).data.toList.length = 4 := by simp; omega
  match hE : (s.extract n (n + 4)).data.toList, hl with
  | [a, b, c, d], _ =>
    refine ⟨a, b, c, d, rfl, ?_⟩
    have hb : by_ (s.extract n (n + 4)) = [(a.toNat : Int), b.toNat, c.toNat, d.toNat] := by unfold by_; rw [hE]; rfl
    rw [by_extract, List.drop_take, Nat.add_sub_cancel_left] at hb
    have h4 := hex4_take (l := (by_ s).drop n) (k := 4) (Nat.le_refl _)
    rw [hb] at h4
    unfold hexAt at_
    rw [if_neg (by omega), Int.toNat_natCast]
    exact h4.symm
set_option maxHeartbeats 400000 in
theorem hex_out (s : ByteArray) (i : Int) (w : World) (h : i < 0 ∨ (s.size : Int) - 4 < i) (hs : s.size ≤ 140737488351232) :
    Calls Tryz.prog 78 #[.string s, .int .i64 i] w fun e w' => e = .returned (.tuple #[.int .i64 0, .bool false]) ∧ Below w.heap.size w w' := by
  by_cases h0 : i < 0
  · clear h
    go_enter Tryz.func78, Tryz.ntmps78
    go_wp2
    go_ret2
    exact ⟨rfl, Below.refl _ _⟩
  · have h1 : (s.size : Int) - 4 < i := by omega
    clear h
    go_enter Tryz.func78, Tryz.ntmps78
    go_wp2
    go_ret2
    exact ⟨rfl, Below.refl _ _⟩
theorem hex_byte (c : Int) (W : World) (h0 : 0 ≤ c) (h1 : c ≤ 255) :
    Calls Tryz.prog 16 #[.string ⟨#[48, 49, 50, 51, 52, 53, 54, 55, 56, 57, 97, 98, 99, 100, 101, 102]⟩, .int .u8 c] W fun e w' => e = .returned (.int .i64 (dv c)) ∧ w' = W :=
  (Tryz.strings_IndexByte ⟨#[48, 49, 50, 51, 52, 53, 54, 55, 56, 57, 97, 98, 99, 100, 101, 102]⟩ c W).mono fun e w' ⟨he, hw⟩ => ⟨by rw [he]; exact ret_int (hex_index c h0 h1), hw⟩
def hres (H : Int) : Int := if 0 ≤ H then H else 0
def hok (H : Int) : Bool := decide (0 ≤ H)
theorem hres_yes {H : Int} (h : 0 ≤ H) : hres H = H ∧ hok H = true := ⟨if_pos h, decide_eq_true h⟩
theorem hres_no {H : Int} (h : H < 0) : hres H = 0 ∧ hok H = false := ⟨if_neg (by omega), decide_eq_false (by omega)⟩
theorem bt_getD (S : ByteArray) (j : Nat) (h : j < S.size) : bt S j = ((S.data.toList.getD j 0).toNat : Int) := by
  have h1 := bt_by S j (by simpa using h)
  rw [Int.toNat_natCast] at h1
  unfold by_ at h1
  rw [List.getElem?_map] at h1
  rw [List.getD_eq_getElem?_getD]
  cases hx : S.data.toList[j]? with
  | none => rw [hx] at h1; cases h1
  | some x => rw [hx] at h1; simpa using h1.symm
set_option maxHeartbeats 2000000 in
set_option maxRecDepth 100000 in
theorem hex_in (s : ByteArray) (n : Nat) (S : ByteArray) (H : Int) (w : World) (hn : n + 4 ≤ s.size) (hs : s.size ≤ 140737488351232)
    (hC : ∀ W, Below w.heap.size w W → Calls Tryz.prog 95 #[.string (s.extract n (n + 4))] W fun e w' => e = .returned (.string S) ∧ Below W.heap.size W w')
    (hS : S.size ≤ 16) (hH : Hid (hfold (by_ S) 0 = H)) (hH4 : Hid (0 ≤ H → S.size = 4)) (hstop : Hid (S.size = 4 ∨ ∃ p, p < 4 ∧ p < S.size ∧ dv (bt S p) = -1)) :
    Calls Tryz.prog 78 #[.string s, .int .i64 n] w fun e w' => e = .returned (.tuple #[.int .i64 (hres H), .bool (hok H)]) ∧ Below w.heap.size w w' := by
  have hcv := fun (W : World) => Lib.run_convert_string_bytes (P := Tryz.prog) W 9 55 5 S Tryz.underlying9 Tryz.underlying55 Tryz.underlying5
  have HC := Lib.hid hC
  clear hC
  go_enter Tryz.func78, Tryz.ntmps78
  go_wp2_with (go_at_call 95; refine (HC.out _ (Below.refl _ _)).mono ?_; rintro e w1 ⟨rfl, hb1⟩)
  have hcell : ∀ j, j < S.size → (Lib.bytesWorld w1 5 S).cell? ⟨w1.heap.size, j, none⟩ = some (.int .u8 (bt S j)) := fun j hj => by rw [bt_getD S j hj]; exact Lib.bytesWorld_cell w1 5 S j hj
  have hbW : Below w.heap.size w (Lib.bytesWorld w1 5 S) := hb1.trans (Joins.below_bytesWorld w.heap.size w1 5 S hb1.size)
  obtain ⟨W, hW⟩ : ∃ W, Lib.bytesWorld w1 5 S = W := ⟨_, rfl⟩
  rw [hW] at hcell hbW ⊢
  have HX := Lib.hid hcell
  clear hW hcv hcell
  go_loop [6, 27] (fun nv jv => ∃ (j : Nat) (m : Int), jv = .int .i64 j ∧ nv = .int .i64 m ∧ j ≤ S.size ∧ j ≤ 4 ∧ 0 ≤ m ∧ m < 65536 ∧ Hid (m < (16 : Int) ^ j) ∧ Hid (hfold (at_ S j) m = H) ∧ Hid (∀ q : Nat, q < j → 0 ≤ dv (bt S q)))
    (fun _ jv => S.size - (intOf jv).toNat)
  case atStart => exact ⟨0, 0, rfl, rfl, Nat.zero_le _, by omega, by omega, by omega, Lib.hid (by decide), Lib.hid (by rw [show ((0 : Nat) : Int) = 0 from rfl, at_zero]; exact hH.out), Lib.hid (fun q hq => by omega)⟩
  case round =>
    obtain ⟨j, m, rfl, rfl, hj, hj4, hm0, hm1, hmp, hfo, hall⟩ := hrel
    by_cases hlt : j < S.size
    · have hbr := bt_range S j
      have hx := HX.out j hlt
      have hcons := Lib.hid (at_cons S j (by omega) (by omega))
      obtain ⟨c, hc⟩ : ∃ c, bt S j = c := ⟨_, rfl⟩
      have HCc := Lib.hid hc
      rw [hc] at hx hbr hcons
      clear hc
      have hIc := fun (W : World) => hex_byte c W hbr.1 hbr.2
      have hdl := dv_le c
      by_cases hd : dv c < 0
      · have hH1 : H = -1 := by
          rw [← hfo.out, hcons.out]
          unfold hfold; rw [if_pos hd]
        obtain ⟨k, hk⟩ : ∃ k, dv c = k := ⟨_, rfl⟩
        rw [hk] at hIc hd hdl
        clear hk hcons HCc
        have HH := Lib.hid hH1
        clear hH1
        go_wp2_with (go_at_call 16; refine (hIc _).mono ?_; rintro e w' ⟨rfl, rfl⟩)
        go_ret2
        rw [(hres_no (show H < 0 by have := HH.out; omega)).1, (hres_no (show H < 0 by have := HH.out; omega)).2]
        exact ⟨rfl, hbW⟩
      · have hfo2 : hfold (at_ S ((j + 1 : Nat) : Int)) (m * 16 + dv c) = H := by
          have := hfo.out
          rw [hcons.out] at this
          unfold hfold at this
          rw [if_neg hd] at this
          exact this
        have hj5 : j + 1 ≤ 4 := by
          rcases hstop.out with h | ⟨p, h1, h2, h3⟩
          · omega
          · have : j < p := by
              rcases Nat.lt_trichotomy j p with q | q | q
              · exact q
              · subst q; rw [HCc.out] at h3; omega
              · have := hall.out p q; omega
            omega
        have hp2 : m * 16 + dv c < (16 : Int) ^ (j + 1) := by
          have := hmp.out
          rw [Int.pow_succ]; omega
        have hall2 : ∀ q : Nat, q < j + 1 → 0 ≤ dv (bt S q) := fun q hq => by
          rcases (show q < j ∨ q = j by omega) with h | rfl
          · exact hall.out q h
          · rw [HCc.out]; omega
        obtain ⟨k, hk⟩ : ∃ k, dv c = k := ⟨_, rfl⟩
        rw [hk] at hIc hd hdl hfo2 hp2
        have hm2 : m * 16 + k < 65536 := by
          have : (16 : Int) ^ (j + 1) ≤ 65536 := by
            rcases (show j = 0 ∨ j = 1 ∨ j = 2 ∨ j = 3 by omega) with rfl | rfl | rfl | rfl <;> decide
          omega
        have F1 := Lib.hid hfo2
        have F2 := Lib.hid hp2
        have F3 := Lib.hid hall2
        clear hk hcons HCc hfo2 hp2 hall2
        go_wp2_with (go_at_call 16; refine (hIc _).mono ?_; rintro e w' ⟨rfl, rfl⟩)
        go_round
        case rel => exact ⟨j + 1, m * 16 + k, by go_num, rfl, by omega, hj5, by omega, hm2, F2, F1, F3⟩
        case measure => simp [intOf]; omega
    · obtain rfl : j = S.size := by omega
      have hHm : H = m := by rw [← hfo.out, at_nil S _ (by omega)]; rfl
      have hs4 : S.size = 4 := hH4.out (by omega)
      have he4 : ((S.size : Int) == 4) = true := by rw [beq_iff_eq]; omega
      have HH := Lib.hid hHm
      have H4 := Lib.hid hs4
      clear hHm hs4
      go_wp2_with (go_at_call 95; refine (HC.out _ hbW).mono ?_; rintro e w2 ⟨rfl, hb2⟩)
      go_ret2
      rw [HH.out, (hres_yes hm0).1, (hres_yes hm0).2]
      exact ⟨rfl, hbW.trans (hb2.mono hbW.size)⟩
theorem hex_any (s : ByteArray) (i : Int) (w : World) (hs : s.size ≤ 140737488351232) (hT : TE w) :
    Calls Tryz.prog 78 #[.string s, .int .i64 i] w fun e w' => e = .returned (.tuple #[.int .i64 (hexN s i), .bool (hexOk s i)]) ∧ Below w.heap.size w w' := by
  by_cases ho : i < 0 ∨ (s.size : Int) - 4 < i
  · have h := hexAt_out s i ho
    have e1 : hexN s i = 0 := by unfold hexN; rw [h]; rfl
    have e2 : hexOk s i = false := by unfold hexOk; rw [h]; rfl
    rw [e1, e2]
    exact hex_out s i w ho hs
  · obtain ⟨n, rfl⟩ : ∃ n : Nat, i = n := ⟨i.toNat, by omega⟩
    obtain ⟨a, b, c, d, e, h4⟩ := four_at s n (by omega)
    obtain ⟨f1, f2⟩ := lower_four a b c d
    rw [← h4] at f1 f2
    have hby : by_ ⟨(Lib.toLowerD [a, b, c, d]).toArray⟩ = (Lib.toLowerD [a, b, c, d]).map fun x => (x.toNat : Int) := by simp [by_]
    have hsz : (⟨(Lib.toLowerD [a, b, c, d]).toArray⟩ : ByteArray).size = (Lib.toLowerD [a, b, c, d]).length := by simp [ByteArray.size]
    have hlen : (Lib.toLowerD [a, b, c, d]).length ≤ 16 := by
      have := mapD_len Lib.toLowerU 4 [a, b, c, d] (by simp)
      exact this
    refine hex_in s n ⟨(Lib.toLowerD [a, b, c, d]).toArray⟩ (hexAt s n) w (by omega) hs ?_ (by omega) (Lib.hid (by rw [hby]; exact f1)) (Lib.hid (by rw [hsz]; exact f2)) (Lib.hid ?_)
    · intro W hb
      have hT' := hT.low hb
      have := Tryz.strings_ToLower_any (s.extract n (n + 4)) W (by simp; omega) hT'.cv hT'.u8
      rw [e] at this
      exact this
    · rw [hsz]
      rcases lower_stops a b c d with h | ⟨p, h1, h2, h3⟩
      · exact .inl h
      · refine .inr ⟨p, h1, h2, ?_⟩
        rw [bt_getD _ _ (by rw [hsz]; exact h2)]
        exact h3
end Go.Proofs.YtjgpmfjkcioinaaGreatDoor.G
