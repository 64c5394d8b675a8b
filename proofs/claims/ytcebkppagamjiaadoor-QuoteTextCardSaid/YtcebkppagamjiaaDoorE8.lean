/-
  Small letters: what 'strings.ToLower' makes of four bytes, read as a code. Plain Lean, over Go's own table of cases.
  'text.Hex', 'text.has': the walks; the world holds the library's tables.
  'text.escape': what begins with a backslash: each way through it.
  'text.escape': all its ways in one.
  'text.tried': what some way tells, or where it goes wrong.
  'text.Escape': that of what begins with a backslash.
  'text.String': the way through a string.
  'text.String': the walk.
  text: 'String', 'Escape', 'Hex', as the laws' texts call them; the tables that the cards lay.
-/
import Derived.Test.YtcebkppagamjiaaDoorV1
import Derived.Test.YtcebkppagamjiaaDoorT1
import Derived.Lib.MapLaws
import Derived.Lib.CaseU
import Derived.Shelf.Strings.CaseAny
import Derived.Lib.ConvBytes
import Derived.Lib.SmallJoins
import Derived.OneCell
import Derived.Recover
import Derived.WalkLawsBesides
import Derived.Defers
import Derived.Tactics2
import Derived.RegionTactic
import Derived.ChangeAlike
import Derived.OwnWalk
import Derived.Test.YtcebkppagamjiaaDoorV2
import Derived.Maps.AppendAt
import Derived.LoopTactic
import Derived.Test.YtcebkppagamjiaaDoorV3
import Derived.Test.YtcebkppagamjiaaDoorRows
import Derived.Lib.LaidU8
import Derived.Lib.LaidCase
import Derived.LaidMore
namespace Go.Proofs.YtcebkppagamjiaaDoor.G
open Go.RowKit Go.Proofs.YtcebkppagamjiaaDoorW.PrintWords Go.Proofs.YtcebkppagamjiaaDoor.M
set_option linter.unusedVariables false
set_option linter.unusedSimpArgs false

/-- What a small sign of a code is worth. -/
def dv (c : Int) : Int := if 48 ≤ c ∧ c ≤ 57 then c - 48 else if 97 ≤ c ∧ c ≤ 102 then c - 87 else -1
theorem dv_le (c : Int) : -1 ≤ dv c ∧ dv c ≤ 15 := by
  unfold dv
  repeat' split
  all_goals omega
def rowOk (x : Lib.CaseRow) : Bool :=
  decide (x.2.1 < 128) || (decide (x.2.2.2.1 > 1114111) && decide (128 ≤ x.1)) || (decide (x.2.2.2.1 ≤ 1114111) && decide (128 ≤ x.1) && decide (103 ≤ (x.1 : Int) + x.2.2.2.1))
theorem rows_ok : Lib.caseT.all rowOk = true := by decide +kernel
theorem lookup_in (T : Array Lib.CaseRow) (r : Int) : ∀ (f lo hi i : Nat), hi ≤ T.size → Lib.lookupIdx T r f lo hi = some i → i < T.size ∧ ((T.getD i (0, 0, 0, 0, 0)).1 : Int) ≤ r ∧ r ≤ ((T.getD i (0, 0, 0, 0, 0)).2.1 : Int)
  | 0, lo, hi, i, hh, h => by simp [Lib.lookupIdx] at h
  | f + 1, lo, hi, i, hh, h => by
    unfold Lib.lookupIdx at h
    split at h
    · rename_i hlt
      split at h
      · rename_i hc
        cases h
        exact ⟨by omega, hc⟩
      · split at h
        · exact lookup_in T r f _ _ i (by omega) h
        · exact lookup_in T r f _ _ i hh h
    · cases h
/-- What is beyond 127 becomes no sign of a code. -/
theorem lower_high (r : Int) (h : 128 ≤ r) : 103 ≤ Lib.toLowerU r := by
  unfold Lib.toLowerU
  rw [if_neg (by omega)]
  unfold Lib.toR Lib.lookupGo
  cases hx : Lib.lookupIdx Lib.caseA r (Lib.caseA.size + 1) 0 Lib.caseA.size with
  | none => simp only [Option.map_none]; omega
  | some i =>
    obtain ⟨h1, h2, h3⟩ := lookup_in Lib.caseA r _ _ _ i (Nat.le_refl _) hx
    have hok : rowOk (Lib.caseA.getD i (0, 0, 0, 0, 0)) = true := by
      have := rows_ok
      rw [List.all_eq_true] at this
      apply this
      have e : Lib.caseA.getD i (0, 0, 0, 0, 0) = Lib.caseA[i] := by simp [Array.getD, h1]
      rw [e]
      simp [Lib.caseA]
    simp only [Option.map_some]
    obtain ⟨x, hxx⟩ : ∃ x, Lib.caseA.getD i (0, 0, 0, 0, 0) = x := ⟨_, rfl⟩
    rw [hxx] at h2 h3 hok ⊢
    unfold Lib.convertR
    simp only [rowOk, Bool.or_eq_true, Bool.and_eq_true, decide_eq_true_eq] at hok
    have hd : x.delta 1 = x.2.2.2.1 := rfl
    rw [hd]
    split
    · have := Int.emod_nonneg (r - x.1) (show (2 : Int) ≠ 0 by omega)
      omega
    · omega
theorem encodeRune_no (z : Int) (h : 103 ≤ z) : ∃ b m, Lib.encodeRune z = b :: m ∧ dv (b.toNat : Int) = -1 := by
  have key : ∀ (c : Int) (m : List Int), 103 ≤ c → c < 256 → Lib.encodeRuneZ z = c :: m → ∃ b m, Lib.encodeRune z = b :: m ∧ dv (b.toNat : Int) = -1 := by
    intro c m h0 h1 e
    refine ⟨c.toNat.toUInt8, m.map fun x => x.toNat.toUInt8, by unfold Lib.encodeRune; rw [e]; rfl, ?_⟩
    have : ((c.toNat.toUInt8.toNat : Nat) : Int) = c := by simp; omega
    rw [this]
    unfold dv
    rw [if_neg (by omega), if_neg (by omega)]
  unfold Lib.encodeRuneZ at key
  by_cases a : 0 ≤ z ∧ z ≤ 127
  · exact key z [] h (by omega) (by rw [if_pos a])
  · by_cases b : 128 ≤ z ∧ z ≤ 2047
    · exact key (192 + z / 64) _ (by omega) (by omega) (by rw [if_neg a, if_pos b])
    · by_cases c : (2048 ≤ z ∧ z < 55296) ∨ (57343 < z ∧ z ≤ 65535)
      · exact key (224 + z / 4096) _ (by omega) (by omega) (by rw [if_neg a, if_neg b, if_pos c])
      · by_cases d : 65536 ≤ z ∧ z ≤ 1114111
        · exact key (240 + z / 262144) _ (by omega) (by omega) (by rw [if_neg a, if_neg b, if_neg c, if_pos d])
        · exact key 239 _ (by omega) (by omega) (by rw [if_neg a, if_neg b, if_neg c, if_neg d])
theorem decodeL_high (b : UInt8) (t : List UInt8) (h : ¬ b.toNat < 128) : 128 ≤ (Lib.decodeL (b :: t)).1 := by
  rw [Lib.decodeL_N]
  have hb : ((b :: t).getD 0 0).toNat = b.toNat := rfl
  rw [hb]
  rcases Lib.decodeN_shape (b :: t).length b.toNat ((b :: t).getD 1 0).toNat ((b :: t).getD 2 0).toNat ((b :: t).getD 3 0).toNat with ⟨c, e⟩ | ⟨c1, c2, c3, cv, e⟩ | ⟨c1, c2, c3, c4, cv, cs, e⟩ | ⟨c1, c2, c3, c4, c5, cv, cw, e⟩ | e
  · omega
  all_goals (rw [e]; dsimp only; omega)
/-- Bytes, small. -/
def lowB (c : Int) : Int := if 65 ≤ c ∧ c ≤ 90 then c + 32 else c
theorem dv_low (c : Int) : dv (lowB c) = hexv c := by
  unfold dv lowB hexv
  repeat' split
  all_goals omega
theorem lowerD_low : ∀ (l : List UInt8), (∀ b ∈ l, b.toNat < 128) → (Lib.toLowerD l).map (fun b => (b.toNat : Int)) = l.map (fun b => lowB (b.toNat : Int))
  | [], _ => rfl
  | b :: t, h => by
    have hb := h b (by simp)
    have e : Lib.decodeL (b :: t) = (b.toNat, 1) := Lib.decodeL_ascii b t hb
    unfold Lib.toLowerD
    rw [Lib.mapD_step Lib.toLowerU (b :: t) (by simp), e]
    have ih := lowerD_low t (fun x hx => h x (by simp [hx]))
    unfold Lib.toLowerD at ih
    have hz : Lib.toLowerU ((b.toNat : Nat) : Int) = lowB b.toNat := by unfold Lib.toLowerU lowB; rw [if_pos (by omega)]
    have hr : 0 ≤ lowB b.toNat ∧ lowB b.toNat ≤ 127 := by unfold lowB; split <;> omega
    simp only [hz, List.drop_succ_cons, List.drop_zero]
    rw [if_pos hr.1, List.map_append, ih]
    unfold Lib.encodeRune
    rw [Lib.encodeRuneZ_one hr.1 hr.2]
    simp only [List.map_cons, List.map_nil, List.cons_append, List.nil_append, List.cons.injEq, and_true]
    simp; omega
theorem lowerD_high : ∀ (l : List UInt8), (∃ b ∈ l, ¬ b.toNat < 128) → ∃ p b, p < l.length ∧ (Lib.toLowerD l)[p]? = some b ∧ dv (b.toNat : Int) = -1
  | [], ⟨b, hb, _⟩ => by cases hb
  | c :: t, ⟨b, hb, hh⟩ => by
    unfold Lib.toLowerD
    rw [Lib.mapD_step Lib.toLowerU (c :: t) (by simp)]
    by_cases hc : c.toNat < 128
    · have e : Lib.decodeL (c :: t) = (c.toNat, 1) := Lib.decodeL_ascii c t hc
      rw [e]
      have hbt : b ∈ t := by
        rcases List.mem_cons.1 hb with rfl | h
        · exact absurd hc hh
        · exact h
      obtain ⟨p, x, hp, hx, hd⟩ := lowerD_high t ⟨b, hbt, hh⟩
      unfold Lib.toLowerD at hx
      have hz : Lib.toLowerU ((c.toNat : Nat) : Int) = lowB c.toNat := by unfold Lib.toLowerU lowB; rw [if_pos (by omega)]
      have hr : 0 ≤ lowB c.toNat ∧ lowB c.toNat ≤ 127 := by unfold lowB; split <;> omega
      simp only [hz, List.drop_succ_cons, List.drop_zero]
      rw [if_pos hr.1]
      unfold Lib.encodeRune
      rw [Lib.encodeRuneZ_one hr.1 hr.2]
      exact ⟨p + 1, x, by simp; omega, by simpa using hx, hd⟩
    · have h1 := decodeL_high c t hc
      have h2 := lower_high ((Lib.decodeL (c :: t)).1 : Int) (by omega)
      rw [if_pos (by omega)]
      obtain ⟨x, m, hx, hd⟩ := encodeRune_no _ h2
      rw [hx]
      exact ⟨0, x, by simp, by simp, hd⟩
/-- A row of signs, from a number on; -1, if one is none. -/
def hfold : List Int → Int → Int
  | [], n => n
  | c :: l, n => if dv c < 0 then -1 else hfold l (n * 16 + dv c)
theorem hfold_no : ∀ (l : List Int) (n : Int), (∃ c ∈ l, dv c < 0) → hfold l n = -1
  | [], n, ⟨c, hc, _⟩ => by cases hc
  | c :: l, n, ⟨d, hd, h⟩ => by
    unfold hfold
    by_cases hc : dv c < 0
    · rw [if_pos hc]
    · rw [if_neg hc]
      rcases List.mem_cons.1 hd with rfl | hd
      · exact absurd h hc
      · exact hfold_no l _ ⟨d, hd, h⟩
/-- Four bytes, small, as a code. -/
theorem lower_four (a b c d : UInt8) : hfold ((Lib.toLowerD [a, b, c, d]).map fun x => (x.toNat : Int)) 0 = hex4 [(a.toNat : Int), b.toNat, c.toNat, d.toNat] ∧ (0 ≤ hex4 [(a.toNat : Int), b.toNat, c.toNat, d.toNat] → (Lib.toLowerD [a, b, c, d]).length = 4) := by
  by_cases h : ∀ x ∈ [a, b, c, d], x.toNat < 128
  · have e := lowerD_low [a, b, c, d] h
    have hlen : (Lib.toLowerD [a, b, c, d]).length = 4 := by have := congrArg List.length e; simpa using this
    refine ⟨?_, fun _ => hlen⟩
    rw [e]
    simp only [List.map_cons, List.map_nil, hfold, dv_low, hex4]
    by_cases h1 : hexv a.toNat < 0
    · rw [if_pos h1, if_neg (by omega)]
    · rw [if_neg h1]
      by_cases h2 : hexv b.toNat < 0
      · rw [if_pos h2, if_neg (by omega)]
      · rw [if_neg h2]
        by_cases h3 : hexv c.toNat < 0
        · rw [if_pos h3, if_neg (by omega)]
        · rw [if_neg h3]
          by_cases h4 : hexv d.toNat < 0
          · rw [if_pos h4, if_neg (by omega)]
          · rw [if_neg h4, if_pos (by omega)]; omega
  · have hx : ∃ x ∈ [a, b, c, d], ¬ x.toNat < 128 := by
      simpa only [Classical.not_forall, exists_prop] using h
    obtain ⟨p, y, _, hy, hd⟩ := lowerD_high [a, b, c, d] hx
    rw [hfold_no _ 0 ⟨(y.toNat : Int), List.mem_map.2 ⟨y, List.mem_of_getElem? hy, rfl⟩, by omega⟩]
    have hex : hex4 [(a.toNat : Int), b.toNat, c.toNat, d.toNat] = -1 := by
      unfold hex4
      simp only []
      rw [if_neg]
      obtain ⟨x, hx1, hx2⟩ := hx
      have hv : hexv (x.toNat : Int) = -1 := by unfold hexv; rw [if_neg (by omega), if_neg (by omega), if_neg (by omega)]
      simp only [List.mem_cons, List.not_mem_nil, or_false] at hx1
      rcases hx1 with rfl | rfl | rfl | rfl <;> omega
    rw [hex]
    exact ⟨rfl, fun h => absurd h (by decide)⟩
/-- Within four places there is one that is no sign, or there are four. -/
theorem lower_stops (a b c d : UInt8) : (Lib.toLowerD [a, b, c, d]).length = 4 ∨ ∃ p, p < 4 ∧ p < (Lib.toLowerD [a, b, c, d]).length ∧ dv ((Lib.toLowerD [a, b, c, d]).getD p 0).toNat = -1 := by
  by_cases h : ∀ x ∈ [a, b, c, d], x.toNat < 128
  · have e := lowerD_low [a, b, c, d] h
    exact .inl (by have := congrArg List.length e; simpa using this)
  · have hx : ∃ x ∈ [a, b, c, d], ¬ x.toNat < 128 := by
      simpa only [Classical.not_forall, exists_prop] using h
    obtain ⟨p, y, hp, hy, hd⟩ := lowerD_high [a, b, c, d] hx
    refine .inr ⟨p, hp, (List.getElem?_eq_some_iff.1 hy).1, ?_⟩
    rw [List.getD_eq_getElem?_getD, hy]; exact hd
theorem mapD_len (f : Int → Int) : ∀ (n : Nat) (l : List UInt8), l.length ≤ n → (Lib.mapD f l).length ≤ 4 * l.length
  | 0, l, h => by
    have : l = [] := List.eq_nil_of_length_eq_zero (by omega)
    subst this
    exact Nat.le_refl _
  | n + 1, l, h => by
    by_cases hl : l = []
    · subst hl; exact Nat.le_refl _
    · have hp := List.length_pos_iff.2 hl
      have hw := Lib.decodeL_width l
      have hle := Lib.decodeL_le l hl
      have ih := mapD_len f n (l.drop (Lib.decodeL l).2) (by rw [List.length_drop]; omega)
      rw [Lib.mapD_step f l hl, List.length_append]
      rw [List.length_drop] at ih
      have he : ∀ z, (Lib.encodeRune z).length ≤ 4 := by
        intro z
        unfold Lib.encodeRune Lib.encodeRuneZ
        repeat' split
        all_goals simp
      have := he (f (Lib.decodeL l).1)
      split
      · omega
      · simp; omega
theorem hex_index (c : Int) (h0 : 0 ≤ c) (h1 : c ≤ 255) : Lib.indexByte [48, 49, 50, 51, 52, 53, 54, 55, 56, 57, 97, 98, 99, 100, 101, 102] c.toNat.toUInt8 = dv c := by
  have key : ∀ n : Fin 256, Lib.indexByte [48, 49, 50, 51, 52, 53, 54, 55, 56, 57, 97, 98, 99, 100, 101, 102] (n.val : Int).toNat.toUInt8 = dv (n.val : Int) := by decide +kernel
  obtain ⟨n, rfl⟩ : ∃ n : Nat, c = n := ⟨c.toNat, by omega⟩
  exact key ⟨n, by omega⟩
end Go.Proofs.YtcebkppagamjiaaDoor.G
namespace Go.Proofs.YtcebkppagamjiaaDoor.G
open Go.RowKit Go.Proofs.YtcebkppagamjiaaDoorW.PrintWords Go.Proofs.YtcebkppagamjiaaDoor.M
set_option linter.unusedVariables false
set_option linter.unusedSimpArgs false

/-- The world holds utf8's tables and the table of cases. -/
structure TE (w : World) : Prop where
  u8 : Lib.Utf8Tabs 3 4 w
  cv : Lib.CaseVar 1 Lib.caseA w
theorem TE.low {w W : World} (h : TE w) (hb : Below w.heap.size w W) : TE W := ⟨Utf8Tabs_below h.u8 hb, Lib.CaseVar_below h.cv hb⟩

/-- A code at a place. -/
def hexAt (s : ByteArray) (i : Int) : Int := if i < 0 then -1 else hex4 (at_ s i)
def hexN (s : ByteArray) (i : Int) : Int := if 0 ≤ hexAt s i then hexAt s i else 0
def hexOk (s : ByteArray) (i : Int) : Bool := decide (0 ≤ hexAt s i)
theorem hexAt_le (s : ByteArray) (i : Int) : -1 ≤ hexAt s i ∧ hexAt s i ≤ 65535 := by
  unfold hexAt; split
  · omega
  · exact hex4_le _
theorem hexN_le (s : ByteArray) (i : Int) : 0 ≤ hexN s i ∧ hexN s i ≤ 65535 := by
  have := hexAt_le s i
  unfold hexN; split <;> omega
theorem hex4_short {l : List Int} (h : l.length < 4) : hex4 l = -1 := by
  unfold hex4
  split
  · simp at h; omega
  · rfl
theorem hexAt_out (s : ByteArray) (i : Int) (h : i < 0 ∨ (s.size : Int) - 4 < i) : hexAt s i = -1 := by
  unfold hexAt
  split
  · rfl
  · apply hex4_short
    by_cases h1 : i ≤ s.size
    · have := at_length s i (by omega) h1; omega
    · rw [at_nil s i (by omega)]; simp
/-- Four bytes at a place. -/
theorem four_at (s : ByteArray) (n : Nat) (h : n + 4 ≤ s.size) : ∃ a b c d : UInt8, (s.extract n (n + 4)).data.toList = [a, b, c, d] ∧ hexAt s n = hex4 [(a.toNat : Int), b.toNat, c.toNat, d.toNat] := by
  have hl : (s.extract n (n + 4)).data.toList.length = 4 := by simp; omega
  match hE : (s.extract n (n + 4)).data.toList, hl with
  | [a, b, c, d], _ =>
    refine ⟨a, b, c, d, rfl, ?_⟩
    have hb : by_ (s.extract n (n + 4)) = [(a.toNat : Int), b.toNat, c.toNat, d.toNat] := by unfold by_; rw [hE]; rfl
    rw [by_extract, List.drop_take, Nat.add_sub_cancel_left] at hb
    have h4 := hex4_take (l := (by_ s).drop n) (k := 4) (Nat.le_refl _)
    rw [hb] at h4
    unfold hexAt at_
    rw [if_neg (by omega), Int.toNat_natCast]
    exact h4.symm

set_option maxHeartbeats 400000 in
theorem hex_out (s : ByteArray) (i : Int) (w : World) (h : i < 0 ∨ (s.size : Int) - 4 < i) (hs : s.size ≤ 140737488351232) :
    Calls Tryd.prog 21 #[.string s, .int .i64 i] w fun e w' => e = .returned (.tuple #[.int .i64 0, .bool false]) ∧ Below w.heap.size w w' := by
  by_cases h0 : i < 0
  · clear h
    go_enter Tryd.func21, Tryd.ntmps21
    go_wp2
    go_ret2
    exact ⟨rfl, Below.refl _ _⟩
  · have h1 : (s.size : Int) - 4 < i := by omega
    clear h
    go_enter Tryd.func21, Tryd.ntmps21
    go_wp2
    go_ret2
    exact ⟨rfl, Below.refl _ _⟩

theorem hex_byte (c : Int) (W : World) (h0 : 0 ≤ c) (h1 : c ≤ 255) :
    Calls Tryd.prog 42 #[.string ⟨#[48, 49, 50, 51, 52, 53, 54, 55, 56, 57, 97, 98, 99, 100, 101, 102]⟩, .int .u8 c] W fun e w' => e = .returned (.int .i64 (dv c)) ∧ w' = W :=
  (Tryd.strings_IndexByte ⟨#[48, 49, 50, 51, 52, 53, 54, 55, 56, 57, 97, 98, 99, 100, 101, 102]⟩ c W).mono fun e w' ⟨he, hw⟩ => ⟨by rw [he]; exact ret_int (hex_index c h0 h1), hw⟩
def hres (H : Int) : Int := if 0 ≤ H then H else 0
def hok (H : Int) : Bool := decide (0 ≤ H)
theorem hres_yes {H : Int} (h : 0 ≤ H) : hres H = H ∧ hok H = true := ⟨if_pos h, decide_eq_true h⟩
theorem hres_no {H : Int} (h : H < 0) : hres H = 0 ∧ hok H = false := ⟨if_neg (by omega), decide_eq_false (by omega)⟩
theorem bt_getD (S : ByteArray) (j : Nat) (h : j < S.size) : bt S j = ((S.data.toList.getD j 0).toNat : Int) := by
  have h1 := bt_by S j (by simpa using h)
  rw [Int.toNat_natCast] at h1
  unfold by_ at h1
  rw [List.getElem?_map] at h1
  rw [List.getD_eq_getElem?_getD]
  cases hx : S.data.toList[j]? with
  | none => rw [hx] at h1; cases h1
  | some x => rw [hx] at h1; simpa using h1.symm

set_option maxHeartbeats 2000000 in
set_option maxRecDepth 100000 in
theorem hex_in (s : ByteArray) (n : Nat) (S : ByteArray) (H : Int) (w : World) (hn : n + 4 ≤ s.size) (hs : s.size ≤ 140737488351232)
    (hC : ∀ W, Below w.heap.size w W → Calls Tryd.prog 41 #[.string (s.extract n (n + 4))] W fun e w' => e = .returned (.string S) ∧ Below W.heap.size W w')
    (hS : S.size ≤ 16) (hH : Hid (hfold (by_ S) 0 = H)) (hH4 : Hid (0 ≤ H → S.size = 4)) (hstop : Hid (S.size = 4 ∨ ∃ p, p < 4 ∧ p < S.size ∧ dv (bt S p) = -1)) :
    Calls Tryd.prog 21 #[.string s, .int .i64 n] w fun e w' => e = .returned (.tuple #[.int .i64 (hres H), .bool (hok H)]) ∧ Below w.heap.size w w' := by
  have hcv := fun (W : World) => Lib.run_convert_string_bytes (P := Tryd.prog) W 9 33 5 S Tryd.underlying9 Tryd.underlying33 Tryd.underlying5
  have HC := Lib.hid hC
  clear hC
  go_enter Tryd.func21, Tryd.ntmps21
  go_wp2_with (go_at_call 41; refine (HC.out _ (Below.refl _ _)).mono ?_; rintro e w1 ⟨rfl, hb1⟩)
  have hcell : ∀ j, j < S.size → (Lib.bytesWorld w1 5 S).cell? ⟨w1.heap.size, j, none⟩ = some (.int .u8 (bt S j)) := fun j hj => by rw [bt_getD S j hj]; exact Lib.bytesWorld_cell w1 5 S j hj
  have hbW : Below w.heap.size w (Lib.bytesWorld w1 5 S) := hb1.trans (Joins.below_bytesWorld w.heap.size w1 5 S hb1.size)
  obtain ⟨W, hW⟩ : ∃ W, Lib.bytesWorld w1 5 S = W := ⟨_, rfl⟩
  rw [hW] at hcell hbW ⊢
  have HX := Lib.hid hcell
  clear hW hcv hcell
  go_loop [6, 27] (fun nv jv => ∃ (j : Nat) (m : Int), jv = .int .i64 j ∧ nv = .int .i64 m ∧ j ≤ S.size ∧ j ≤ 4 ∧ 0 ≤ m ∧ m < 65536 ∧ Hid (m < (16 : Int) ^ j) ∧ Hid (hfold (at_ S j) m = H) ∧ Hid (∀ q : Nat, q < j → 0 ≤ dv (bt S q)))
    (fun _ jv => S.size - (intOf jv).toNat)
  case atStart => exact ⟨0, 0, rfl, rfl, Nat.zero_le _, by omega, by omega, by omega, Lib.hid (by decide), Lib.hid (by rw [show ((0 : Nat) : Int) = 0 from rfl, at_zero]; exact hH.out), Lib.hid (fun q hq => by omega)⟩
  case round =>
    obtain ⟨j, m, rfl, rfl, hj, hj4, hm0, hm1, hmp, hfo, hall⟩ := hrel
    by_cases hlt : j < S.size
    · have hbr := bt_range S j
      have hx := HX.out j hlt
      have hcons := Lib.hid (at_cons S j (by omega) (by omega))
      obtain ⟨c, hc⟩ : ∃ c, bt S j = c := ⟨_, rfl⟩
      have HCc := Lib.hid hc
      rw [hc] at hx hbr hcons
      clear hc
      have hIc := fun (W : World) => hex_byte c W hbr.1 hbr.2
      have hdl := dv_le c
      by_cases hd : dv c < 0
      · have hH1 : H = -1 := by
          rw [← hfo.out, hcons.out]
          unfold hfold; rw [if_pos hd]
        obtain ⟨k, hk⟩ : ∃ k, dv c = k := ⟨_, rfl⟩
        rw [hk] at hIc hd hdl
        clear hk hcons HCc
        have HH := Lib.hid hH1
        clear hH1
        go_wp2_with (go_at_call 42; refine (hIc _).mono ?_; rintro e w' ⟨rfl, rfl⟩)
        go_ret2
        rw [(hres_no (show H < 0 by have := HH.out; omega)).1, (hres_no (show H < 0 by have := HH.out; omega)).2]
        exact ⟨rfl, hbW⟩
      · have hfo2 : hfold (at_ S ((j + 1 : Nat) : Int)) (m * 16 + dv c) = H := by
          have := hfo.out
          rw [hcons.out] at this
          unfold hfold at this
          rw [if_neg hd] at this
          exact this
        have hj5 : j + 1 ≤ 4 := by
          rcases hstop.out with h | ⟨p, h1, h2, h3⟩
          · omega
          · have : j < p := by
              rcases Nat.lt_trichotomy j p with q | q | q
              · exact q
              · subst q; rw [HCc.out] at h3; omega
              · have := hall.out p q; omega
            omega
        have hp2 : m * 16 + dv c < (16 : Int) ^ (j + 1) := by
          have := hmp.out
          rw [Int.pow_succ]; omega
        have hall2 : ∀ q : Nat, q < j + 1 → 0 ≤ dv (bt S q) := fun q hq => by
          rcases (show q < j ∨ q = j by omega) with h | rfl
          · exact hall.out q h
          · rw [HCc.out]; omega
        obtain ⟨k, hk⟩ : ∃ k, dv c = k := ⟨_, rfl⟩
        rw [hk] at hIc hd hdl hfo2 hp2
        have hm2 : m * 16 + k < 65536 := by
          have : (16 : Int) ^ (j + 1) ≤ 65536 := by
            rcases (show j = 0 ∨ j = 1 ∨ j = 2 ∨ j = 3 by omega) with rfl | rfl | rfl | rfl <;> decide
          omega
        have F1 := Lib.hid hfo2
        have F2 := Lib.hid hp2
        have F3 := Lib.hid hall2
        clear hk hcons HCc hfo2 hp2 hall2
        go_wp2_with (go_at_call 42; refine (hIc _).mono ?_; rintro e w' ⟨rfl, rfl⟩)
        go_round
        case rel => exact ⟨j + 1, m * 16 + k, by go_num, rfl, by omega, hj5, by omega, hm2, F2, F1, F3⟩
        case measure => simp [intOf]; omega
    · obtain rfl : j = S.size := by omega
      have hHm : H = m := by rw [← hfo.out, at_nil S _ (by omega)]; rfl
      have hs4 : S.size = 4 := hH4.out (by omega)
      have he4 : ((S.size : Int) == 4) = true := by rw [beq_iff_eq]; omega
      have HH := Lib.hid hHm
      have H4 := Lib.hid hs4
      clear hHm hs4
      go_wp2_with (go_at_call 41; refine (HC.out _ hbW).mono ?_; rintro e w2 ⟨rfl, hb2⟩)
      go_ret2
      rw [HH.out, (hres_yes hm0).1, (hres_yes hm0).2]
      exact ⟨rfl, hbW.trans (hb2.mono hbW.size)⟩

theorem hex_any (s : ByteArray) (i : Int) (w : World) (hs : s.size ≤ 140737488351232) (hT : TE w) :
    Calls Tryd.prog 21 #[.string s, .int .i64 i] w fun e w' => e = .returned (.tuple #[.int .i64 (hexN s i), .bool (hexOk s i)]) ∧ Below w.heap.size w w' := by
  by_cases ho : i < 0 ∨ (s.size : Int) - 4 < i
  · have h := hexAt_out s i ho
    have e1 : hexN s i = 0 := by unfold hexN; rw [h]; rfl
    have e2 : hexOk s i = false := by unfold hexOk; rw [h]; rfl
    rw [e1, e2]
    exact hex_out s i w ho hs
  · obtain ⟨n, rfl⟩ : ∃ n : Nat, i = n := ⟨i.toNat, by omega⟩
    obtain ⟨a, b, c, d, e, h4⟩ := four_at s n (by omega)
    obtain ⟨f1, f2⟩ := lower_four a b c d
    rw [← h4] at f1 f2
    have hby : by_ ⟨(Lib.toLowerD [a, b, c, d]).toArray⟩ = (Lib.toLowerD [a, b, c, d]).map fun x => (x.toNat : Int) := by simp [by_]
    have hsz : (⟨(Lib.toLowerD [a, b, c, d]).toArray⟩ : ByteArray).size = (Lib.toLowerD [a, b, c, d]).length := by simp [ByteArray.size]
    have hlen : (Lib.toLowerD [a, b, c, d]).length ≤ 16 := by
      have := mapD_len Lib.toLowerU 4 [a, b, c, d] (by simp)
      exact this
    refine hex_in s n ⟨(Lib.toLowerD [a, b, c, d]).toArray⟩ (hexAt s n) w (by omega) hs ?_ (by omega) (Lib.hid (by rw [hby]; exact f1)) (Lib.hid (by rw [hsz]; exact f2)) (Lib.hid ?_)
    · intro W hb
      have hT' := hT.low hb
      have := Tryd.strings_ToLower_any (s.extract n (n + 4)) W (by simp; omega) hT'.cv hT'.u8
      rw [e] at this
      exact this
    · rw [hsz]
      rcases lower_stops a b c d with h | ⟨p, h1, h2, h3⟩
      · exact .inl h
      · refine .inr ⟨p, h1, h2, ?_⟩
        rw [bt_getD _ _ (by rw [hsz]; exact h2)]
        exact h3
end Go.Proofs.YtcebkppagamjiaaDoor.G
namespace Go.Proofs.YtcebkppagamjiaaDoor.G
open Go.RowKit Go.Proofs.YtcebkppagamjiaaDoorW.PrintWords Go.Proofs.YtcebkppagamjiaaDoor.M
set_option linter.unusedVariables false
set_option linter.unusedSimpArgs false
attribute [local irreducible] Utf8.encode Utf8.decode

/-- Does a byte stand at a place? -/
def hasB (s : ByteArray) (i c : Int) : Bool := decide (0 ≤ i ∧ i < s.size ∧ bt s i = c)
set_option maxHeartbeats 400000 in
theorem has_any (s : ByteArray) (i c : Int) (w : World) :
    Calls Tryd.prog 34 #[.string s, .int .i64 i, .int .u8 c] w fun e w' => e = .returned (.bool (hasB s i c)) ∧ w' = w := by
  by_cases h0 : 0 ≤ i
  · by_cases h1 : i < s.size
    · obtain ⟨n, rfl⟩ : ∃ n : Nat, i = n := ⟨i.toNat, by omega⟩
      have hat : ∀ h : n < s.size, (((s[n]'h).toNat : Nat) : Int) = bt s n := fun h => bt_at s n h
      have hH : hasB s n c = (bt s n == c) := by
        unfold hasB; rw [Bool.eq_iff_iff, decide_eq_true_eq, beq_iff_eq]; omega
      obtain ⟨b, hb⟩ : ∃ b, bt s n = b := ⟨_, rfl⟩
      rw [hb] at hH
      simp only [hb] at hat
      rw [hH]
      clear hH hb
      go_enter Tryd.func34, Tryd.ntmps34
      go_wp2
      go_ret
      exact ⟨rfl, rfl⟩
    · have hH : hasB s i c = false := by unfold hasB; exact decide_eq_false (by omega)
      rw [hH]
      clear hH
      go_enter Tryd.func34, Tryd.ntmps34
      go_wp2
      go_ret
      exact ⟨rfl, rfl⟩
  · have hH : hasB s i c = false := by unfold hasB; exact decide_eq_false (by omega)
    rw [hH]
    clear hH
    go_enter Tryd.func34, Tryd.ntmps34
    go_wp2
    go_ret
    exact ⟨rfl, rfl⟩

/-- What goes wrong, where. -/
def Wrong (i : Int) : Ending := .panicked [{ v := .iface 41 (.int .i64 i), recovered := false }]
theorem wrong_is (i : Int) : Ending.panicked [{ v := .iface 41 (.int .i64 i), recovered := false }] = Wrong i := rfl
set_option maxHeartbeats 400000 in
theorem must_yes (p : Value) (w : World) :
    Calls Tryd.prog 57 #[.bool true, p] w fun e w' => e = .returned (.tuple #[]) ∧ w' = w := by
  go_enter Tryd.func57, Tryd.ntmps57
  go_wp2
  go_end0
  exact ⟨rfl, rfl⟩
set_option maxHeartbeats 400000 in
theorem must_no (B : Nat) (i : Int) (w : World) (hc : w.cell? ⟨B, 0, none⟩ = some (.int .i64 i)) :
    Calls Tryd.prog 57 #[.bool false, .pointer (some ⟨B, 0, none⟩)] w fun e w' => e = .panicked [{ v := .iface 41 (.int .i64 i), recovered := false }] ∧ w' = w := by
  go_enter Tryd.func57, Tryd.ntmps57
  go_wp2
  exact ⟨rfl, rfl, rfl⟩

/-- Which of the short letters a byte is; -1, if none. -/
def shIdx (c : Int) : Int := Lib.indexByte [34, 92, 47, 98, 102, 110, 114, 116] c.toNat.toUInt8
theorem sh_byte (c : Int) (W : World) :
    Calls Tryd.prog 42 #[.string ⟨#[34, 92, 47, 98, 102, 110, 114, 116]⟩, .int .u8 c] W fun e w' => e = .returned (.int .i64 (shIdx c)) ∧ w' = W :=
  Tryd.strings_IndexByte ⟨#[34, 92, 47, 98, 102, 110, 114, 116]⟩ c W
theorem sh_short (c : Int) (h0 : 0 ≤ c) (h1 : c ≤ 255) : (shIdx c = -1 ∧ short c = -1) ∨ ∃ k : Nat, k < 8 ∧ shIdx c = k ∧ 0 ≤ short c ∧ by_ ((⟨#[34, 92, 47, 8, 12, 10, 13, 9]⟩ : ByteArray).extract k (k + 1)) = [short c] := by
  have key : ∀ n : Fin 256, (shIdx (n.val : Int) = -1 ∧ short (n.val : Int) = -1) ∨ ∃ k : Fin 8, shIdx (n.val : Int) = (k.val : Int) ∧ 0 ≤ short (n.val : Int) ∧ by_ ((⟨#[34, 92, 47, 8, 12, 10, 13, 9]⟩ : ByteArray).extract k.val (k.val + 1)) = [short (n.val : Int)] := by decide +kernel
  obtain ⟨n, rfl⟩ : ∃ n : Nat, c = n := ⟨c.toNat, by omega⟩
  rcases key ⟨n, by omega⟩ with h | ⟨k, h⟩
  · exact .inl h
  · exact .inr ⟨k.val, k.isLt, h⟩

set_option maxHeartbeats 2000000 in
set_option maxRecDepth 100000 in
theorem esc_f1a (s : ByteArray) (i : Int) (w : World) (hs : s.size ≤ 1000000) (hT : TE w) (hH : hasB s i 92 = false) :
    Calls Tryd.prog 36 #[.string s, .int .i64 i] w fun e w' => e = Wrong i ∧ Below w.heap.size w w' := by
  have hb0 : Below w.heap.size w (w.alloc (.cells #[.int .i64 i] 3)) := (Below.refl _ w).alloc (Nat.le_refl _) _
  have hc0 : (w.alloc (.cells #[.int .i64 i] 3)).cell? ⟨w.heap.size, 0, none⟩ = some (.int .i64 i) := by simp
  go_enter Tryd.func36, Tryd.ntmps36
  go_wp2_with (first
    | (go_at_call 34; refine (has_any _ _ _ _).mono ?_; rintro e w' ⟨rfl, rfl⟩)
    | (go_at_call 57; with_reducible refine (must_yes _ _).mono ?_; rintro e w' ⟨rfl, rfl⟩)
    | (go_at_call 42; refine (sh_byte _ _).mono ?_; rintro e w' ⟨rfl, rfl⟩))
  refine (must_no w.heap.size i _ hc0).mono ?_
  rintro e w' ⟨rfl, rfl⟩
  exact ⟨rfl, rfl, hb0⟩

set_option maxHeartbeats 2000000 in
set_option maxRecDepth 100000 in
theorem esc_f1b (s : ByteArray) (n : Nat) (w : World) (hs : s.size ≤ 1000000) (hT : TE w) (hH : hasB s n 92 = true) (hn : n < s.size) (h1 : ¬ n + 1 < s.size) :
    Calls Tryd.prog 36 #[.string s, .int .i64 n] w fun e w' => e = Wrong n ∧ Below w.heap.size w w' := by
  have hb0 : Below w.heap.size w (w.alloc (.cells #[.int .i64 n] 3)) := (Below.refl _ w).alloc (Nat.le_refl _) _
  have hc0 : (w.alloc (.cells #[.int .i64 n] 3)).cell? ⟨w.heap.size, 0, none⟩ = some (.int .i64 n) := by simp
  have hd1 : decide ((n : Int) + 1 < (s.size : Int)) = false := decide_eq_false (by omega)
  go_enter Tryd.func36, Tryd.ntmps36
  go_wp2_with (first
    | (go_at_call 34; refine (has_any _ _ _ _).mono ?_; rintro e w' ⟨rfl, rfl⟩)
    | (go_at_call 57; with_reducible refine (must_yes _ _).mono ?_; rintro e w' ⟨rfl, rfl⟩)
    | (go_at_call 42; refine (sh_byte _ _).mono ?_; rintro e w' ⟨rfl, rfl⟩))
  refine (must_no w.heap.size n _ hc0).mono ?_
  rintro e w' ⟨rfl, rfl⟩
  exact ⟨rfl, rfl, hb0⟩

set_option maxHeartbeats 2000000 in
set_option maxRecDepth 100000 in
theorem esc_s1 (s : ByteArray) (n K : Nat) (b : Int) (w : World) (hs : s.size ≤ 1000000) (hT : TE w) (hH : hasB s n 92 = true) (h1 : n + 1 < s.size) (hat : ∀ h : n + 1 < s.size, (((s[n + 1]'h).toNat : Nat) : Int) = b) (hK : shIdx b = (K : Int)) (hK8 : K < 8) :
    Calls Tryd.prog 36 #[.string s, .int .i64 n] w fun e w' => e = .returned (.tuple #[.string ((⟨#[34, 92, 47, 8, 12, 10, 13, 9]⟩ : ByteArray).extract K (K + 1)), .int .i64 (n + 2)]) ∧ Below w.heap.size w w' := by
  have hb0 : Below w.heap.size w (w.alloc (.cells #[.int .i64 n] 3)) := (Below.refl _ w).alloc (Nat.le_refl _) _
  have hc0 : (w.alloc (.cells #[.int .i64 n] 3)).cell? ⟨w.heap.size, 0, none⟩ = some (.int .i64 n) := by simp
  have hd1 : decide ((n : Int) + 1 < (s.size : Int)) = true := decide_eq_true (by omega)
  go_enter Tryd.func36, Tryd.ntmps36
  go_wp2_with (first
    | (go_at_call 34; refine (has_any _ _ _ _).mono ?_; rintro e w' ⟨rfl, rfl⟩)
    | (go_at_call 57; with_reducible refine (must_yes _ _).mono ?_; rintro e w' ⟨rfl, rfl⟩)
    | (go_at_call 42; refine (sh_byte _ _).mono ?_; rintro e w' ⟨rfl, rfl⟩))
  go_quiet (fail)
  go_wp2
  go_ret2
  exact ⟨rfl, below_drawn hb0 _⟩

set_option maxHeartbeats 2000000 in
set_option maxRecDepth 100000 in
theorem esc_f2a (s : ByteArray) (n : Nat) (b N : Int) (ok : Bool) (w : World) (hs : s.size ≤ 1000000) (hT : TE w) (hH : hasB s n 92 = true) (h1 : n + 1 < s.size) (hat : ∀ h : n + 1 < s.size, (((s[n + 1]'h).toNat : Nat) : Int) = b) (hK : shIdx b = -1) (hN : hexN s (n + 2) = N) (hO : hexOk s (n + 2) = ok) (hU : hasB s (n + 1) 117 = false) :
    Calls Tryd.prog 36 #[.string s, .int .i64 n] w fun e w' => e = Wrong n ∧ Below w.heap.size w w' := by
  have hb0 : Below w.heap.size w (w.alloc (.cells #[.int .i64 n] 3)) := (Below.refl _ w).alloc (Nat.le_refl _) _
  have hc0 : (w.alloc (.cells #[.int .i64 n] 3)).cell? ⟨w.heap.size, 0, none⟩ = some (.int .i64 n) := by simp
  have hd1 : decide ((n : Int) + 1 < (s.size : Int)) = true := decide_eq_true (by omega)
  go_enter Tryd.func36, Tryd.ntmps36
  go_wp2_with (first
    | (go_at_call 34; refine (has_any _ _ _ _).mono ?_; rintro e w' ⟨rfl, rfl⟩)
    | (go_at_call 57; with_reducible refine (must_yes _ _).mono ?_; rintro e w' ⟨rfl, rfl⟩)
    | (go_at_call 42; refine (sh_byte _ _).mono ?_; rintro e w' ⟨rfl, rfl⟩)
    | (go_at_call 21; refine (hex_any _ _ _ (by omega) (hT.low (by assumption))).mono ?_; rintro e wx ⟨rfl, hbx⟩; have hb1 := hb0.trans (hbx.mono (by have := hb0.size; omega)); have hc1 := (hbx.cell (p := ⟨w.heap.size, 0, none⟩) (World.block_lt_of_cell? _ _ hc0)).trans hc0; clear hb0 hc0; have hb0 := hb1; have hc0 := hc1; clear hb1 hc1 hbx))
  refine (must_no w.heap.size n _ hc0).mono ?_
  rintro e w' ⟨rfl, rfl⟩
  exact ⟨rfl, rfl, hb0⟩

set_option maxHeartbeats 2000000 in
set_option maxRecDepth 100000 in
theorem esc_f2b (s : ByteArray) (n : Nat) (b N : Int) (w : World) (hs : s.size ≤ 1000000) (hT : TE w) (hH : hasB s n 92 = true) (h1 : n + 1 < s.size) (hat : ∀ h : n + 1 < s.size, (((s[n + 1]'h).toNat : Nat) : Int) = b) (hK : shIdx b = -1) (hN : hexN s (n + 2) = N) (hO : hexOk s (n + 2) = false) (hU : hasB s (n + 1) 117 = true) :
    Calls Tryd.prog 36 #[.string s, .int .i64 n] w fun e w' => e = Wrong n ∧ Below w.heap.size w w' := by
  have hb0 : Below w.heap.size w (w.alloc (.cells #[.int .i64 n] 3)) := (Below.refl _ w).alloc (Nat.le_refl _) _
  have hc0 : (w.alloc (.cells #[.int .i64 n] 3)).cell? ⟨w.heap.size, 0, none⟩ = some (.int .i64 n) := by simp
  have hd1 : decide ((n : Int) + 1 < (s.size : Int)) = true := decide_eq_true (by omega)
  go_enter Tryd.func36, Tryd.ntmps36
  go_wp2_with (first
    | (go_at_call 34; refine (has_any _ _ _ _).mono ?_; rintro e w' ⟨rfl, rfl⟩)
    | (go_at_call 57; with_reducible refine (must_yes _ _).mono ?_; rintro e w' ⟨rfl, rfl⟩)
    | (go_at_call 42; refine (sh_byte _ _).mono ?_; rintro e w' ⟨rfl, rfl⟩)
    | (go_at_call 21; refine (hex_any _ _ _ (by omega) (hT.low (by assumption))).mono ?_; rintro e wx ⟨rfl, hbx⟩; have hb1 := hb0.trans (hbx.mono (by have := hb0.size; omega)); have hc1 := (hbx.cell (p := ⟨w.heap.size, 0, none⟩) (World.block_lt_of_cell? _ _ hc0)).trans hc0; clear hb0 hc0; have hb0 := hb1; have hc0 := hc1; clear hb1 hc1 hbx))
  refine (must_no w.heap.size n _ hc0).mono ?_
  rintro e w' ⟨rfl, rfl⟩
  exact ⟨rfl, rfl, hb0⟩

set_option maxHeartbeats 2000000 in
set_option maxRecDepth 100000 in
theorem esc_s2a (s : ByteArray) (n : Nat) (b N : Int) (E : ByteArray) (w : World) (hs : s.size ≤ 1000000) (hT : TE w) (hH : hasB s n 92 = true) (h1 : n + 1 < s.size) (hat : ∀ h : n + 1 < s.size, (((s[n + 1]'h).toNat : Nat) : Int) = b) (hK : shIdx b = -1) (hN : hexN s (n + 2) = N) (hO : hexOk s (n + 2) = true) (hU : hasB s (n + 1) 117 = true) (hN0 : 0 ≤ N) (hN1 : N ≤ 65535) (hlo : N < 55296) (hE : Utf8.encode N = E) :
    Calls Tryd.prog 36 #[.string s, .int .i64 n] w fun e w' => e = .returned (.tuple #[.string E, .int .i64 (n + 6)]) ∧ Below w.heap.size w w' := by
  have hb0 : Below w.heap.size w (w.alloc (.cells #[.int .i64 n] 3)) := (Below.refl _ w).alloc (Nat.le_refl _) _
  have hc0 : (w.alloc (.cells #[.int .i64 n] 3)).cell? ⟨w.heap.size, 0, none⟩ = some (.int .i64 n) := by simp
  have hd1 : decide ((n : Int) + 1 < (s.size : Int)) = true := decide_eq_true (by omega)
  have hwr : IntKind.i32.wrap N = N := by simp [IntKind.wrap, IntKind.bits]; omega
  go_enter Tryd.func36, Tryd.ntmps36
  go_wp2_with (first
    | (go_at_call 34; refine (has_any _ _ _ _).mono ?_; rintro e w' ⟨rfl, rfl⟩)
    | (go_at_call 57; with_reducible refine (must_yes _ _).mono ?_; rintro e w' ⟨rfl, rfl⟩)
    | (go_at_call 42; refine (sh_byte _ _).mono ?_; rintro e w' ⟨rfl, rfl⟩)
    | (go_at_call 21; refine (hex_any _ _ _ (by omega) (hT.low (by assumption))).mono ?_; rintro e wx ⟨rfl, hbx⟩; have hb1 := hb0.trans (hbx.mono (by have := hb0.size; omega)); have hc1 := (hbx.cell (p := ⟨w.heap.size, 0, none⟩) (World.block_lt_of_cell? _ _ hc0)).trans hc0; clear hb0 hc0; have hb0 := hb1; have hc0 := hc1; clear hb1 hc1 hbx))
  go_quiet (fail)
  go_wp2
  go_ret2
  exact ⟨rfl, below_drawn hb0 _⟩

set_option maxHeartbeats 2000000 in
set_option maxRecDepth 100000 in
theorem esc_s2b (s : ByteArray) (n : Nat) (b N : Int) (E : ByteArray) (w : World) (hs : s.size ≤ 1000000) (hT : TE w) (hH : hasB s n 92 = true) (h1 : n + 1 < s.size) (hat : ∀ h : n + 1 < s.size, (((s[n + 1]'h).toNat : Nat) : Int) = b) (hK : shIdx b = -1) (hN : hexN s (n + 2) = N) (hO : hexOk s (n + 2) = true) (hU : hasB s (n + 1) 117 = true) (hN0 : 0 ≤ N) (hN1 : N ≤ 65535) (hlo : 57343 < N) (hE : Utf8.encode N = E) :
    Calls Tryd.prog 36 #[.string s, .int .i64 n] w fun e w' => e = .returned (.tuple #[.string E, .int .i64 (n + 6)]) ∧ Below w.heap.size w w' := by
  have hb0 : Below w.heap.size w (w.alloc (.cells #[.int .i64 n] 3)) := (Below.refl _ w).alloc (Nat.le_refl _) _
  have hc0 : (w.alloc (.cells #[.int .i64 n] 3)).cell? ⟨w.heap.size, 0, none⟩ = some (.int .i64 n) := by simp
  have hd1 : decide ((n : Int) + 1 < (s.size : Int)) = true := decide_eq_true (by omega)
  have hwr : IntKind.i32.wrap N = N := by simp [IntKind.wrap, IntKind.bits]; omega
  go_enter Tryd.func36, Tryd.ntmps36
  go_wp2_with (first
    | (go_at_call 34; refine (has_any _ _ _ _).mono ?_; rintro e w' ⟨rfl, rfl⟩)
    | (go_at_call 57; with_reducible refine (must_yes _ _).mono ?_; rintro e w' ⟨rfl, rfl⟩)
    | (go_at_call 42; refine (sh_byte _ _).mono ?_; rintro e w' ⟨rfl, rfl⟩)
    | (go_at_call 21; refine (hex_any _ _ _ (by omega) (hT.low (by assumption))).mono ?_; rintro e wx ⟨rfl, hbx⟩; have hb1 := hb0.trans (hbx.mono (by have := hb0.size; omega)); have hc1 := (hbx.cell (p := ⟨w.heap.size, 0, none⟩) (World.block_lt_of_cell? _ _ hc0)).trans hc0; clear hb0 hc0; have hb0 := hb1; have hc0 := hc1; clear hb1 hc1 hbx))
  go_quiet (fail)
  go_wp2
  go_ret2
  exact ⟨rfl, below_drawn hb0 _⟩

set_option maxHeartbeats 2000000 in
set_option maxRecDepth 100000 in
theorem esc_f3a (s : ByteArray) (n : Nat) (b N L : Int) (can : Bool) (w : World) (hs : s.size ≤ 1000000) (hT : TE w) (hH : hasB s n 92 = true) (h1 : n + 1 < s.size) (hat : ∀ h : n + 1 < s.size, (((s[n + 1]'h).toNat : Nat) : Int) = b) (hK : shIdx b = -1) (hN : hexN s (n + 2) = N) (hO : hexOk s (n + 2) = true) (hU : hasB s (n + 1) 117 = true) (hN0 : 0 ≤ N) (hN1 : N ≤ 65535) (hl1 : 55296 ≤ N) (hl2 : N ≤ 57343) (hL : hexN s (n + 8) = L) (hC : hexOk s (n + 8) = can) (hq : 56320 ≤ N) :
    Calls Tryd.prog 36 #[.string s, .int .i64 n] w fun e w' => e = Wrong n ∧ Below w.heap.size w w' := by
  have hb0 : Below w.heap.size w (w.alloc (.cells #[.int .i64 n] 3)) := (Below.refl _ w).alloc (Nat.le_refl _) _
  have hc0 : (w.alloc (.cells #[.int .i64 n] 3)).cell? ⟨w.heap.size, 0, none⟩ = some (.int .i64 n) := by simp
  have hd1 : decide ((n : Int) + 1 < (s.size : Int)) = true := decide_eq_true (by omega)
  have hn1 : ¬ N < 55296 := by omega
  have hn2 : ¬ 57343 < N := by omega
  have hq1 : decide (N < 56320) = false := decide_eq_false (by omega)
  go_enter Tryd.func36, Tryd.ntmps36
  go_wp2_with (first
    | (go_at_call 34; refine (has_any _ _ _ _).mono ?_; rintro e w' ⟨rfl, rfl⟩)
    | (go_at_call 57; with_reducible refine (must_yes _ _).mono ?_; rintro e w' ⟨rfl, rfl⟩)
    | (go_at_call 42; refine (sh_byte _ _).mono ?_; rintro e w' ⟨rfl, rfl⟩)
    | (go_at_call 21; refine (hex_any _ _ _ (by omega) (hT.low (by assumption))).mono ?_; rintro e wx ⟨rfl, hbx⟩; have hb1 := hb0.trans (hbx.mono (by have := hb0.size; omega)); have hc1 := (hbx.cell (p := ⟨w.heap.size, 0, none⟩) (World.block_lt_of_cell? _ _ hc0)).trans hc0; clear hb0 hc0; have hb0 := hb1; have hc0 := hc1; clear hb1 hc1 hbx))
  refine (must_no w.heap.size n _ hc0).mono ?_
  rintro e w' ⟨rfl, rfl⟩
  exact ⟨rfl, rfl, hb0⟩

set_option maxHeartbeats 2000000 in
set_option maxRecDepth 100000 in
theorem esc_f3b (s : ByteArray) (n : Nat) (b N L : Int) (can : Bool) (w : World) (hs : s.size ≤ 1000000) (hT : TE w) (hH : hasB s n 92 = true) (h1 : n + 1 < s.size) (hat : ∀ h : n + 1 < s.size, (((s[n + 1]'h).toNat : Nat) : Int) = b) (hK : shIdx b = -1) (hN : hexN s (n + 2) = N) (hO : hexOk s (n + 2) = true) (hU : hasB s (n + 1) 117 = true) (hN0 : 0 ≤ N) (hN1 : N ≤ 65535) (hl1 : 55296 ≤ N) (hl2 : N ≤ 57343) (hL : hexN s (n + 8) = L) (hC : hexOk s (n + 8) = can) (hq : N < 56320) (h6 : hasB s (n + 6) 92 = false) :
    Calls Tryd.prog 36 #[.string s, .int .i64 n] w fun e w' => e = Wrong n ∧ Below w.heap.size w w' := by
  have hb0 : Below w.heap.size w (w.alloc (.cells #[.int .i64 n] 3)) := (Below.refl _ w).alloc (Nat.le_refl _) _
  have hc0 : (w.alloc (.cells #[.int .i64 n] 3)).cell? ⟨w.heap.size, 0, none⟩ = some (.int .i64 n) := by simp
  have hd1 : decide ((n : Int) + 1 < (s.size : Int)) = true := decide_eq_true (by omega)
  have hn1 : ¬ N < 55296 := by omega
  have hn2 : ¬ 57343 < N := by omega
  have hq1 : decide (N < 56320) = true := decide_eq_true hq
  go_enter Tryd.func36, Tryd.ntmps36
  go_wp2_with (first
    | (go_at_call 34; refine (has_any _ _ _ _).mono ?_; rintro e w' ⟨rfl, rfl⟩)
    | (go_at_call 57; with_reducible refine (must_yes _ _).mono ?_; rintro e w' ⟨rfl, rfl⟩)
    | (go_at_call 42; refine (sh_byte _ _).mono ?_; rintro e w' ⟨rfl, rfl⟩)
    | (go_at_call 21; refine (hex_any _ _ _ (by omega) (hT.low (by assumption))).mono ?_; rintro e wx ⟨rfl, hbx⟩; have hb1 := hb0.trans (hbx.mono (by have := hb0.size; omega)); have hc1 := (hbx.cell (p := ⟨w.heap.size, 0, none⟩) (World.block_lt_of_cell? _ _ hc0)).trans hc0; clear hb0 hc0; have hb0 := hb1; have hc0 := hc1; clear hb1 hc1 hbx))
  refine (must_no w.heap.size n _ hc0).mono ?_
  rintro e w' ⟨rfl, rfl⟩
  exact ⟨rfl, rfl, hb0⟩

set_option maxHeartbeats 2000000 in
set_option maxRecDepth 100000 in
theorem esc_f3c (s : ByteArray) (n : Nat) (b N L : Int) (can : Bool) (w : World) (hs : s.size ≤ 1000000) (hT : TE w) (hH : hasB s n 92 = true) (h1 : n + 1 < s.size) (hat : ∀ h : n + 1 < s.size, (((s[n + 1]'h).toNat : Nat) : Int) = b) (hK : shIdx b = -1) (hN : hexN s (n + 2) = N) (hO : hexOk s (n + 2) = true) (hU : hasB s (n + 1) 117 = true) (hN0 : 0 ≤ N) (hN1 : N ≤ 65535) (hl1 : 55296 ≤ N) (hl2 : N ≤ 57343) (hL : hexN s (n + 8) = L) (hC : hexOk s (n + 8) = can) (hq : N < 56320) (h6 : hasB s (n + 6) 92 = true) (h7 : hasB s (n + 7) 117 = false) :
    Calls Tryd.prog 36 #[.string s, .int .i64 n] w fun e w' => e = Wrong n ∧ Below w.heap.size w w' := by
  have hb0 : Below w.heap.size w (w.alloc (.cells #[.int .i64 n] 3)) := (Below.refl _ w).alloc (Nat.le_refl _) _
  have hc0 : (w.alloc (.cells #[.int .i64 n] 3)).cell? ⟨w.heap.size, 0, none⟩ = some (.int .i64 n) := by simp
  have hd1 : decide ((n : Int) + 1 < (s.size : Int)) = true := decide_eq_true (by omega)
  have hn1 : ¬ N < 55296 := by omega
  have hn2 : ¬ 57343 < N := by omega
  have hq1 : decide (N < 56320) = true := decide_eq_true hq
  go_enter Tryd.func36, Tryd.ntmps36
  go_wp2_with (first
    | (go_at_call 34; refine (has_any _ _ _ _).mono ?_; rintro e w' ⟨rfl, rfl⟩)
    | (go_at_call 57; with_reducible refine (must_yes _ _).mono ?_; rintro e w' ⟨rfl, rfl⟩)
    | (go_at_call 42; refine (sh_byte _ _).mono ?_; rintro e w' ⟨rfl, rfl⟩)
    | (go_at_call 21; refine (hex_any _ _ _ (by omega) (hT.low (by assumption))).mono ?_; rintro e wx ⟨rfl, hbx⟩; have hb1 := hb0.trans (hbx.mono (by have := hb0.size; omega)); have hc1 := (hbx.cell (p := ⟨w.heap.size, 0, none⟩) (World.block_lt_of_cell? _ _ hc0)).trans hc0; clear hb0 hc0; have hb0 := hb1; have hc0 := hc1; clear hb1 hc1 hbx))
  refine (must_no w.heap.size n _ hc0).mono ?_
  rintro e w' ⟨rfl, rfl⟩
  exact ⟨rfl, rfl, hb0⟩

set_option maxHeartbeats 2000000 in
set_option maxRecDepth 100000 in
theorem esc_f3d (s : ByteArray) (n : Nat) (b N L : Int) (w : World) (hs : s.size ≤ 1000000) (hT : TE w) (hH : hasB s n 92 = true) (h1 : n + 1 < s.size) (hat : ∀ h : n + 1 < s.size, (((s[n + 1]'h).toNat : Nat) : Int) = b) (hK : shIdx b = -1) (hN : hexN s (n + 2) = N) (hO : hexOk s (n + 2) = true) (hU : hasB s (n + 1) 117 = true) (hN0 : 0 ≤ N) (hN1 : N ≤ 65535) (hl1 : 55296 ≤ N) (hl2 : N ≤ 57343) (hL : hexN s (n + 8) = L) (hC : hexOk s (n + 8) = false) (hq : N < 56320) (h6 : hasB s (n + 6) 92 = true) (h7 : hasB s (n + 7) 117 = true) :
    Calls Tryd.prog 36 #[.string s, .int .i64 n] w fun e w' => e = Wrong n ∧ Below w.heap.size w w' := by
  have hb0 : Below w.heap.size w (w.alloc (.cells #[.int .i64 n] 3)) := (Below.refl _ w).alloc (Nat.le_refl _) _
  have hc0 : (w.alloc (.cells #[.int .i64 n] 3)).cell? ⟨w.heap.size, 0, none⟩ = some (.int .i64 n) := by simp
  have hd1 : decide ((n : Int) + 1 < (s.size : Int)) = true := decide_eq_true (by omega)
  have hn1 : ¬ N < 55296 := by omega
  have hn2 : ¬ 57343 < N := by omega
  have hq1 : decide (N < 56320) = true := decide_eq_true hq
  go_enter Tryd.func36, Tryd.ntmps36
  go_wp2_with (first
    | (go_at_call 34; refine (has_any _ _ _ _).mono ?_; rintro e w' ⟨rfl, rfl⟩)
    | (go_at_call 57; with_reducible refine (must_yes _ _).mono ?_; rintro e w' ⟨rfl, rfl⟩)
    | (go_at_call 42; refine (sh_byte _ _).mono ?_; rintro e w' ⟨rfl, rfl⟩)
    | (go_at_call 21; refine (hex_any _ _ _ (by omega) (hT.low (by assumption))).mono ?_; rintro e wx ⟨rfl, hbx⟩; have hb1 := hb0.trans (hbx.mono (by have := hb0.size; omega)); have hc1 := (hbx.cell (p := ⟨w.heap.size, 0, none⟩) (World.block_lt_of_cell? _ _ hc0)).trans hc0; clear hb0 hc0; have hb0 := hb1; have hc0 := hc1; clear hb1 hc1 hbx))
  refine (must_no w.heap.size n _ hc0).mono ?_
  rintro e w' ⟨rfl, rfl⟩
  exact ⟨rfl, rfl, hb0⟩

set_option maxHeartbeats 2000000 in
set_option maxRecDepth 100000 in
theorem esc_f3e (s : ByteArray) (n : Nat) (b N L : Int) (w : World) (hs : s.size ≤ 1000000) (hT : TE w) (hH : hasB s n 92 = true) (h1 : n + 1 < s.size) (hat : ∀ h : n + 1 < s.size, (((s[n + 1]'h).toNat : Nat) : Int) = b) (hK : shIdx b = -1) (hN : hexN s (n + 2) = N) (hO : hexOk s (n + 2) = true) (hU : hasB s (n + 1) 117 = true) (hN0 : 0 ≤ N) (hN1 : N ≤ 65535) (hl1 : 55296 ≤ N) (hl2 : N ≤ 57343) (hL : hexN s (n + 8) = L) (hC : hexOk s (n + 8) = true) (hq : N < 56320) (h6 : hasB s (n + 6) 92 = true) (h7 : hasB s (n + 7) 117 = true) (hv : L < 56320) :
    Calls Tryd.prog 36 #[.string s, .int .i64 n] w fun e w' => e = Wrong n ∧ Below w.heap.size w w' := by
  have hb0 : Below w.heap.size w (w.alloc (.cells #[.int .i64 n] 3)) := (Below.refl _ w).alloc (Nat.le_refl _) _
  have hc0 : (w.alloc (.cells #[.int .i64 n] 3)).cell? ⟨w.heap.size, 0, none⟩ = some (.int .i64 n) := by simp
  have hd1 : decide ((n : Int) + 1 < (s.size : Int)) = true := decide_eq_true (by omega)
  have hn1 : ¬ N < 55296 := by omega
  have hn2 : ¬ 57343 < N := by omega
  have hq1 : decide (N < 56320) = true := decide_eq_true hq
  have hv1 : decide (56320 ≤ L) = false := decide_eq_false (by omega)
  go_enter Tryd.func36, Tryd.ntmps36
  go_wp2_with (first
    | (go_at_call 34; refine (has_any _ _ _ _).mono ?_; rintro e w' ⟨rfl, rfl⟩)
    | (go_at_call 57; with_reducible refine (must_yes _ _).mono ?_; rintro e w' ⟨rfl, rfl⟩)
    | (go_at_call 42; refine (sh_byte _ _).mono ?_; rintro e w' ⟨rfl, rfl⟩)
    | (go_at_call 21; refine (hex_any _ _ _ (by omega) (hT.low (by assumption))).mono ?_; rintro e wx ⟨rfl, hbx⟩; have hb1 := hb0.trans (hbx.mono (by have := hb0.size; omega)); have hc1 := (hbx.cell (p := ⟨w.heap.size, 0, none⟩) (World.block_lt_of_cell? _ _ hc0)).trans hc0; clear hb0 hc0; have hb0 := hb1; have hc0 := hc1; clear hb1 hc1 hbx))
  refine (must_no w.heap.size n _ hc0).mono ?_
  rintro e w' ⟨rfl, rfl⟩
  exact ⟨rfl, rfl, hb0⟩

set_option maxHeartbeats 2000000 in
set_option maxRecDepth 100000 in
theorem esc_f3f (s : ByteArray) (n : Nat) (b N L : Int) (w : World) (hs : s.size ≤ 1000000) (hT : TE w) (hH : hasB s n 92 = true) (h1 : n + 1 < s.size) (hat : ∀ h : n + 1 < s.size, (((s[n + 1]'h).toNat : Nat) : Int) = b) (hK : shIdx b = -1) (hN : hexN s (n + 2) = N) (hO : hexOk s (n + 2) = true) (hU : hasB s (n + 1) 117 = true) (hN0 : 0 ≤ N) (hN1 : N ≤ 65535) (hl1 : 55296 ≤ N) (hl2 : N ≤ 57343) (hL : hexN s (n + 8) = L) (hC : hexOk s (n + 8) = true) (hq : N < 56320) (h6 : hasB s (n + 6) 92 = true) (h7 : hasB s (n + 7) 117 = true) (hv : 57343 < L) :
    Calls Tryd.prog 36 #[.string s, .int .i64 n] w fun e w' => e = Wrong n ∧ Below w.heap.size w w' := by
  have hb0 : Below w.heap.size w (w.alloc (.cells #[.int .i64 n] 3)) := (Below.refl _ w).alloc (Nat.le_refl _) _
  have hc0 : (w.alloc (.cells #[.int .i64 n] 3)).cell? ⟨w.heap.size, 0, none⟩ = some (.int .i64 n) := by simp
  have hd1 : decide ((n : Int) + 1 < (s.size : Int)) = true := decide_eq_true (by omega)
  have hn1 : ¬ N < 55296 := by omega
  have hn2 : ¬ 57343 < N := by omega
  have hq1 : decide (N < 56320) = true := decide_eq_true hq
  have hv1 : decide (56320 ≤ L) = true := decide_eq_true (by omega)
  have hv2 : decide (L ≤ 57343) = false := decide_eq_false (by omega)
  go_enter Tryd.func36, Tryd.ntmps36
  go_wp2_with (first
    | (go_at_call 34; refine (has_any _ _ _ _).mono ?_; rintro e w' ⟨rfl, rfl⟩)
    | (go_at_call 57; with_reducible refine (must_yes _ _).mono ?_; rintro e w' ⟨rfl, rfl⟩)
    | (go_at_call 42; refine (sh_byte _ _).mono ?_; rintro e w' ⟨rfl, rfl⟩)
    | (go_at_call 21; refine (hex_any _ _ _ (by omega) (hT.low (by assumption))).mono ?_; rintro e wx ⟨rfl, hbx⟩; have hb1 := hb0.trans (hbx.mono (by have := hb0.size; omega)); have hc1 := (hbx.cell (p := ⟨w.heap.size, 0, none⟩) (World.block_lt_of_cell? _ _ hc0)).trans hc0; clear hb0 hc0; have hb0 := hb1; have hc0 := hc1; clear hb1 hc1 hbx))
  refine (must_no w.heap.size n _ hc0).mono ?_
  rintro e w' ⟨rfl, rfl⟩
  exact ⟨rfl, rfl, hb0⟩

set_option maxHeartbeats 2000000 in
set_option maxRecDepth 100000 in
theorem esc_s3 (s : ByteArray) (n : Nat) (b N L : Int) (E : ByteArray) (w : World) (hs : s.size ≤ 1000000) (hT : TE w) (hH : hasB s n 92 = true) (h1 : n + 1 < s.size) (hat : ∀ h : n + 1 < s.size, (((s[n + 1]'h).toNat : Nat) : Int) = b) (hK : shIdx b = -1) (hN : hexN s (n + 2) = N) (hO : hexOk s (n + 2) = true) (hU : hasB s (n + 1) 117 = true) (hN0 : 0 ≤ N) (hN1 : N ≤ 65535) (hl1 : 55296 ≤ N) (hl2 : N ≤ 57343) (hL : hexN s (n + 8) = L) (hC : hexOk s (n + 8) = true) (hq : N < 56320) (h6 : hasB s (n + 6) 92 = true) (h7 : hasB s (n + 7) 117 = true) (hv : 56320 ≤ L) (hv' : L ≤ 57343) (hE : Utf8.encode (65536 + (N - 55296) * 1024 + L - 56320) = E) :
    Calls Tryd.prog 36 #[.string s, .int .i64 n] w fun e w' => e = .returned (.tuple #[.string E, .int .i64 (n + 12)]) ∧ Below w.heap.size w w' := by
  have hb0 : Below w.heap.size w (w.alloc (.cells #[.int .i64 n] 3)) := (Below.refl _ w).alloc (Nat.le_refl _) _
  have hc0 : (w.alloc (.cells #[.int .i64 n] 3)).cell? ⟨w.heap.size, 0, none⟩ = some (.int .i64 n) := by simp
  have hd1 : decide ((n : Int) + 1 < (s.size : Int)) = true := decide_eq_true (by omega)
  have hn1 : ¬ N < 55296 := by omega
  have hn2 : ¬ 57343 < N := by omega
  have hq1 : decide (N < 56320) = true := decide_eq_true hq
  have hv1 : decide (56320 ≤ L) = true := decide_eq_true (by omega)
  have hv2 : decide (L ≤ 57343) = true := decide_eq_true (by omega)
  have hwr : IntKind.i32.wrap (65536 + (N - 55296) * 1024 + L - 56320) = 65536 + (N - 55296) * 1024 + L - 56320 := by simp [IntKind.wrap, IntKind.bits]; omega
  go_enter Tryd.func36, Tryd.ntmps36
  go_wp2_with (first
    | (go_at_call 34; refine (has_any _ _ _ _).mono ?_; rintro e w' ⟨rfl, rfl⟩)
    | (go_at_call 57; with_reducible refine (must_yes _ _).mono ?_; rintro e w' ⟨rfl, rfl⟩)
    | (go_at_call 42; refine (sh_byte _ _).mono ?_; rintro e w' ⟨rfl, rfl⟩)
    | (go_at_call 21; refine (hex_any _ _ _ (by omega) (hT.low (by assumption))).mono ?_; rintro e wx ⟨rfl, hbx⟩; have hb1 := hb0.trans (hbx.mono (by have := hb0.size; omega)); have hc1 := (hbx.cell (p := ⟨w.heap.size, 0, none⟩) (World.block_lt_of_cell? _ _ hc0)).trans hc0; clear hb0 hc0; have hb0 := hb1; have hc0 := hc1; clear hb1 hc1 hbx))
  go_quiet (fail)
  go_wp2
  go_ret2
  exact ⟨rfl, below_drawn hb0 _⟩

end Go.Proofs.YtcebkppagamjiaaDoor.G
namespace Go.Proofs.YtcebkppagamjiaaDoor.G
open Go.RowKit Go.Proofs.YtcebkppagamjiaaDoorW.PrintWords Go.Proofs.YtcebkppagamjiaaDoor.M
set_option linter.unusedVariables false
set_option linter.unusedSimpArgs false

/-- Bytes out of numbers. -/
def ba (l : List Int) : ByteArray := ⟨(l.map fun c => c.toNat.toUInt8).toArray⟩
theorem ba_nil : ba [] = ⟨#[]⟩ := rfl
theorem by_ba {l : List Int} (h : ∀ c ∈ l, 0 ≤ c ∧ c ≤ 255) : by_ (ba l) = l := by
  unfold ba
  rw [by_mk, List.map_map]
  conv => rhs; rw [← List.map_id l]
  refine List.map_congr_left fun c hc => ?_
  have := h c hc
  show ((c.toNat.toUInt8).toNat : Int) = c
  rw [UInt8.toNat_ofNat']
  omega
theorem ba_by (s : ByteArray) : ba (by_ s) = s := by
  refine by_inj (by_ba (by_range s))
theorem ba_append (a b : List Int) : ba (a ++ b) = ba a ++ ba b := by
  unfold ba
  apply ByteArray.ext
  rw [ByteArray.data_append]
  simp
theorem ba_size (l : List Int) : (ba l).size = l.length := by
  show ((l.map fun c => c.toNat.toUInt8).toArray).size = _
  simp

/-- What begins with a backslash at a place. -/
def escAt (s : ByteArray) (i : Int) : List Int × Nat := if i < 0 then ([], 0) else esc (at_ s i)
/-- How its reading ends. -/
def escE (s : ByteArray) (i : Int) : Ending := if (escAt s i).2 = 0 then Wrong i else .returned (.tuple #[.string (ba (escAt s i).1), .int .i64 (i + (escAt s i).2)])
theorem escAt_nat (s : ByteArray) (n : Nat) : escAt s n = esc (at_ s n) := if_neg (by omega)
theorem escE_no {s : ByteArray} {n : Nat} (h : esc (at_ s n) = ([], 0)) : escE s n = Wrong n := by
  unfold escE; rw [escAt_nat, h]; rfl
theorem escE_yes {s : ByteArray} {n : Nat} {t : List Int} {k : Nat} {K : Int} {E : ByteArray} (h : esc (at_ s n) = (t, k)) (hk : k ≠ 0) (hK : (n : Int) + k = K) (hE : by_ E = t) :
    escE s n = .returned (.tuple #[.string E, .int .i64 K]) := by
  unfold escE; rw [escAt_nat, h, if_neg hk, ← hE, ba_by, hK]
theorem gd (s : ByteArray) (n k : Nat) : (at_ s n).getD k 0 = if n + k < s.size then bt s ((n : Int) + k) else 0 := by
  have e : at_ s n = (by_ s).drop n := by unfold at_; rw [Int.toNat_natCast]
  rw [e, List.getD_eq_getElem?_getD, List.getElem?_drop]
  by_cases h : n + k < s.size
  · rw [if_pos h]
    have := bt_by s ((n : Int) + k) (by omega)
    rw [show ((n : Int) + k).toNat = n + k by omega] at this
    rw [this]; rfl
  · rw [if_neg h, List.getElem?_eq_none (by rw [by_length]; omega)]; rfl
theorem hasB_gd (s : ByteArray) (n k : Nat) (c : Int) (hc : 0 < c) : hasB s ((n : Int) + k) c = decide ((at_ s n).getD k 0 = c) := by
  unfold hasB
  rw [gd]
  by_cases h : n + k < s.size
  · rw [if_pos h]
    exact decide_eq_decide.2 ⟨fun q => q.2.2, fun q => ⟨by omega, by omega, q⟩⟩
  · rw [if_neg h, decide_eq_false (by omega), decide_eq_false (by omega)]
theorem hex_gd (s : ByteArray) (n k : Nat) : hexAt s ((n : Int) + k) = hex4 ((at_ s n).drop k) := by
  unfold hexAt
  rw [if_neg (by omega), at_add _ _ _ (by omega)]
theorem bt_range' (s : ByteArray) (n : Nat) (h : n < s.size) : 0 ≤ bt s n ∧ bt s n ≤ 255 := by
  have : (((s[n]'h).toNat : Nat) : Int) = bt s n := bt_at s n h
  have := (s[n]'h).toNat_lt
  omega
theorem esc_nat (s : ByteArray) (n : Nat) (w : World) (hs : s.size ≤ 1000000) (hT : TE w) :
    Calls Tryd.prog 36 #[.string s, .int .i64 n] w fun e w' => e = escE s n ∧ Below w.heap.size w w' := by
  have hlen : n ≤ s.size → ((at_ s n).length : Int) = s.size - n := fun h => at_length s n (by omega) (by omega)
  have hlen2 : s.size < n → (at_ s n).length = 0 := fun h => by rw [at_nil s n (by omega)]; rfl
  have g0 := hasB_gd s n 0 92 (by omega)
  rw [show (n : Int) + ((0 : Nat) : Int) = n by omega] at g0
  by_cases c0 : (at_ s n).getD 0 0 = 92
  · have g0' := g0.trans (decide_eq_true c0)
    have hn : n < s.size := by
      rw [gd] at c0
      by_cases q : n < s.size
      · exact q
      · rw [if_neg (by omega)] at c0; omega
    by_cases c1 : n + 1 < s.size
    · have hl1 : 1 < (at_ s n).length := by have := hlen (by omega); omega
      obtain ⟨b, hb⟩ : ∃ b, bt s ((n + 1 : Nat) : Int) = b := ⟨_, rfl⟩
      have hat : ∀ h : n + 1 < s.size, (((s[n + 1]'h).toNat : Nat) : Int) = b := fun h => by rw [← hb]; exact bt_at s ((n + 1 : Nat) : Int) h
      have hbr := bt_range' s (n + 1) c1
      rw [hb] at hbr
      have hg1 : (at_ s n).getD 1 0 = b := by rw [gd, if_pos c1, ← hb]; rfl
      have g1 : hasB s ((n : Int) + 1) 117 = decide (b = 117) := by rw [← hg1]; exact hasB_gd s n 1 117 (by omega)
      have g6 : hasB s ((n : Int) + 6) 92 = decide ((at_ s n).getD 6 0 = 92) := hasB_gd s n 6 92 (by omega)
      have g7 : hasB s ((n : Int) + 7) 117 = decide ((at_ s n).getD 7 0 = 117) := hasB_gd s n 7 117 (by omega)
      have x2 : hexAt s ((n : Int) + 2) = hex4 ((at_ s n).drop 2) := hex_gd s n 2
      have x8 : hexAt s ((n : Int) + 8) = hex4 ((at_ s n).drop 8) := hex_gd s n 8
      have hX2 := hex4_le ((at_ s n).drop 2)
      have hX8 := hex4_le ((at_ s n).drop 8)
      obtain ⟨N, eN⟩ : ∃ N, hex4 ((at_ s n).drop 2) = N := ⟨_, rfl⟩
      obtain ⟨L, eL⟩ : ∃ L, hex4 ((at_ s n).drop 8) = L := ⟨_, rfl⟩
      rw [eN] at x2 hX2
      rw [eL] at x8 hX8
      have n2 : hexN s ((n : Int) + 2) = if 0 ≤ N then N else 0 := by unfold hexN; rw [x2]
      have o2 : hexOk s ((n : Int) + 2) = decide (0 ≤ N) := by unfold hexOk; rw [x2]
      have n8 : hexN s ((n : Int) + 8) = if 0 ≤ L then L else 0 := by unfold hexN; rw [x8]
      have o8 : hexOk s ((n : Int) + 8) = decide (0 ≤ L) := by unfold hexOk; rw [x8]
      have E0 : esc (at_ s n) = if 0 ≤ short b then ([short b], 2) else if b = 117 ∧ 0 ≤ N then (if N < 55296 ∨ 57343 < N then (enc N, 6) else if N < 56320 ∧ (at_ s n).getD 6 0 = 92 ∧ (at_ s n).getD 7 0 = 117 ∧ 56320 ≤ L ∧ L ≤ 57343 then (enc (pairOf N L), 12) else ([], 0)) else ([], 0) := by
        unfold esc; rw [if_pos ⟨c0, hl1⟩, hg1, eN, eL]
      rcases sh_short b hbr.1 hbr.2 with ⟨k1, k2⟩ | ⟨k, k3, k4, k5, k6⟩
      · rw [if_neg (by omega)] at E0
        by_cases u : b = 117
        · have g1' := g1.trans (decide_eq_true u)
          by_cases v : 0 ≤ N
          · rw [if_pos ⟨u, v⟩] at E0
            rw [if_pos v] at n2
            have o2' := o2.trans (decide_eq_true v)
            by_cases l1 : N < 55296
            · rw [if_pos (.inl l1)] at E0
              have hv : isv N = true := by rw [isv_iff]; omega
              rw [escE_yes (E := Utf8.encode N) E0 (by omega) rfl (encode_by hv)]
              exact esc_s2a s n b N _ w hs hT g0' c1 hat k1 n2 o2' g1' v hX2.2 l1 rfl
            · by_cases l2 : 57343 < N
              · rw [if_pos (.inr l2)] at E0
                have hv : isv N = true := by rw [isv_iff]; omega
                rw [escE_yes (E := Utf8.encode N) E0 (by omega) rfl (encode_by hv)]
                exact esc_s2b s n b N _ w hs hT g0' c1 hat k1 n2 o2' g1' v hX2.2 l2 rfl
              · rw [if_neg (by omega)] at E0
                by_cases l3 : N < 56320
                · by_cases l4 : (at_ s n).getD 6 0 = 92
                  · have g6' := g6.trans (decide_eq_true l4)
                    by_cases l5 : (at_ s n).getD 7 0 = 117
                    · have g7' := g7.trans (decide_eq_true l5)
                      by_cases v2 : 0 ≤ L
                      · have o8' := o8.trans (decide_eq_true v2)
                        rw [if_pos v2] at n8
                        by_cases l6 : L < 56320
                        · rw [if_neg (by omega)] at E0
                          rw [escE_no E0]
                          exact esc_f3e s n b N L w hs hT g0' c1 hat k1 n2 o2' g1' v hX2.2 (by omega) (by omega) n8 o8' l3 g6' g7' l6
                        · by_cases l7 : 57343 < L
                          · rw [if_neg (by omega)] at E0
                            rw [escE_no E0]
                            exact esc_f3f s n b N L w hs hT g0' c1 hat k1 n2 o2' g1' v hX2.2 (by omega) (by omega) n8 o8' l3 g6' g7' l7
                          · rw [if_pos ⟨l3, l4, l5, by omega, by omega⟩] at E0
                            have hv : isv (pairOf N L) = true := by rw [isv_iff]; unfold pairOf; omega
                            rw [escE_yes (E := Utf8.encode (65536 + (N - 55296) * 1024 + L - 56320)) E0 (by omega) rfl (encode_by hv)]
                            exact esc_s3 s n b N L _ w hs hT g0' c1 hat k1 n2 o2' g1' v hX2.2 (by omega) (by omega) n8 o8' l3 g6' g7' (by omega) (by omega) rfl
                      · rw [if_neg (by omega)] at E0
                        rw [escE_no E0]
                        exact esc_f3d s n b N _ w hs hT g0' c1 hat k1 n2 o2' g1' v hX2.2 (by omega) (by omega) n8 (o8.trans (decide_eq_false v2)) l3 g6' g7'
                    · rw [if_neg (fun q => l5 q.2.2.1)] at E0
                      rw [escE_no E0]
                      exact esc_f3c s n b N _ _ w hs hT g0' c1 hat k1 n2 o2' g1' v hX2.2 (by omega) (by omega) rfl rfl l3 g6' (g7.trans (decide_eq_false l5))
                  · rw [if_neg (fun q => l4 q.2.1)] at E0
                    rw [escE_no E0]
                    exact esc_f3b s n b N _ _ w hs hT g0' c1 hat k1 n2 o2' g1' v hX2.2 (by omega) (by omega) rfl rfl l3 (g6.trans (decide_eq_false l4))
                · rw [if_neg (by omega)] at E0
                  rw [escE_no E0]
                  exact esc_f3a s n b N _ _ w hs hT g0' c1 hat k1 n2 o2' g1' v hX2.2 (by omega) (by omega) rfl rfl (by omega)
          · rw [if_neg (fun q => v q.2)] at E0
            rw [escE_no E0]
            exact esc_f2b s n b _ w hs hT g0' c1 hat k1 rfl (o2.trans (decide_eq_false v)) g1'
        · rw [if_neg (fun q => u q.1)] at E0
          rw [escE_no E0]
          exact esc_f2a s n b _ _ w hs hT g0' c1 hat k1 rfl rfl (g1.trans (decide_eq_false u))
      · rw [if_pos k5] at E0
        rw [escE_yes E0 (by omega) rfl k6]
        exact esc_s1 s n k b w hs hT g0' c1 hat k4 k3
    · have E0 : esc (at_ s n) = ([], 0) := by
        unfold esc; rw [if_neg (fun q => by have := hlen (by omega); omega)]
      rw [escE_no E0]
      exact esc_f1b s n w hs hT g0' hn c1
  · have E0 : esc (at_ s n) = ([], 0) := by
      unfold esc; rw [if_neg (fun q => c0 q.1)]
    rw [escE_no E0]
    exact esc_f1a s n w hs hT (g0.trans (decide_eq_false c0))
theorem esc_any (s : ByteArray) (i : Int) (w : World) (hs : s.size ≤ 1000000) (hT : TE w) :
    Calls Tryd.prog 36 #[.string s, .int .i64 i] w fun e w' => e = escE s i ∧ Below w.heap.size w w' := by
  by_cases h : 0 ≤ i
  · obtain ⟨n, rfl⟩ : ∃ n : Nat, i = n := ⟨i.toNat, by omega⟩
    exact esc_nat s n w hs hT
  · have e : escE s i = Wrong i := by
      have q : escAt s i = ([], 0) := if_pos (by omega)
      unfold escE; rw [q]; rfl
    rw [e]
    exact esc_f1a s i w hs hT (by unfold hasB; exact decide_eq_false (by omega))
end Go.Proofs.YtcebkppagamjiaaDoor.G
namespace Go.Proofs.YtcebkppagamjiaaDoor.G
open Go.RowKit Go.Proofs.YtcebkppagamjiaaDoorW.PrintWords Go.Proofs.YtcebkppagamjiaaDoor.M
set_option linter.unusedVariables false
set_option linter.unusedSimpArgs false
attribute [local irreducible] Utf8.encode Utf8.decode

theorem wrong_assert (i : Int) (w : World) : Sem.run Tryd.prog (Instr.typeAssert (.iface 41 (.int .i64 i)) 20 41 false) w = .ok (.int .i64 i) w := by
  first | kernel_rfl | rfl
set_option maxHeartbeats 1000000 in
theorem catch_yes (B : Nat) (t : ByteArray) (a i : Int) (b : Bool) (older : List PanicEntry) (w : World)
    (h0 : w.cell? ⟨B, 0, none⟩ = some (.string t)) (h1 : w.cell? ⟨B + 1, 0, none⟩ = some (.int .i64 a)) (h2 : w.cell? ⟨B + 2, 0, none⟩ = some (.bool b))
    (z0 : w.frozen? ⟨B, 0, none⟩ = false) (z1 : w.frozen? ⟨B + 1, 0, none⟩ = false) (z2 : w.frozen? ⟨B + 2, 0, none⟩ = false) :
    CallsD Tryd.prog 55 #[.pointer (some ⟨B, 0, none⟩), .pointer (some ⟨B + 1, 0, none⟩), .pointer (some ⟨B + 2, 0, none⟩)] (.panicking ({ v := .iface 41 (.int .i64 i), recovered := false } :: older)) w fun e u' w' =>
      e = .returned (.tuple #[]) ∧ u' = .panicking ({ v := .iface 41 (.int .i64 i), recovered := true } :: older) ∧
      w'.cell? ⟨B, 0, none⟩ = some (.string ⟨#[]⟩) ∧ w'.cell? ⟨B + 1, 0, none⟩ = some (.int .i64 i) ∧ w'.cell? ⟨B + 2, 0, none⟩ = some (.bool false) ∧ Below B w w' := by
  have hta := wrong_assert i
  have q0 : (w.setCell ⟨B, 0, none⟩ (.string ⟨#[]⟩)).cell? ⟨B, 0, none⟩ = some (.string ⟨#[]⟩) := World.cell?_setCell_same _ _ _ h0
  have q1 : ((w.setCell ⟨B, 0, none⟩ (.string ⟨#[]⟩)).setCell ⟨B + 1, 0, none⟩ (.int .i64 i)).cell? ⟨B + 1, 0, none⟩ = some (.int .i64 i) := World.cell?_setCell_same _ _ _ (by rw [World.cell?_setCell_other _ _ _ _ (by simp)]; exact h1)
  have q2 : (((w.setCell ⟨B, 0, none⟩ (.string ⟨#[]⟩)).setCell ⟨B + 1, 0, none⟩ (.int .i64 i)).setCell ⟨B + 2, 0, none⟩ (.bool false)).cell? ⟨B + 2, 0, none⟩ = some (.bool false) := World.cell?_setCell_same _ _ _ (by rw [World.cell?_setCell_other _ _ _ _ (by simp), World.cell?_setCell_other _ _ _ _ (by simp)]; exact h2)
  have q3 : Below B w (((w.setCell ⟨B, 0, none⟩ (.string ⟨#[]⟩)).setCell ⟨B + 1, 0, none⟩ (.int .i64 i)).setCell ⟨B + 2, 0, none⟩ (.bool false)).drew :=
    ((((Below.refl _ w).setCell (p := ⟨B, 0, none⟩) (Nat.le_refl _) _).setCell (p := ⟨B + 1, 0, none⟩) (by show B ≤ B + 1; omega) _).setCell (p := ⟨B + 2, 0, none⟩) (by show B ≤ B + 2; omega) _).drew
  refine callsD_of_wpS Tryd.func55 rfl fun c₀ cs hu => ?_
  apply wpS_seq
  apply wpS_region
  simp [wpOpsS, go_sem, recoverD, hu, Tryd.ntmps55, Exit.thenS]
  apply wpS_seq
  apply wpS_region
  simp [wpOpsS, go_sem, Exit.thenS]
  refine wpS_cond (t := true) (by simp [Act.eval, Array.replicate]) ?_
  simp only [if_true]
  refine wpS_of_wp ?_
  go_region
  all_goals simp [bodyPostS, results, Tryd.results55, go_sem]
  all_goals exact ⟨q0, q1, q2, q3⟩

set_option maxHeartbeats 400000 in
theorem catch_no (args : Array Value) (w : World) (p q r : Value) :
    CallsD Tryd.prog 55 #[p, q, r] .returning w fun e u' w' => e = .returned (.tuple #[]) ∧ u' = .returning ∧ w' = w := by
  refine callsD_of_wpS Tryd.func55 rfl fun c₀ cs hu => ?_
  apply wpS_seq
  apply wpS_region
  simp [wpOpsS, go_sem, recoverD, hu, Tryd.ntmps55, Exit.thenS]
  apply wpS_seq
  apply wpS_region
  simp [wpOpsS, go_sem, Exit.thenS]
  refine wpS_cond (t := false) (by simp [Act.eval, Array.replicate]) ?_
  simp only [Bool.false_eq_true, if_false]
  refine wpS_of_wp (wp_skip ?_)
  cases c₀
  simp_all [bodyPostS, results, Tryd.results55]

/-- The three cells of 'tried'. -/
def W3 (w : World) : World := ((w.alloc (.cells #[.string ⟨#[]⟩] 9)).alloc (.cells #[.int .i64 0] 3)).alloc (.cells #[.bool false] 4)
structure Three (B : Nat) (W : World) : Prop where
  c0 : W.cell? ⟨B, 0, none⟩ = some (.string ⟨#[]⟩)
  c1 : W.cell? ⟨B + 1, 0, none⟩ = some (.int .i64 0)
  c2 : W.cell? ⟨B + 1 + 1, 0, none⟩ = some (.bool false)
  z0 : W.frozen? ⟨B, 0, none⟩ = false
  z1 : W.frozen? ⟨B + 1, 0, none⟩ = false
  z2 : W.frozen? ⟨B + 1 + 1, 0, none⟩ = false
theorem W3_is (w : World) : Three w.heap.size (W3 w) ∧ Below w.heap.size w (W3 w) ∧ (W3 w).heap.size = w.heap.size + 3 := by
  refine ⟨⟨?_, ?_, ?_, ?_, ?_, ?_⟩, ?_, ?_⟩
  · unfold W3; go_simp
  · unfold W3; go_simp
  · unfold W3; go_simp
  · unfold W3; go_simp
  · unfold W3; go_simp
  · unfold W3; go_simp
  · exact (((Below.refl _ w).alloc (Nat.le_refl _) _).alloc (by simp) _).alloc (by simp; omega) _
  · simp [W3]
theorem Three.low {B : Nat} {W W' : World} (h : Three B W) (hb : Below (B + 3) W W') : Three B W' :=
  ⟨(hb.cell (p := ⟨B, 0, none⟩) (by show B < B + 3; omega)).trans h.c0, (hb.cell (p := ⟨B + 1, 0, none⟩) (by show B + 1 < B + 3; omega)).trans h.c1, (hb.cell (p := ⟨B + 1 + 1, 0, none⟩) (by show B + 1 + 1 < B + 3; omega)).trans h.c2,
   (hb.frozen (p := ⟨B, 0, none⟩) (by show B < B + 3; omega)).trans h.z0, (hb.frozen (p := ⟨B + 1, 0, none⟩) (by show B + 1 < B + 3; omega)).trans h.z1, (hb.frozen (p := ⟨B + 1 + 1, 0, none⟩) (by show B + 1 + 1 < B + 3; omega)).trans h.z2⟩
/-- The world behind the stores. -/
def W5 (W1 : World) (B : Nat) (T : ByteArray) (I : Int) : World := (((((W1.setCell ⟨B, 0, none⟩ (.string T)).setCell ⟨B + 1, 0, none⟩ (.int .i64 I)).setCell ⟨B, 0, none⟩ (.string T)).setCell ⟨B + 1, 0, none⟩ (.int .i64 I)).setCell ⟨B + 1 + 1, 0, none⟩ (.bool true)).drew
theorem W5_is {W1 : World} {B : Nat} (T : ByteArray) (I : Int) {v0 v1 v2 : Value} (c0 : W1.cell? ⟨B, 0, none⟩ = some v0) (c1 : W1.cell? ⟨B + 1, 0, none⟩ = some v1) (c2 : W1.cell? ⟨B + 1 + 1, 0, none⟩ = some v2) :
    (W5 W1 B T I).cell? ⟨B, 0, none⟩ = some (.string T) ∧ (W5 W1 B T I).cell? ⟨B + 1, 0, none⟩ = some (.int .i64 I) ∧ (W5 W1 B T I).cell? ⟨B + 1 + 1, 0, none⟩ = some (.bool true) ∧ Below B W1 (W5 W1 B T I) := by
  have s : ∀ (W : World) (a : Addr) (v u : Value), W.cell? a = some u → (W.setCell a v).cell? a = some v := fun W a v u h => World.cell?_setCell_same W a v h
  have o : ∀ (W : World) (a b : Addr) (v : Value), a ≠ b → (W.setCell a v).cell? b = W.cell? b := fun W a b v h => World.cell?_setCell_other W a b v h
  have d : ∀ (W : World) (a : Addr), W.drew.cell? a = W.cell? a := fun _ _ => rfl
  have n01 : (⟨B, 0, none⟩ : Addr) ≠ ⟨B + 1, 0, none⟩ := by simp
  have n10 : (⟨B + 1, 0, none⟩ : Addr) ≠ ⟨B, 0, none⟩ := by simp
  have n02 : (⟨B, 0, none⟩ : Addr) ≠ ⟨B + 1 + 1, 0, none⟩ := by simp
  have n20 : (⟨B + 1 + 1, 0, none⟩ : Addr) ≠ ⟨B, 0, none⟩ := by simp
  have n12 : (⟨B + 1, 0, none⟩ : Addr) ≠ ⟨B + 1 + 1, 0, none⟩ := by simp
  have n21 : (⟨B + 1 + 1, 0, none⟩ : Addr) ≠ ⟨B + 1, 0, none⟩ := by simp
  refine ⟨?_, ?_, ?_, ?_⟩
  · unfold W5
    rw [d, o _ _ _ _ n20, o _ _ _ _ n10]
    exact s _ _ _ (.string T) (by rw [o _ _ _ _ n10]; exact s _ _ _ _ c0)
  · unfold W5
    rw [d, o _ _ _ _ n21]
    exact s _ _ _ (.int .i64 I) (by rw [o _ _ _ _ n01]; exact s _ _ _ _ (by rw [o _ _ _ _ n01]; exact c1))
  · unfold W5
    rw [d]
    exact s _ _ _ v2 (by rw [o _ _ _ _ n12, o _ _ _ _ n02, o _ _ _ _ n12, o _ _ _ _ n02]; exact c2)
  · exact ((((((Below.refl B W1).setCell (p := ⟨B, 0, none⟩) (Nat.le_refl _) _).setCell (p := ⟨B + 1, 0, none⟩) (by show B ≤ B + 1; omega) _).setCell (p := ⟨B, 0, none⟩) (Nat.le_refl _) _).setCell (p := ⟨B + 1, 0, none⟩) (by show B ≤ B + 1; omega) _).setCell (p := ⟨B + 1 + 1, 0, none⟩) (by show B ≤ B + 1 + 1; omega) _).drew
set_option maxHeartbeats 1000000 in
theorem tried_yes_e (p q : Value) (T : ByteArray) (I : Int) (w : World)
    (hway : ∀ W, Below w.heap.size w W → Calls Tryd.prog 38 #[p, q] W fun e w' => e = .returned (.tuple #[.string T, .int .i64 I]) ∧ Below W.heap.size W w') :
    Calls Tryd.prog 32 #[.func (.func 38) #[] #[p, q]] w fun e w' => e = .returned (.tuple #[.string T, .int .i64 I, .bool true]) ∧ Below w.heap.size w w' := by
  have hmf : ∀ (fn : Fn) (first cap : Array Value) (w : World), (Instr.makeFunc fn first cap).run Tryd.prog w = .ok (.func fn first cap) w := fun _ _ _ _ => rfl
  obtain ⟨h3, hb0, hz0⟩ := W3_is w
  go_enter_defers Tryd.func32, Tryd.ntmps32
  go_wp2_with (go_at_call 38; refine (hway (W3 w) hb0).mono ?_; rintro e W1 ⟨rfl, hb1⟩; have h4 := h3.low (by rw [← hz0]; exact hb1); have hb2 := hb0.trans (hb1.mono (by omega)); obtain ⟨c0, c1, c2, z0, z1, z2⟩ := h4; clear hb1 hb0)
  go_region
  all_goals go_wp2
  all_goals obtain ⟨k0, k1, k2, k3⟩ := W5_is T I c0 c1 c2
  all_goals refine leaves_cons (f := 55) (args := #[.pointer (some ⟨w.heap.size, 0, none⟩), .pointer (some ⟨w.heap.size + 1, 0, none⟩), .pointer (some ⟨w.heap.size + 1 + 1, 0, none⟩)]) (by simp) (by simp [go_sem]) ?_
  all_goals refine (catch_no #[] _ _ _ _).mono ?_
  all_goals rintro e u' w'' ⟨rfl, rfl, h5⟩
  all_goals change w'' = W5 W1 w.heap.size T I at h5
  all_goals subst h5
  all_goals simp [Leaves, settle, results, Tryd.results32, go_sem, k0, k1, k2]
  all_goals exact hb2.trans k3
set_option maxHeartbeats 1000000 in
theorem tried_no_e (p q : Value) (I : Int) (w : World)
    (hway : ∀ W, Below w.heap.size w W → Calls Tryd.prog 38 #[p, q] W fun e w' => e = Wrong I ∧ Below W.heap.size W w') :
    Calls Tryd.prog 32 #[.func (.func 38) #[] #[p, q]] w fun e w' => e = .returned (.tuple #[.string ⟨#[]⟩, .int .i64 I, .bool false]) ∧ Below w.heap.size w w' := by
  have hmf : ∀ (fn : Fn) (first cap : Array Value) (w : World), (Instr.makeFunc fn first cap).run Tryd.prog w = .ok (.func fn first cap) w := fun _ _ _ _ => rfl
  obtain ⟨h3, hb0, hz0⟩ := W3_is w
  go_enter_defers Tryd.func32, Tryd.ntmps32
  go_wp2_with (go_at_call 38; refine (hway (W3 w) hb0).mono ?_; rintro e W1 ⟨rfl, hb1⟩; have h4 := h3.low (by rw [← hz0]; exact hb1); have hb2 := hb0.trans (hb1.mono (by omega)); obtain ⟨c0, c1, c2, z0, z1, z2⟩ := h4; clear hb1 hb0; unfold Wrong)
  refine leaves_cons (f := 55) (args := #[.pointer (some ⟨w.heap.size, 0, none⟩), .pointer (some ⟨w.heap.size + 1, 0, none⟩), .pointer (some ⟨w.heap.size + 1 + 1, 0, none⟩)]) (by simp) (by simp [go_sem]) ?_
  refine (catch_yes w.heap.size _ _ I _ [] W1 c0 c1 c2 z0 z1 z2).mono ?_
  rintro e u' w'' ⟨rfl, rfl, k0, k1, k2, k3⟩
  simp [Leaves, settle, results, Tryd.results32, go_sem, k0, k1, k2]
  exact hb2.trans k3
set_option maxHeartbeats 1000000 in
theorem tried_yes_s (p q : Value) (T : ByteArray) (I : Int) (w : World)
    (hway : ∀ W, Below w.heap.size w W → Calls Tryd.prog 33 #[p, q] W fun e w' => e = .returned (.tuple #[.string T, .int .i64 I]) ∧ Below W.heap.size W w') :
    Calls Tryd.prog 32 #[.func (.func 33) #[] #[p, q]] w fun e w' => e = .returned (.tuple #[.string T, .int .i64 I, .bool true]) ∧ Below w.heap.size w w' := by
  have hmf : ∀ (fn : Fn) (first cap : Array Value) (w : World), (Instr.makeFunc fn first cap).run Tryd.prog w = .ok (.func fn first cap) w := fun _ _ _ _ => rfl
  obtain ⟨h3, hb0, hz0⟩ := W3_is w
  go_enter_defers Tryd.func32, Tryd.ntmps32
  go_wp2_with (go_at_call 33; refine (hway (W3 w) hb0).mono ?_; rintro e W1 ⟨rfl, hb1⟩; have h4 := h3.low (by rw [← hz0]; exact hb1); have hb2 := hb0.trans (hb1.mono (by omega)); obtain ⟨c0, c1, c2, z0, z1, z2⟩ := h4; clear hb1 hb0)
  go_region
  all_goals go_wp2
  all_goals obtain ⟨k0, k1, k2, k3⟩ := W5_is T I c0 c1 c2
  all_goals refine leaves_cons (f := 55) (args := #[.pointer (some ⟨w.heap.size, 0, none⟩), .pointer (some ⟨w.heap.size + 1, 0, none⟩), .pointer (some ⟨w.heap.size + 1 + 1, 0, none⟩)]) (by simp) (by simp [go_sem]) ?_
  all_goals refine (catch_no #[] _ _ _ _).mono ?_
  all_goals rintro e u' w'' ⟨rfl, rfl, h5⟩
  all_goals change w'' = W5 W1 w.heap.size T I at h5
  all_goals subst h5
  all_goals simp [Leaves, settle, results, Tryd.results32, go_sem, k0, k1, k2]
  all_goals exact hb2.trans k3
set_option maxHeartbeats 1000000 in
theorem tried_no_s (p q : Value) (I : Int) (w : World)
    (hway : ∀ W, Below w.heap.size w W → Calls Tryd.prog 33 #[p, q] W fun e w' => e = Wrong I ∧ Below W.heap.size W w') :
    Calls Tryd.prog 32 #[.func (.func 33) #[] #[p, q]] w fun e w' => e = .returned (.tuple #[.string ⟨#[]⟩, .int .i64 I, .bool false]) ∧ Below w.heap.size w w' := by
  have hmf : ∀ (fn : Fn) (first cap : Array Value) (w : World), (Instr.makeFunc fn first cap).run Tryd.prog w = .ok (.func fn first cap) w := fun _ _ _ _ => rfl
  obtain ⟨h3, hb0, hz0⟩ := W3_is w
  go_enter_defers Tryd.func32, Tryd.ntmps32
  go_wp2_with (go_at_call 33; refine (hway (W3 w) hb0).mono ?_; rintro e W1 ⟨rfl, hb1⟩; have h4 := h3.low (by rw [← hz0]; exact hb1); have hb2 := hb0.trans (hb1.mono (by omega)); obtain ⟨c0, c1, c2, z0, z1, z2⟩ := h4; clear hb1 hb0; unfold Wrong)
  refine leaves_cons (f := 55) (args := #[.pointer (some ⟨w.heap.size, 0, none⟩), .pointer (some ⟨w.heap.size + 1, 0, none⟩), .pointer (some ⟨w.heap.size + 1 + 1, 0, none⟩)]) (by simp) (by simp [go_sem]) ?_
  refine (catch_yes w.heap.size _ _ I _ [] W1 c0 c1 c2 z0 z1 z2).mono ?_
  rintro e u' w'' ⟨rfl, rfl, k0, k1, k2, k3⟩
  simp [Leaves, settle, results, Tryd.results32, go_sem, k0, k1, k2]
  exact hb2.trans k3
end Go.Proofs.YtcebkppagamjiaaDoor.G
namespace Go.Proofs.YtcebkppagamjiaaDoor.G
open Go.RowKit Go.Proofs.YtcebkppagamjiaaDoorW.PrintWords Go.Proofs.YtcebkppagamjiaaDoor.M
set_option linter.unusedVariables false
set_option linter.unusedSimpArgs false
attribute [local irreducible] Utf8.encode Utf8.decode

/-- What 'text.Escape' tells. -/
def EsT (s : ByteArray) (i : Int) : ByteArray := ba (escAt s i).1
def EsI (s : ByteArray) (i : Int) : Int := i + (escAt s i).2
def EsB (s : ByteArray) (i : Int) : Bool := decide ((escAt s i).2 ≠ 0)
theorem escAt_zero {s : ByteArray} {i : Int} (h : (escAt s i).2 = 0) : escAt s i = ([], 0) := by
  unfold escAt at h ⊢
  split
  · rfl
  · rename_i q; rw [if_neg q] at h; exact esc_zero h
set_option maxHeartbeats 400000 in
theorem escape1_yes (a b : Nat) (s : ByteArray) (i : Int) (w : World) (hs : s.size ≤ 1000000) (hT : TE w) (c0 : w.cell? ⟨a, 0, none⟩ = some (.string s)) (c1 : w.cell? ⟨b, 0, none⟩ = some (.int .i64 i)) (h : (escAt s i).2 ≠ 0) :
    Calls Tryd.prog 38 #[.pointer (some ⟨a, 0, none⟩), .pointer (some ⟨b, 0, none⟩)] w fun e w' => e = .returned (.tuple #[.string (EsT s i), .int .i64 (EsI s i)]) ∧ Below w.heap.size w w' := by
  have hE : escE s i = .returned (.tuple #[.string (EsT s i), .int .i64 (EsI s i)]) := if_neg h
  go_enter Tryd.func38, Tryd.ntmps38
  go_wp2_with (go_at_call 36; refine (esc_any s i w hs hT).mono ?_; rw [hE]; rintro e w1 ⟨rfl, hb1⟩)
  go_ret2
  exact ⟨rfl, hb1⟩
set_option maxHeartbeats 400000 in
theorem escape1_no (a b : Nat) (s : ByteArray) (i : Int) (w : World) (hs : s.size ≤ 1000000) (hT : TE w) (c0 : w.cell? ⟨a, 0, none⟩ = some (.string s)) (c1 : w.cell? ⟨b, 0, none⟩ = some (.int .i64 i)) (h : (escAt s i).2 = 0) :
    Calls Tryd.prog 38 #[.pointer (some ⟨a, 0, none⟩), .pointer (some ⟨b, 0, none⟩)] w fun e w' => e = Wrong i ∧ Below w.heap.size w w' := by
  have hE : escE s i = Wrong i := if_pos h
  go_enter Tryd.func38, Tryd.ntmps38
  go_wp2_with (go_at_call 36; refine (esc_any s i w hs hT).mono ?_; rw [hE]; rintro e w1 ⟨rfl, hb1⟩; unfold Wrong)
  exact ⟨rfl, rfl, hb1⟩
/-- The two boxes. -/
def WB (w : World) (s : ByteArray) (i : Int) : World := (w.alloc (.cells #[.string s] 9)).alloc (.cells #[.int .i64 i] 3)
theorem WB_is (w : World) (s : ByteArray) (i : Int) : (WB w s i).cell? ⟨w.heap.size, 0, none⟩ = some (.string s) ∧ (WB w s i).cell? ⟨w.heap.size + 1, 0, none⟩ = some (.int .i64 i) ∧ Below w.heap.size w (WB w s i) ∧ (WB w s i).heap.size = w.heap.size + 2 := by
  refine ⟨?_, ?_, ?_, ?_⟩
  · unfold WB; go_simp
  · unfold WB; go_simp
  · exact ((Below.refl _ w).alloc (Nat.le_refl _) _).alloc (by simp) _
  · simp [WB]
set_option maxHeartbeats 400000 in
theorem Escape_any (s : ByteArray) (i : Int) (w : World) (hs : s.size ≤ 1000000) (hT : TE w) :
    Calls Tryd.prog 19 #[.string s, .int .i64 i] w fun e w' => e = .returned (.tuple #[.string (EsT s i), .int .i64 (EsI s i), .bool (EsB s i)]) ∧ Below w.heap.size w w' := by
  have hmf : ∀ (fn : Fn) (first cap : Array Value) (w : World), (Instr.makeFunc fn first cap).run Tryd.prog w = .ok (.func fn first cap) w := fun _ _ _ _ => rfl
  obtain ⟨k0, k1, hb0, hz⟩ := WB_is w s i
  have key : Calls Tryd.prog 32 #[.func (.func 38) #[] #[.pointer (some ⟨w.heap.size, 0, none⟩), .pointer (some ⟨w.heap.size + 1, 0, none⟩)]] (WB w s i) fun e w' => e = .returned (.tuple #[.string (EsT s i), .int .i64 (EsI s i), .bool (EsB s i)]) ∧ Below (WB w s i).heap.size (WB w s i) w' := by
    by_cases h : (escAt s i).2 = 0
    · have e0 := escAt_zero h
      have e1 : EsT s i = ⟨#[]⟩ := by unfold EsT; rw [e0]; rfl
      have e2 : EsI s i = i := by unfold EsI; rw [e0]; exact Int.add_zero i
      have e3 : EsB s i = false := by unfold EsB; rw [e0]; rfl
      rw [e1, e2, e3]
      exact tried_no_e _ _ i _ fun W hW => escape1_no w.heap.size (w.heap.size + 1) s i W hs (hT.low (hb0.trans (hW.mono (by omega)))) ((hW.cell (by show w.heap.size < _; omega)).trans k0) ((hW.cell (by show w.heap.size + 1 < _; omega)).trans k1) h
    · have e3 : EsB s i = true := decide_eq_true h
      rw [e3]
      exact tried_yes_e _ _ _ _ _ fun W hW => escape1_yes w.heap.size (w.heap.size + 1) s i W hs (hT.low (hb0.trans (hW.mono (by omega)))) ((hW.cell (by show w.heap.size < _; omega)).trans k0) ((hW.cell (by show w.heap.size + 1 < _; omega)).trans k1) h
  go_enter Tryd.func19, Tryd.ntmps19
  go_wp2_with (go_at_call 32; refine key.mono ?_; rintro e w1 ⟨rfl, hb1⟩)
  go_ret3
  exact ⟨rfl, hb0.trans (hb1.mono (by omega))⟩
end Go.Proofs.YtcebkppagamjiaaDoor.G
namespace Go.Proofs.YtcebkppagamjiaaDoor.G
open Go.RowKit Go.Proofs.YtcebkppagamjiaaDoorW.PrintWords Go.Proofs.YtcebkppagamjiaaDoor.M
set_option linter.unusedVariables false
set_option linter.unusedSimpArgs false
attribute [local irreducible] Utf8.encode Utf8.decode

/-- Pieces, one behind the other. -/
def jn (ps : List ByteArray) : ByteArray := ⟨(Lib.join (ps.map (·.data.toList)) []).toArray⟩
theorem join_nil_sep : ∀ (l : List (List UInt8)), Lib.join l [] = l.flatten
  | [] => rfl
  | [x] => by simp [Lib.join]
  | x :: y :: m => by
    have ih := join_nil_sep (y :: m)
    unfold Lib.join List.intercalate at ih ⊢
    rw [List.intersperse_cons_cons, List.flatten_cons, List.flatten_cons, ih]
    simp
theorem by_jn (ps : List ByteArray) : by_ (jn ps) = ps.flatMap by_ := by
  unfold jn
  rw [by_mk, join_nil_sep]
  induction ps with
  | nil => rfl
  | cons p ps ih =>
    rw [List.map_cons, List.flatten_cons, List.map_append, ih, List.flatMap_cons]
    rfl
theorem join_any (base : Nat) (ao : Option Addr) (cv : Nat) (ps : List ByteArray) (w : World) (hown : w.ownsRow base 9 1 (.slice ao ps.length cv) ps.length (ps.map Value.string))
    (hN : ps.length ≤ 140737488355328) (hlen : (ps.flatMap by_).length ≤ 140737488355328) :
    Calls Tryd.prog 35 #[.slice ao ps.length cv, .string ⟨#[]⟩] w fun e w' => e = .returned (.string (jn ps)) ∧ Below w.heap.size w w' := by
  by_cases h0 : ps = []
  · subst h0
    exact (Tryd.strings_Join_none ao cv ⟨#[]⟩ w).mono (by rintro e w' ⟨rfl, rfl⟩; exact ⟨rfl, Below.refl _ _⟩)
  · have hpos := List.length_pos_iff.2 h0
    obtain ⟨g, hao⟩ : ∃ g, ao = some ⟨g, 0, none⟩ := by
      rcases hown.2 with ⟨_, h⟩ | ⟨g, cap, _, h, _⟩
      · omega
      · simp only [Value.slice.injEq] at h
        exact ⟨g, h.1⟩
    subst hao
    have hcells : ∀ (j : Nat) x, ps[j]? = some x → w.cell? ⟨g, 0 + j, none⟩ = some (.string x) := by
      intro j x hj
      have hjl := (List.getElem?_eq_some_iff.1 hj).1
      rw [Nat.zero_add, hown.cellAt j (by omega)]
      simp [hj]
    have hgl : g < w.heap.size := World.block_lt_of_cell? _ _ (hcells 0 _ (List.getElem?_eq_getElem hpos))
    have hcap : ps.length ≤ cv := by
      rcases hown.2 with ⟨h, _⟩ | ⟨g', cap, _, h, _, _, hn, _⟩
      · cases h
      · simp only [Value.slice.injEq] at h
        omega
    have hl : (Lib.join (ps.map (·.data.toList)) ((⟨#[]⟩ : ByteArray).data.toList)).length ≤ 140737488355328 := by
      have := by_length (jn ps)
      rw [by_jn] at this
      have e : (jn ps).size = (Lib.join (ps.map (·.data.toList)) []).length := by
        show ((Lib.join (ps.map (·.data.toList)) []).toArray).size = _
        simp
      show (Lib.join (ps.map (·.data.toList)) []).length ≤ _
      omega
    exact Tryd.strings_Join g 0 cv ps ⟨#[]⟩ w hcells hgl hN hcap hl

/-- What 'text.String' tells. -/
def strAt (s : ByteArray) (i : Int) : Bool × List Int × Int := if hasB s i 34 = true then ((strB (at_ s (i + 1))).1, (strB (at_ s (i + 1))).2.1, i + 1 + (strB (at_ s (i + 1))).2.2) else (false, [], i)
def StT (s : ByteArray) (i : Int) : ByteArray := ba (strAt s i).2.1
def StI (s : ByteArray) (i : Int) : Int := (strAt s i).2.2
def StB (s : ByteArray) (i : Int) : Bool := (strAt s i).1
def strE (s : ByteArray) (i : Int) : Ending := if StB s i = true then .returned (.tuple #[.string (StT s i), .int .i64 (StI s i)]) else Wrong (StI s i)
theorem strE_at {s : ByteArray} {n : Nat} (hq : hasB s n 34 = true) {q : Bool × List Int × Nat} (h : strB (at_ s (n + 1)) = q) :
    strE s n = if q.1 = true then .returned (.tuple #[.string (ba q.2.1), .int .i64 (n + 1 + q.2.2)]) else Wrong (n + 1 + q.2.2) := by
  unfold strE StB StT StI strAt
  rw [if_pos hq, h]
theorem hasB_lt {s : ByteArray} {m : Nat} {c : Int} (h : hasB s m c = true) : m < s.size := by
  unfold hasB at h; have := of_decide_eq_true h; omega
theorem hasB_head {s : ByteArray} {m : Nat} {c : Int} (hc : 0 < c) : hasB s m c = decide ((at_ s m).getD 0 0 = c) := by
  have := hasB_gd s m 0 c hc
  rwa [show (m : Int) + ((0 : Nat) : Int) = m by omega] at this
set_option maxHeartbeats 400000 in
theorem str1_none (a b : Nat) (s : ByteArray) (i : Int) (w : World) (c0 : w.cell? ⟨a, 0, none⟩ = some (.string s)) (c1 : w.cell? ⟨b, 0, none⟩ = some (.int .i64 i)) (hq : hasB s i 34 = false) :
    Calls Tryd.prog 33 #[.pointer (some ⟨a, 0, none⟩), .pointer (some ⟨b, 0, none⟩)] w fun e w' => e = Wrong i ∧ w' = w := by
  go_enter Tryd.func33, Tryd.ntmps33
  go_wp2_with (go_at_call 34; refine (has_any _ _ _ _).mono ?_; rintro e w' ⟨rfl, rfl⟩)
  exact ⟨rfl, rfl, rfl⟩
/-- How far the way is. -/
def Rel (s : ByteArray) (n : Nat) (m : Nat) (ps : List ByteArray) : Prop :=
  n + 1 ≤ m ∧ m ≤ s.size ∧ ps.length ≤ m - (n + 1) ∧ (ps.flatMap by_).length ≤ 4 * (m - (n + 1)) ∧ strB (at_ s (n + 1)) = sadd (m - (n + 1)) (ps.flatMap by_) (strB (at_ s m))
theorem rel_start {s : ByteArray} {n : Nat} (hn : n < s.size) : Rel s n (n + 1) [] := by
  refine ⟨Nat.le_refl _, hn, by simp, by simp, ?_⟩
  rw [Nat.sub_self]
  exact (sadd_zero _ (strB_no _)).symm
theorem rel_yes {s : ByteArray} {n m : Nat} {ps : List ByteArray} (hq : hasB s n 34 = true) (h : Rel s n m ps) (hc : hasB s m 34 = true) : strE s n = .returned (.tuple #[.string (jn ps), .int .i64 ((m : Int) + 1)]) := by
  have hm := hasB_lt hc
  have e0 := at_cons s m (by omega) (by omega)
  have e1 : strB (at_ s m) = (true, [], 1) := by
    rw [hasB_head (by omega)] at hc
    have hc := of_decide_eq_true hc
    rw [e0] at hc ⊢
    have hc : bt s m = 34 := hc
    rw [hc]; exact strB_quote _
  have e2 := h.2.2.2.2
  rw [e1] at e2
  rw [strE_at hq e2]
  show Ending.returned (.tuple #[.string (ba (ps.flatMap by_ ++ [])), .int .i64 ((n : Int) + 1 + ((m - (n + 1) + 1 : Nat) : Int))]) = _
  rw [List.append_nil, ← by_jn, ba_by]
  have h1 := h.1
  rw [show (n : Int) + 1 + ((m - (n + 1) + 1 : Nat) : Int) = (m : Int) + 1 by omega]
theorem rel_no {s : ByteArray} {n m : Nat} {ps : List ByteArray} (hq : hasB s n 34 = true) (h : Rel s n m ps) (hc : strB (at_ s m) = (false, [], 0)) : strE s n = Wrong m := by
  have e2 := h.2.2.2.2
  rw [hc] at e2
  rw [strE_at hq e2]
  show Wrong ((n : Int) + 1 + ((m - (n + 1) + 0 : Nat) : Int)) = _
  have h1 := h.1
  rw [show (n : Int) + 1 + ((m - (n + 1) + 0 : Nat) : Int) = (m : Int) by omega]
theorem rel_step {s : ByteArray} {n m : Nat} {ps : List ByteArray} (h : Rel s n m ps) {K : Nat} {T : ByteArray} (hK : 0 < K) (hm : m + K ≤ s.size) (hT : T.size ≤ 4 * K) (hc : strB (at_ s m) = sadd K (by_ T) (strB (at_ s ((m + K : Nat) : Int)))) : Rel s n (m + K) (ps ++ [T]) := by
  obtain ⟨h1, h2, h3, h4, h5⟩ := h
  refine ⟨by omega, hm, by rw [List.length_append]; simp; omega, ?_, ?_⟩
  · rw [List.flatMap_append, List.length_append]
    simp only [List.flatMap_cons, List.flatMap_nil, List.append_nil, by_length]
    omega
  · rw [h5, hc, sadd_sadd, List.flatMap_append]
    simp only [List.flatMap_cons, List.flatMap_nil, List.append_nil]
    rw [show m - (n + 1) + K = m + K - (n + 1) by omega]
theorem at_drop (s : ByteArray) (m K : Nat) : (at_ s m).drop K = at_ s ((m + K : Nat) : Int) := by
  have := at_add s m K (by omega)
  rw [← this]; rfl
theorem step_esc {s : ByteArray} {m : Nat} (hc : hasB s m 92 = true) (he : (escAt s m).2 ≠ 0) :
    strB (at_ s m) = sadd (escAt s m).2 (by_ (EsT s m)) (strB (at_ s ((m + (escAt s m).2 : Nat) : Int))) ∧ 0 < (escAt s m).2 ∧ m + (escAt s m).2 ≤ s.size ∧ (EsT s m).size ≤ 4 * (escAt s m).2 := by
  have hm := hasB_lt hc
  rw [hasB_head (by omega)] at hc
  have hc := of_decide_eq_true hc
  have e : escAt s m = esc (at_ s m) := escAt_nat s m
  unfold EsT
  rw [e] at he ⊢
  obtain ⟨r, hr, e1, h2, h3, _⟩ := esc_some he
  have hb : by_ (ba (esc (at_ s m)).1) = (esc (at_ s m)).1 := by rw [e1]; exact by_ba (enc_range hr)
  have hl := at_length s m (by omega) (by omega)
  refine ⟨?_, by omega, by omega, ?_⟩
  · rw [hb, ← at_drop]; exact strB_esc hc he
  · rw [ba_size, e1]; have := enc_len r; omega
theorem step_plain {s : ByteArray} {m : Nat} (h1 : hasB s m 34 = false) (h2 : hasB s m 92 = false) (hn : nxn s m ≠ 0) (h3 : nxr s m ≠ 10) (h4 : nxr s m ≠ 13) {K : Nat} (hK : nxn s m = K) :
    strB (at_ s m) = sadd K (by_ (s.extract m (m + K))) (strB (at_ s ((m + K : Nat) : Int))) ∧ 0 < K ∧ m + K ≤ s.size ∧ (s.extract m (m + K)).size ≤ 4 * K := by
  rw [hasB_head (by omega)] at h1 h2
  have h1 := of_decide_eq_false h1
  have h2 := of_decide_eq_false h2
  have hle : m < s.size := by
    by_cases q : m < s.size
    · exact q
    · exact absurd (nxn_out s m (.inr (by omega))).2 hn
  have hsz := nxn_le s m (by omega) (by omega)
  unfold nxn at hn hK hsz
  unfold nxr at h3 h4
  rw [if_neg (by omega)] at hn hK h3 h4
  have hK' : (nxp isc (at_ s m)).2 = K := by omega
  refine ⟨?_, by omega, by omega, by rw [ByteArray.size_extract]; omega⟩
  have e : by_ (s.extract m (m + K)) = (at_ s m).take K := by
    rw [by_extract]
    unfold at_
    rw [Int.toNat_natCast, List.drop_take, Nat.add_sub_cancel_left]
  rw [e, ← at_drop, ← hK']
  exact strB_plain h1 h2 (by omega) h3 h4
theorem step_no {s : ByteArray} {m : Nat} (h1 : hasB s m 34 = false) (h2 : hasB s m 92 = false) (hn : nxn s m = 0 ∨ nxr s m = 10 ∨ nxr s m = 13) : strB (at_ s m) = (false, [], 0) := by
  by_cases hl : at_ s m = []
  · rw [hl]; exact strB_nil
  rw [hasB_head (by omega)] at h1 h2
  have h1 := of_decide_eq_false h1
  have h2 := of_decide_eq_false h2
  unfold nxn nxr at hn
  rw [if_neg (by omega), if_neg (by omega)] at hn
  exact strB_plainno hl h1 h2 (by omega)
theorem step_escno {s : ByteArray} {m : Nat} (hc : hasB s m 92 = true) (he : (escAt s m).2 = 0) : strB (at_ s m) = (false, [], 0) := by
  rw [hasB_head (by omega)] at hc
  have hc := of_decide_eq_true hc
  rw [escAt_nat] at he
  exact strB_escno hc he
end Go.Proofs.YtcebkppagamjiaaDoor.G
namespace Go.Proofs.YtcebkppagamjiaaDoor.G
open Go.RowKit Go.Proofs.YtcebkppagamjiaaDoorW.PrintWords Go.Proofs.YtcebkppagamjiaaDoor.M
set_option linter.unusedVariables false
set_option linter.unusedSimpArgs false
attribute [local irreducible] Utf8.encode Utf8.decode

theorem info_str : (Tryd.prog.info? 9).map (fun i => (i.zero, i.size, i.bytes)) = some (some (.string ByteArray.empty), 1, 16) := by kernel_rfl
/-- The walk's relation. -/
def RL (s : ByteArray) (n : Nat) (w : World) (v i : Value) (wr : World) : Prop :=
  ∃ (m : Nat) (ps : List ByteArray) (ao : Option Addr) (cv : Nat), i = .int .i64 (m : Int) ∧ v = .slice ao ps.length cv ∧ wr.ownsRow w.heap.size 9 1 v ps.length (ps.map Value.string) ∧ Below w.heap.size w wr ∧ Rel s n m ps
theorem own_next {s : ByteArray} {n m K : Nat} {ps : List ByteArray} {T : ByteArray} {w w1 w3 : World} {v v' : Value} {L : Nat} (hL : L = ps.length + 1) (hr : Rel s n (m + K) (ps ++ [T]))
    (hown : w1.ownsRow w.heap.size 9 1 v ps.length (ps.map Value.string)) (hb : Below w.heap.size w w1) (o : Obj)
    (hown' : w3.ownsRow w.heap.size 9 1 v' L (ps.map Value.string ++ [.string T])) (hg : (w1.alloc o).grownBy w3 v.ownBlock) : RL s n w v' (.int .i64 ((m : Int) + (K : Int))) w3 := by
  subst hL
  obtain ⟨g3, cap3, hv3⟩ : ∃ g3 cap3, v' = .slice (some ⟨g3, 0, none⟩) (ps.length + 1) cap3 := by
    rcases hown'.2 with ⟨_, h⟩ | ⟨g3, cap3, _, h, _⟩
    · omega
    · exact ⟨g3, cap3, h⟩
  have hsize := hb.size
  refine ⟨m + K, ps ++ [T], some ⟨g3, 0, none⟩, cap3, rfl, by rw [hv3]; simp, ?_, (hb.alloc hsize _).grown hg (by simp; omega) (fun q hq => (hown.lt q hq).1), hr⟩
  rw [List.length_append, List.map_append]
  exact hown'
theorem has_any' (s : ByteArray) (i c : Int) (w : World) :
    Calls Tryd.prog 34 #[.string s, .int .i64 i, .int .u8 c] w fun e w' => e = .returned (.bool (hasB s i c)) ∧ w = w' :=
  (has_any s i c w).mono fun e w' h => ⟨h.1, h.2.symm⟩
set_option maxHeartbeats 4000000 in
set_option maxRecDepth 100000 in
theorem str1_some (a b : Nat) (s : ByteArray) (n : Nat) (w : World) (hs : s.size ≤ 1000000) (hT : TE w) (c0 : w.cell? ⟨a, 0, none⟩ = some (.string s)) (c1 : w.cell? ⟨b, 0, none⟩ = some (.int .i64 n)) (hq : hasB s n 34 = true) :
    Calls Tryd.prog 33 #[.pointer (some ⟨a, 0, none⟩), .pointer (some ⟨b, 0, none⟩)] w fun e w' => e = strE s n ∧ Below w.heap.size w w' := by
  obtain ⟨i0, hi, hz0, hz1, hz2⟩ := info_parts info_str
  have hn := hasB_lt hq
  have ha := World.block_lt_of_cell? _ _ c0
  have hbl := World.block_lt_of_cell? _ _ c1
  have hu42 := Tryd.underlying42
  go_enter Tryd.func33, Tryd.ntmps33
  go_wp2_with (go_at_call 34; refine (has_any' _ _ _ _).mono ?_; rintro e w' ⟨rfl, rfl⟩)
  go_loopw [4, 5] (fun v i wr => RL s n w v i wr) (fun _ i _ => s.size + 1 - (intOf i).toNat)
  case atStart => exact ⟨n + 1, [], none, 0, rfl, rfl, World.ownsRow_nil _ _ _ _, Below.refl _ _, rel_start hn⟩
  case round =>
    obtain ⟨m, ps, ao, cv, rfl, rfl, hown, hnx, hrel⟩ := hrel
    have d0 : wr.cell? ⟨a, 0, none⟩ = some (.string s) := (hnx.cell ha).trans c0
    have hsize := hnx.size
    have hR := hrel
    obtain ⟨hr1, hr2, hr3, hr4, _⟩ := hR
    have hpl : ps.length ≤ 1000000 := by omega
    by_cases h1 : hasB s m 34 = true
    · have hres := rel_yes hq hrel h1
      have hfl : (ps.flatMap by_).length ≤ 140737488355328 := by omega
      go_wp2_with (first
              | (go_at_call 34; refine (has_any' _ _ _ _).mono ?_; rintro e w' ⟨rfl, rfl⟩)
              | (go_at_call 35; refine (join_any _ _ _ _ _ hown (by omega) hfl).mono ?_; rintro e w5 ⟨rfl, hb5⟩))
      go_ret2
      exact ⟨hres.symm, hnx.trans (hb5.mono hsize)⟩
    have h1 : hasB s m 34 = false := by simpa using h1
    by_cases h2 : hasB s m 92 = true
    · by_cases h3 : (escAt s m).2 = 0
      · have hres := rel_no hq hrel (step_escno h2 h3)
        have hE : escE s m = Wrong m := if_pos h3
        go_wp2_with (first
              | (go_at_call 34; refine (has_any' _ _ _ _).mono ?_; rintro e w' ⟨rfl, rfl⟩)
              | (go_at_call 36; refine (esc_any s m _ hs (hT.low hnx)).mono ?_; rw [hE]; rintro e w1 ⟨rfl, hb1⟩; unfold Wrong))
        exact ⟨rfl, hres.symm, hnx.trans (hb1.mono hsize)⟩
      · have hE : escE s m = .returned (.tuple #[.string (EsT s m), .int .i64 (EsI s m)]) := if_neg h3
        obtain ⟨q1, q2, q3, q4⟩ := step_esc h2 h3
        have hrn := rel_step hrel q2 q3 q4 q1
        have hEI : EsI s m = (m : Int) + ((escAt s m).2 : Nat) := rfl
        obtain ⟨K, hK⟩ : ∃ K, (escAt s m).2 = K := ⟨_, rfl⟩
        obtain ⟨T, hTx⟩ : ∃ T, EsT s m = T := ⟨_, rfl⟩
        rw [hK, hTx] at hrn
        rw [hK] at hEI q2 q3
        rw [hTx, hEI] at hE
        clear q1 q4 hEI hK hTx h3
        go_wp2_with (first
              | (go_at_call 34; refine (has_any' _ _ _ _).mono ?_; rintro e w' ⟨rfl, rfl⟩)
              | (go_at_call 36; refine (esc_any s m _ hs (hT.low hnx)).mono ?_; rw [hE]; rintro e w1 ⟨rfl, hb1⟩; have hown1 := pw_own_below hown hb1; have hb2 := hnx.trans (hb1.mono hsize); have hsz2 := hb2.size)
              | (at_builtin; refine wpList_append_own _ rfl _ _ 42 rfl w.heap.size 9 i0 (.string ByteArray.empty) 1 16 hu42 hi hz0 hz1 hz2 rfl (by decide) _ _ _ rfl (hown1.alloc _) ⟨w1.heap.size, 0, none⟩ 1 1 [.string T] rfl rfl (cell_one_new _ _ _) (fun x hx => by simp at hx; subst hx; rfl) (by unfold maxLen; omega) (by omega) (by simp; omega) ?_; intro v' w3 hown' hgrow3 hnil3))
        go_roundw
        case rel =>
          have R := own_next rfl hrn hown1 hb2 _ hown' hgrow3
          first
            | exact R
            | ((repeat apply Exists.intro); exact ⟨R, rfl⟩)
        case measure => simp [intOf]; omega
    have h2 : hasB s m 92 = false := by simpa using h2
    have hnn := nxn_range s m
    by_cases h4 : nxn s m = 0
    · have hres := rel_no hq hrel (step_no h1 h2 (.inl h4))
      obtain ⟨r, hr⟩ : ∃ r, nxr s m = r := ⟨_, rfl⟩
      go_wp2_with (first
              | (go_at_call 34; refine (has_any' _ _ _ _).mono ?_; rintro e w' ⟨rfl, rfl⟩)
              | (go_at_call 23; refine (next_any s m _ (by omega)).mono ?_; rw [h4, hr]; rintro e w1 ⟨rfl, hb1⟩))
      exact ⟨rfl, hres.symm, hnx.trans (hb1.mono hsize)⟩
    obtain ⟨K, hK⟩ : ∃ K : Nat, nxn s m = (K : Int) := ⟨(nxn s m).toNat, by omega⟩
    have k0 : ((K : Int) == 0) = false := beq_eq_false_iff_ne.2 (by omega)
    by_cases h5 : nxr s m = 10
    · have hres := rel_no hq hrel (step_no h1 h2 (.inr (.inl h5)))
      go_wp2_with (first
              | (go_at_call 34; refine (has_any' _ _ _ _).mono ?_; rintro e w' ⟨rfl, rfl⟩)
              | (go_at_call 23; refine (next_any s m _ (by omega)).mono ?_; rw [hK, h5]; rintro e w1 ⟨rfl, hb1⟩))
      exact ⟨rfl, hres.symm, hnx.trans (hb1.mono hsize)⟩
    by_cases h6 : nxr s m = 13
    · have hres := rel_no hq hrel (step_no h1 h2 (.inr (.inr h6)))
      go_wp2_with (first
              | (go_at_call 34; refine (has_any' _ _ _ _).mono ?_; rintro e w' ⟨rfl, rfl⟩)
              | (go_at_call 23; refine (next_any s m _ (by omega)).mono ?_; rw [hK, h6]; rintro e w1 ⟨rfl, hb1⟩))
      exact ⟨rfl, hres.symm, hnx.trans (hb1.mono hsize)⟩
    obtain ⟨q1, q2, q3, q4⟩ := step_plain h1 h2 h4 h5 h6 hK
    have hrn := rel_step hrel q2 q3 q4 q1
    obtain ⟨r, hr⟩ : ∃ r, nxr s m = r := ⟨_, rfl⟩
    rw [hr] at h5 h6
    have k1 : (r == 10) = false := beq_eq_false_iff_ne.2 h5
    have k2 : (r == 13) = false := beq_eq_false_iff_ne.2 h6
    obtain ⟨T, hTx⟩ : ∃ T, s.extract m (m + K) = T := ⟨_, rfl⟩
    rw [hTx] at hrn
    clear q1 q4
    go_wp2_with (first
              | (go_at_call 34; refine (has_any' _ _ _ _).mono ?_; rintro e w' ⟨rfl, rfl⟩)
              | (go_at_call 23; refine (next_any s m _ (by omega)).mono ?_; rw [hK, hr]; rintro e w1 ⟨rfl, hb1⟩; have hown1 := pw_own_below hown hb1; have hb2 := hnx.trans (hb1.mono hsize); have hsz2 := hb2.size; have d1 := (hb2.cell ha).trans c0)
              | (at_builtin; refine wpList_append_own _ rfl _ _ 42 rfl w.heap.size 9 i0 (.string ByteArray.empty) 1 16 hu42 hi hz0 hz1 hz2 rfl (by decide) _ _ _ rfl (hown1.alloc _) ⟨w1.heap.size, 0, none⟩ 1 1 [.string T] rfl rfl (cell_one_new _ _ _) (fun x hx => by simp at hx; subst hx; rfl) (by unfold maxLen; omega) (by omega) (by simp; omega) ?_; intro v' w3 hown' hgrow3 hnil3))
    go_roundw
    case rel =>
      have R := own_next rfl hrn hown1 hb2 _ hown' hgrow3
      first
        | exact R
        | ((repeat apply Exists.intro); exact ⟨R, rfl⟩)
    case measure => simp [intOf]; omega
theorem str1_any (a b : Nat) (s : ByteArray) (i : Int) (w : World) (hs : s.size ≤ 1000000) (hT : TE w) (c0 : w.cell? ⟨a, 0, none⟩ = some (.string s)) (c1 : w.cell? ⟨b, 0, none⟩ = some (.int .i64 i)) :
    Calls Tryd.prog 33 #[.pointer (some ⟨a, 0, none⟩), .pointer (some ⟨b, 0, none⟩)] w fun e w' => e = strE s i ∧ Below w.heap.size w w' := by
  by_cases hq : hasB s i 34 = true
  · have h0 : 0 ≤ i := by unfold hasB at hq; have := of_decide_eq_true hq; omega
    obtain ⟨n, rfl⟩ : ∃ n : Nat, i = n := ⟨i.toNat, by omega⟩
    exact str1_some a b s n w hs hT c0 c1 hq
  · have hq : hasB s i 34 = false := by simpa using hq
    have e : strE s i = Wrong i := by
      unfold strE StB StI strAt
      rw [hq]; rfl
    rw [e]
    exact (str1_none a b s i w c0 c1 hq).mono (by rintro e w' ⟨rfl, rfl⟩; exact ⟨rfl, Below.refl _ _⟩)
theorem StT_no {s : ByteArray} {i : Int} (h : StB s i = false) : StT s i = ⟨#[]⟩ := by
  unfold StT StB strAt at *
  split
  · rename_i q
    rw [if_pos q] at h
    show ba (strB (at_ s (i + 1))).2.1 = _
    rw [strB_no _ h]; rfl
  · rfl
set_option maxHeartbeats 400000 in
theorem String_any (s : ByteArray) (i : Int) (w : World) (hs : s.size ≤ 1000000) (hT : TE w) :
    Calls Tryd.prog 17 #[.string s, .int .i64 i] w fun e w' => e = .returned (.tuple #[.string (StT s i), .int .i64 (StI s i), .bool (StB s i)]) ∧ Below w.heap.size w w' := by
  have hmf : ∀ (fn : Fn) (first cap : Array Value) (w : World), (Instr.makeFunc fn first cap).run Tryd.prog w = .ok (.func fn first cap) w := fun _ _ _ _ => rfl
  obtain ⟨k0, k1, hb0, hz⟩ := WB_is w s i
  have key : Calls Tryd.prog 32 #[.func (.func 33) #[] #[.pointer (some ⟨w.heap.size, 0, none⟩), .pointer (some ⟨w.heap.size + 1, 0, none⟩)]] (WB w s i) fun e w' => e = .returned (.tuple #[.string (StT s i), .int .i64 (StI s i), .bool (StB s i)]) ∧ Below (WB w s i).heap.size (WB w s i) w' := by
    have hcall : ∀ W, Below (WB w s i).heap.size (WB w s i) W → Calls Tryd.prog 33 #[.pointer (some ⟨w.heap.size, 0, none⟩), .pointer (some ⟨w.heap.size + 1, 0, none⟩)] W fun e w' => e = strE s i ∧ Below W.heap.size W w' :=
      fun W hW => str1_any w.heap.size (w.heap.size + 1) s i W hs (hT.low (hb0.trans (hW.mono (by omega)))) ((hW.cell (by show w.heap.size < _; omega)).trans k0) ((hW.cell (by show w.heap.size + 1 < _; omega)).trans k1)
    cases h : StB s i with
    | false =>
      rw [StT_no h]
      have e : strE s i = Wrong (StI s i) := by unfold strE; rw [h]; rfl
      rw [e] at hcall
      exact tried_no_s _ _ _ _ hcall
    | true =>
      have e : strE s i = .returned (.tuple #[.string (StT s i), .int .i64 (StI s i)]) := if_pos h
      rw [e] at hcall
      exact tried_yes_s _ _ _ _ _ hcall
  go_enter Tryd.func17, Tryd.ntmps17
  go_wp2_with (go_at_call 32; refine key.mono ?_; rintro e w1 ⟨rfl, hb1⟩)
  go_ret3
  exact ⟨rfl, hb0.trans (hb1.mono (by omega))⟩
end Go.Proofs.YtcebkppagamjiaaDoor.G
namespace Go.Proofs.YtcebkppagamjiaaDoor.G
open Go.RowKit Go.Shelf Go.Proofs.YtcebkppagamjiaaDoorW.PrintWords Go.Proofs.YtcebkppagamjiaaDoor.M
set_option linter.unusedVariables false
set_option linter.unusedSimpArgs false

abbrev LW (w : World) : Prop := TE w
theorem LW.low {w W : World} (h : LW w) (hb : Below w.heap.size w W) : LW W := TE.low h hb
theorem accept_is : (Rows.laid_unicode_utf8_acceptRanges : DataW Unit) = Lib.acceptData := by kernel_rfl
theorem first_is : (Rows.laid_unicode_utf8_first : DataW Unit) = Lib.firstData := by kernel_rfl
theorem case_is : (Rows.laid_unicode_CaseRanges : DataW Unit) = Lib.caseData := by kernel_rfl
theorem U8.of_reads {W : World} {l : List (String × DataW Unit)} (h : laidMet Tryd.prog l W) (ma : ("unicode/utf8.acceptRanges", Rows.laid_unicode_utf8_acceptRanges) ∈ l) (mf : ("unicode/utf8.first", Rows.laid_unicode_utf8_first) ∈ l) :
    Lib.Utf8Tabs 3 4 W := by
  have ra := Lib.laidMet.reads h ma
  have rf := Lib.laidMet.reads h mf
  rw [accept_is] at ra
  rw [first_is] at rf
  exact utf8Tabs_of_reads (ρ := Tryd.lays260_ren) { Tryd.lays260 with } ⟨by kernel_rfl, by kernel_rfl, by kernel_rfl, by kernel_rfl, by kernel_rfl, by kernel_rfl, by kernel_rfl⟩ rf ra
theorem LW.of_reads {W : World} {l : List (String × DataW Unit)} (h : laidMet Tryd.prog l W) (ma : ("unicode/utf8.acceptRanges", Rows.laid_unicode_utf8_acceptRanges) ∈ l) (mc : ("unicode.CaseRanges", Rows.laid_unicode_CaseRanges) ∈ l)
    (mf : ("unicode/utf8.first", Rows.laid_unicode_utf8_first) ∈ l) : LW W := by
  have rc := Lib.laidMet.reads h mc
  rw [case_is] at rc
  exact ⟨U8.of_reads h ma mf, caseVar_of_reads (ρ := Tryd.lays204_ren) { Tryd.lays204 with } (by kernel_rfl) ⟨by kernel_rfl, by kernel_rfl, by kernel_rfl, by kernel_rfl, by kernel_rfl, by kernel_rfl⟩ rc⟩
abbrev laidText : List (String × DataW Unit) := [("unicode/utf8.acceptRanges", Rows.laid_unicode_utf8_acceptRanges), ("unicode.CaseRanges", Rows.laid_unicode_CaseRanges), ("unicode/utf8.first", Rows.laid_unicode_utf8_first)]
theorem LW.of {W : World} (h : laidMetH Tryd.prog laidText W) : LW W := by
  rw [MakeChecks.laidMetH_plain _ _ _ (by kernel_rfl)] at h
  exact LW.of_reads h (by simp) (by simp) (by simp)

/-! ### As the laws' texts call them -/
def utf_Next.f (s : ByteArray) (i : Int) : Option (Int × Int) := if s.size ≤ 1000000 then some (nxr s i, nxn s i) else none
theorem utf_Next.calls (a0 : ByteArray) (a1 : Int) (r1 : Int) (r2 : Int) (w : World) (h : utf_Next.f a0 a1 = some (r1, r2)) :
    Calls Tryd.prog 23 #[.string a0, .int .i64 a1] w fun e w' => e = .returned (.tuple #[.int .i64 r1, .int .i64 r2]) ∧ Below w.heap.size w w' := by
  unfold utf_Next.f at h
  split at h
  · cases h; exact next_any a0 a1 w (by omega)
  · cases h
def utf_May.f (s : ByteArray) : Option Bool := if s.size ≤ 1000000 then some (mayp isc (by_ s)) else none
theorem utf_May.calls (a0 : ByteArray) (r : Bool) (w : World) (h : utf_May.f a0 = some r) :
    Calls Tryd.prog 24 #[.string a0] w fun e w' => e = .returned (.bool r) ∧ Below w.heap.size w w' := by
  unfold utf_May.f at h
  split at h
  · cases h; exact may_any a0 w (by omega)
  · cases h
def text_Hex.f (s : ByteArray) (i : Int) : Option (Int × Bool) := if s.size ≤ 1000000 then some (hexN s i, hexOk s i) else none
theorem text_Hex.calls (a0 : ByteArray) (a1 : Int) (r1 : Int) (r2 : Bool) (w : World) (h : text_Hex.f a0 a1 = some (r1, r2)) (hL : LW w) :
    Calls Tryd.prog 21 #[.string a0, .int .i64 a1] w fun e w' => e = .returned (.tuple #[.int .i64 r1, .bool r2]) ∧ Below w.heap.size w w' := by
  unfold text_Hex.f at h
  split at h
  · cases h; exact hex_any a0 a1 w (by omega) hL
  · cases h
def text_Escape.f (s : ByteArray) (i : Int) : Option (ByteArray × Int × Bool) := if s.size ≤ 1000000 then some (EsT s i, EsI s i, EsB s i) else none
theorem text_Escape.calls (a0 : ByteArray) (a1 : Int) (r1 : ByteArray) (r2 : Int) (r3 : Bool) (w : World) (h : text_Escape.f a0 a1 = some (r1, r2, r3)) (hL : LW w) :
    Calls Tryd.prog 19 #[.string a0, .int .i64 a1] w fun e w' => e = .returned (.tuple #[.string r1, .int .i64 r2, .bool r3]) ∧ Below w.heap.size w w' := by
  unfold text_Escape.f at h
  split at h
  · cases h; exact Escape_any a0 a1 w (by omega) hL
  · cases h
def text_String.f (s : ByteArray) (i : Int) : Option (ByteArray × Int × Bool) := if s.size ≤ 1000000 then some (StT s i, StI s i, StB s i) else none
theorem text_String.calls (a0 : ByteArray) (a1 : Int) (r1 : ByteArray) (r2 : Int) (r3 : Bool) (w : World) (h : text_String.f a0 a1 = some (r1, r2, r3)) (hL : LW w) :
    Calls Tryd.prog 17 #[.string a0, .int .i64 a1] w fun e w' => e = .returned (.tuple #[.string r1, .int .i64 r2, .bool r3]) ∧ Below w.heap.size w w' := by
  unfold text_String.f at h
  split at h
  · cases h; exact String_any a0 a1 w (by omega) hL
  · cases h
end Go.Proofs.YtcebkppagamjiaaDoor.G
