/-
  Small letters: what 'strings.ToLower' makes of four bytes, read as a code. Plain Lean, over Go's own table of cases.
-/
import Derived.Test.YtjgpmfjkcioinaaDoorPTV1
import Derived.Test.YtjgpmfjkcioinaaDoorPTZ2
import Derived.Lib.MapLaws
import Derived.Lib.CaseU
namespace Go.Proofs.YtjgpmfjkcioinaaDoor.G
open Go.RowKit Go.Proofs.YtjgpmfjkcioinaaDoorW.PrintWords Go.Proofs.YtjgpmfjkcioinaaDoor.M
set_option linter.unusedVariables false
set_option linter.unusedSimpArgs false
def dv (c : Int) : Int := if 48 ≤ c ∧ c ≤ 57 then c - 48 else if 97 ≤ c ∧ c ≤ 102 then c - 87 else -1
theorem dv_le (c : Int) : -1 ≤ dv c ∧ dv c ≤ 15 := by
  unfold dv
  repeat' split
  all_goals omega
def rowOk (x : Lib.CaseRow) : Bool :=
  decide (x.2.1 < 128) || (decide (x.2.2.2.1 > 1114111) && decide (128 ≤ x.1)) || (decide (x.2.2.2.1 ≤ 1114111) && decide (128 ≤ x.1) && decide (103 ≤ (x.1 : Int) + x.2.2.2.1))
theorem rows_ok : Lib.caseT.all rowOk = true := by decide +kernel
theorem lookup_in (T : Array Lib.CaseRow) (r : Int) : ∀ (f lo hi i : Nat), hi ≤ T.size → Lib.lookupIdx T r f lo hi = some i → i < T.size ∧ ((T.getD i (0, 0, 0, 0, 0)).1 : Int) ≤ r ∧ r ≤ ((T.getD i (0, 0, 0, 0, 0)).2.1 : Int)
  | 0, lo, hi, i, hh, h => by simp [Lib.lookupIdx] at h
  | f + 1, lo, hi, i, hh, h => by
    unfold Lib.lookupIdx at h
    split at h
    · rename_i hlt
      split at h
      · rename_i hc
        cases h
        exact ⟨by omega, hc⟩
      · split at h
        · exact lookup_in T r f _ _ i (by omega) h
        · exact lookup_in T r f _ _ i hh h
    · cases h
theorem lower_high (r : Int) (h : 128 ≤ r) : 103 ≤ Lib.toLowerU r := by
  unfold Lib.toLowerU
  rw [if_neg (by omega)]
  unfold Lib.toR Lib.lookupGo
  cases hx : Lib.lookupIdx Lib.caseA r (Lib.caseA.size + 1) 0 Lib.caseA.size with
  | none => simp only [Option.map_none]; omega
  | some i =>
    obtain ⟨h1, h2, h3⟩ := lookup_in Lib.caseA r _ _ _ i (Nat.le_refl _) hx
    have hok : rowOk (Lib.caseA.getD i (0, 0, 0, 0, 0)) = true := by
      have := rows_ok
      rw [List.all_eq_true] at this
      apply this
      have e : Lib.caseA.getD i (0, 0, 0, 0, 0) = Lib.caseA[i] := by simp [Array.getD, h1]
      rw [e]
      simp [Lib.caseA]
    simp only [Option.map_some]
    obtain ⟨x, hxx⟩ : ∃ x, Lib.caseA.getD i (0, 0, 0, 0, 0) = x := ⟨_, rfl⟩
    rw [hxx] at h2 h3 hok ⊢
    unfold Lib.convertR
    simp only [rowOk, Bool.or_eq_true, Bool.and_eq_true, decide_eq_true_eq] at hok
    have hd : x.delta 1 = x.2.2.2.1 := rfl
    rw [hd]
    split
    · have := Int.emod_nonneg (r - x.1) (show (2 : Int) ≠ 0 by omega)
      omega
    · omega
theorem encodeRune_no (z : Int) (h : 103 ≤ z) : ∃ b m, Lib.encodeRune z = b :: m ∧ dv (b.toNat : Int) = -1 := by
  have key : ∀ (c : Int) (m : List Int), 103 ≤ c → c < 256 → Lib.encodeRuneZ z = c :: m → ∃ b m, Lib.encodeRune z = b :: m ∧ dv (b.toNat : Int) = -1 := by
    intro c m h0 h1 e
    refine ⟨c.toNat.toUInt8, m.map fun x => x.toNat.toUInt8, by unfold Lib.encodeRune; rw [e]; rfl, ?_⟩
    have : ((c.toNat.toUInt8.toNat : Nat) : Int) = c := by simp; omega
    rw [this]
    unfold dv
    rw [if_neg (by omega), if_neg (by omega)]
  unfold Lib.encodeRuneZ at key
  by_cases a : 0 ≤ z ∧ z ≤ 127
  · exact key z [] h (by omega) (by rw [if_pos a])
  · by_cases b : 128 ≤ z ∧ z ≤ 2047
    · exact key (192 + z / 64) _ (by omega) (by omega) (by rw [if_neg a, if_pos b])
    · by_cases c : (2048 ≤ z ∧ z < 55296) ∨ (57343 < z ∧ z ≤ 65535)
      · exact key (224 + z / 4096) _ (by omega) (by omega) (by rw [if_neg a, if_neg b, if_pos c])
      · by_cases d : 65536 ≤ z ∧ z ≤ 1114111
        · exact key (240 + z / 262144) _ (by omega) (by omega) (by rw [if_neg a, if_neg b, if_neg c, if_pos d])
        · exact key 239 _ (by omega) (by omega) (by rw [if_neg a, if_neg b, if_neg c, if_neg d])
theorem decodeL_high (b : UInt8) (t : List UInt8) (h : ¬ b.toNat < 128) : 128 ≤ (Lib.decodeL (b :: t)).1 := by
  rw [Lib.decodeL_N]
  have hb : ((b :: t).getD 0 0).toNat = b.toNat := rfl
  rw [hb]
  rcases Lib.decodeN_shape (b :: t).length b.toNat ((b :: t).getD 1 0).toNat ((b :: t).getD 2 0).toNat ((b :: t).getD 3 0).toNat with ⟨c, e⟩ | ⟨c1, c2, c3, cv, e⟩ | ⟨c1, c2, c3, c4, cv, cs, e⟩ | ⟨c1, c2, c3, c4, c5, cv, cw, e⟩ | e
  · omega
  all_goals (rw [e]; dsimp only; omega)
def lowB (c : Int) : Int := if 65 ≤ c ∧ c ≤ 90 then c + 32 else c
theorem dv_low (c : Int) : dv (lowB c) = hexv c := by
  unfold dv lowB hexv
  repeat' split
  all_goals omega
theorem lowerD_low : ∀ (l : List UInt8), (∀ b ∈ l, b.toNat < 128) → (Lib.toLowerD l).map (fun b => (b.toNat : Int)) = l.map (fun b => lowB (b.toNat : Int))
  | [], _ => rfl
  | b :: t, h => by
    have hb := h b (by simp)
    have e : Lib.decodeL (b :: t) = (b.toNat, 1) := Lib.decodeL_ascii b t hb
    unfold Lib.toLowerD
    rw [Lib.mapD_step Lib.toLowerU (b :: t) (by simp), e]
    have ih := lowerD_low t (fun x hx => h x (by simp [hx]))
    unfold Lib.toLowerD at ih
    have hz : Lib.toLowerU ((b.toNat : Nat) : Int) = lowB b.toNat := by unfold Lib.toLowerU lowB; rw [if_pos (by omega)]
    have hr : 0 ≤ lowB b.toNat ∧ lowB b.toNat ≤ 127 := by unfold lowB; split <;> omega
    simp only [hz, List.drop_succ_cons, List.drop_zero]
    rw [if_pos hr.1, List.map_append, ih]
    unfold Lib.encodeRune
    rw [Lib.encodeRuneZ_one hr.1 hr.2]
    simp only [List.map_cons, List.map_nil, List.cons_append, List.nil_append, List.cons.injEq, and_true]
    simp; omega
theorem lowerD_high : ∀ (l : List UInt8), (∃ b ∈ l, ¬ b.toNat < 128) → ∃ p b, p < l.length ∧ (Lib.toLowerD l)[p]? = some b ∧ dv (b.toNat : Int) = -1
  | [], ⟨b, hb, _⟩ => by cases hb
  | c :: t, ⟨b, hb, hh⟩ => by
    unfold Lib.toLowerD
    rw [Lib.mapD_step Lib.toLowerU (c :: t) (by simp)]
    by_cases hc : c.toNat < 128
    · have e : Lib.decodeL (c :: t) = (c.toNat, 1) := Lib.decodeL_ascii c t hc
      rw [e]
      have hbt : b ∈ t := by
        rcases List.mem_cons.1 hb with rfl | h
        · exact absurd hc hh
        · exact h
      obtain ⟨p, x, hp, hx, hd⟩ := lowerD_high t ⟨b, hbt, hh⟩
      unfold Lib.toLowerD at hx
      have hz : Lib.toLowerU ((c.toNat : Nat) : Int) = lowB c.toNat := by unfold Lib.toLowerU lowB; rw [if_pos (by omega)]
      have hr : 0 ≤ lowB c.toNat ∧ lowB c.toNat ≤ 127 := by unfold lowB; split <;> omega
      simp only [hz, List.drop_succ_cons, List.drop_zero]
      rw [if_pos hr.1]
      unfold Lib.encodeRune
      rw [Lib.encodeRuneZ_one hr.1 hr.2]
      exact ⟨p + 1, x, by simp; omega, by simpa using hx, hd⟩
    · have h1 := decodeL_high c t hc
      have h2 := lower_high ((Lib.decodeL (c :: t)).1 : Int) (by omega)
      rw [if_pos (by omega)]
      obtain ⟨x, m, hx, hd⟩ := encodeRune_no _ h2
      rw [hx]
      exact ⟨0, x, by simp, by simp, hd⟩
def hfold : List Int → Int → Int
  | [], n => n
  | c :: l, n => if dv c < 0 then -1 else hfold l (n * 16 + dv c)
theorem hfold_no : ∀ (l : List Int) (n : Int), (∃ c ∈ l, dv c < 0) → hfold l n = -1
  | [], n, ⟨c, hc, _⟩ => by cases hc
  | c :: l, n, ⟨d, hd, h⟩ => by
    unfold hfold
    by_cases hc : dv c < 0
    · rw [if_pos hc]
    · rw [if_neg hc]
      rcases List.mem_cons.1 hd with rfl | hd
      · exact absurd h hc
      · exact hfold_no l _ ⟨d, hd, h⟩
theorem lower_four (a b c d : UInt8) : hfold ((Lib.toLowerD [a, b, c, d]).map fun x => (x.toNat : Int)) 0 = hex4 [(a.toNat : Int), b.toNat, c.toNat, d.toNat] ∧ (0 ≤ hex4 [(a.toNat : Int), b.toNat, c.toNat, d.toNat] → (Lib.toLowerD [a, b, c, d]).length = 4) := by
  by_cases h : ∀ x ∈ [a, b, c, d], x.toNat < 128
  · have e := lowerD_low [a, b, c, d] h
    have hlen : (Lib.toLowerD [a, b, c, d]).length = 4 := by have := congrArg List.length e; simpa using this
    refine ⟨?_, fun _ => hlen⟩
    rw [e]
    simp only [List.map_cons, List.map_nil, hfold, dv_low, hex4]
    by_cases h1 : hexv a.toNat < 0
    · rw [if_pos h1, if_neg (by omega)]
    · rw [if_neg h1]
      by_cases h2 : hexv b.toNat < 0
      · rw [if_pos h2, if_neg (by omega)]
      · rw [if_neg h2]
        by_cases h3 : hexv c.toNat < 0
        · rw [if_pos h3, if_neg (by omega)]
        · rw [if_neg h3]
          by_cases h4 : hexv d.toNat < 0
          · rw [if_pos h4, if_neg (by omega)]
          · rw [if_neg h4, if_pos (by omega)]; omega
  · have hx : ∃ x ∈ [a, b, c, d], ¬ x.toNat < 128 := by
      simpa only [Classical.not_forall, exists_prop] using h
    obtain ⟨p, y, _, hy, hd⟩ := lowerD_high [a, b, c, d] hx
    rw [hfold_no _ 0 ⟨(y.toNat : Int), List.mem_map.2 ⟨y, List.mem_of_getElem? hy, rfl⟩, by omega⟩]
    have hex : hex4 [(a.toNat : Int), b.toNat, c.toNat, d.toNat] = -1 := by
      unfold hex4
      simp only []
      rw [if_neg]
      obtain ⟨x, hx1, hx2⟩ := hx
      have hv : hexv (x.toNat : Int) = -1 := by unfold hexv; rw [if_neg (by omega), if_neg (by omega), if_neg (by omega)]
      simp only [List.mem_cons, List.not_mem_nil, or_false] at hx1
      rcases hx1 with rfl | rfl | rfl | rfl <;> omega
    rw [hex]
    exact ⟨rfl, fun h => absurd h (by decide)⟩
theorem lower_stops (a b c d : UInt8) : (Lib.toLowerD [a, b, c, d]).length = 4 ∨ ∃ p, p < 4 ∧ p < (Lib.toLowerD [a, b, c, d]).length ∧ dv ((Lib.toLowerD [a, b, c, d]).getD p 0).toNat = -1 := by
  by_cases h : ∀ x ∈ [a, b, c, d], x.toNat < 128
  · have e := lowerD_low [a, b, c, d] h
    exact .inl (by have := congrArg List.length e; simpa using this)
  · have hx : ∃ x ∈ [a, b, c, d], ¬ x.toNat < 128 := by
      simpa only [Classical.not_forall, exists_prop] using h
    obtain ⟨p, y, hp, hy, hd⟩ := lowerD_high [a, b, c, d] hx
    refine .inr ⟨p, hp, (List.getElem?_eq_some_iff.1 hy).1, ?_⟩
    rw [List.getD_eq_getElem?_getD, hy]; exact hd
theorem mapD_len (f : Int → Int) : ∀ (n : Nat) (l : List UInt8), l.length ≤ n → (Lib.mapD f l).length ≤ 4 * l.length
  | 0, l, h => by
    have : l = [] := List.eq_nil_of_length_eq_zero (by omega)
    subst this
    exact Nat.le_refl _
  | n + 1, l, h => by
    by_cases hl : l = []
    · subst hl; exact Nat.le_refl _
    · have hp := List.length_pos_iff.2 hl
      have hw := Lib.decodeL_width l
      have hle := Lib.decodeL_le l hl
      have ih := mapD_len f n (l.drop (Lib.decodeL l).2) (by rw [List.length_drop]; omega)
      rw [Lib.mapD_step f l hl, List.length_append]
      rw [List.length_drop] at ih
      have he : ∀ z, (Lib.encodeRune z).length ≤ 4 := by
        intro z
        unfold Lib.encodeRune Lib.encodeRuneZ
        repeat' split
        all_goals simp
      have := he (f (Lib.decodeL l).1)
      split
      · omega
      · simp; omega
theorem hex_index (c : Int) (h0 : 0 ≤ c) (h1 : c ≤ 255) : Lib.indexByte [48, 49, 50, 51, 52, 53, 54, 55, 56, 57, 97, 98, 99, 100, 101, 102] c.toNat.toUInt8 = dv c := by
  have key : ∀ n : Fin 256, Lib.indexByte [48, 49, 50, 51, 52, 53, 54, 55, 56, 57, 97, 98, 99, 100, 101, 102] (n.val : Int).toNat.toUInt8 = dv (n.val : Int) := by decide +kernel
  obtain ⟨n, rfl⟩ : ∃ n : Nat, c = n := ⟨c.toNat, by omega⟩
  exact key ⟨n, by omega⟩
end Go.Proofs.YtjgpmfjkcioinaaDoor.G
