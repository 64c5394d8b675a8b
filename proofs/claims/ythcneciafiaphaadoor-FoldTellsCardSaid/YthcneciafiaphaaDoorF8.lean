/-
  fold: 'Indent'.
  fold: what 'Fold' leans on: lines cut one by one, the first line that is not blank, lines joined.
  fold: 'Fold'.
-/
import Derived.Test.YthcneciafiaphaaDoorF5
import Derived.Test.YthcneciafiaphaaDoorWWords
import Derived.Lib.Join
import Derived.RegionTactic
import Derived.ChangeAlike
namespace Go.Proofs.YthcneciafiaphaaDoor.G
open Go.RowKit Go.Shelf Go.Proofs.YthcneciafiaphaaDoorW.PrintWords Go.Proofs.YthcneciafiaphaaDoor.M
set_option linter.unusedVariables false
set_option linter.unusedSimpArgs false
attribute [local irreducible] Utf8.encode Utf8.decode

theorem ind_one (a : Int) (x : List Int) (r : List (List Int)) : ind a (x :: r) = if blk x = true then ind a r else if a < 0 ∨ (marg x : Int) < a then ind (marg x) r else ind a r := by
  rw [ind]
  cases h : blk x with
  | true => rw [if_neg (by simp), if_pos rfl]
  | false =>
    rw [if_neg (show ¬ (false = true) by decide)]
    by_cases q : a < 0 ∨ (marg x : Int) < a
    · rw [if_pos ⟨rfl, q⟩, if_pos q]
    · rw [if_neg (fun z => q z.2), if_neg q]
set_option maxHeartbeats 4000000 in
theorem Indent_any (A : Option Addr) (c : Nat) (L : List ByteArray) (w : World) (hC : Kd.C Kd.string w A L.length L) (hn : L.length ≤ 10000000) (hz : ∀ x ∈ L, x.size ≤ 1000000) :
    Calls Tryd.prog 16 #[.slice A L.length c] w fun e w' => e = .returned (.int .i64 (indent (L.map by_))) ∧ Below w.heap.size w w' := by
  go_enter Tryd.func16, Tryd.ntmps16
  go_wp2
  go_loopw [3, 8] (fun m i wr => ∃ (a : Int) (k : Nat), m = .int .i64 a ∧ i = .int .i64 (k : Int) ∧ k ≤ L.length ∧ -1 ≤ a ∧ a ≤ 1000000 ∧ Hid (ind a ((L.map by_).drop (max 1 k)) = indent (L.map by_)) ∧ Below w.heap.size w wr) (fun _ i _ => L.length - (intOf i).toNat)
  case atStart => exact ⟨-1, 0, rfl, rfl, Nat.zero_le _, Int.le_refl _, by omega, Lib.hid (by unfold indent; rw [show max 1 0 = 1 from rfl, List.drop_one]), Below.refl _ _⟩
  case round =>
    obtain ⟨a, k, rfl, rfl, hk, ha0, ha1, hi, hb⟩ := hrel
    have hsize := hb.size
    by_cases hlt : k < L.length
    · have hCw : Kd.C Kd.string wr A L.length L := Kd.C_below hC hb
      obtain ⟨ad, rfl, hcell⟩ := Kd.at_string hCw (k : Int) (by omega) (by omega)
      obtain ⟨x, hx⟩ : ∃ x, L[k]? = some x := ⟨L[k], List.getElem?_eq_getElem hlt⟩
      have hxe : rdOf ByteArray.empty L (k : Int) = x := by unfold rdOf; rw [Int.toNat_natCast, List.getD_eq_getElem?_getD, hx]; rfl
      rw [Int.toNat_natCast, hxe] at hcell
      have hxz := hz x (List.mem_of_getElem? hx)
      by_cases hk0 : k < 1
      · have h2 : Hid (ind a ((L.map by_).drop (max 1 (k + 1))) = indent (L.map by_)) := by
          rw [show max 1 (k + 1) = max 1 k by omega]; exact hi
        clear hi hCw hC hx hxe
        go_wp2
        go_roundw
        case rel => exact ⟨a, k + 1, rfl, by go_num, by omega, ha0, ha1, h2, hb⟩
        case measure => simp [intOf]; omega
      · have hk1 : 0 < k := by omega
        have hd : (L.map by_).drop (max 1 k) = by_ x :: (L.map by_).drop (max 1 (k + 1)) := by
          rw [show max 1 k = k by omega, show max 1 (k + 1) = k + 1 by omega, List.drop_eq_getElem_cons (by rw [List.length_map]; exact hlt), List.getElem_map]
          rw [List.getElem?_eq_getElem hlt] at hx
          rw [Option.some.inj hx]
        have hi2 : ind a (by_ x :: (L.map by_).drop (max 1 (k + 1))) = indent (L.map by_) := by rw [← hd]; exact hi.out
        rw [ind_one] at hi2
        have hB := fun (W : World) => blank_any x W (by omega)
        have hN := fun (W : World) => indent_any x W (by omega)
        have hml : marg (by_ x) ≤ x.size := by have := marg_le (by_ x); rw [by_length] at this; exact this
        obtain ⟨m, hm⟩ : ∃ m, marg (by_ x) = m := ⟨_, rfl⟩
        obtain ⟨R, hR⟩ : ∃ R, (L.map by_).drop (max 1 (k + 1)) = R := ⟨_, rfl⟩
        rw [hm] at hN hml hi2
        rw [hR] at hi2
        have fin : ∀ a', ind a' R = indent (L.map by_) → Hid (ind a' ((L.map by_).drop (max 1 (k + 1))) = indent (L.map by_)) := fun a' h => Lib.hid (by rw [hR]; exact h)
        have FIN := Lib.hid fin
        have HI := Lib.hid hi2
        have HD := Lib.hid hm
        clear hi hi2 hCw hC hx hxe hd hm hR fin
        cases hbx : blk (by_ x) with
        | true =>
          rw [hbx] at hB
          have h2 := FIN.out a (by have := HI.out; rw [hbx, if_pos rfl] at this; exact this)
          clear hbx
          go_wp2_with (go_at_call 28; refine (hB _).mono ?_; rintro e w1 ⟨rfl, hbn⟩; have hb := hb.trans (hbn.mono hb.size))
          go_roundw
          case rel => exact ⟨a, k + 1, rfl, by go_num, by omega, ha0, ha1, h2, hb⟩
          case measure => simp [intOf]; omega
        | false =>
          rw [hbx] at hB
          have HI2 : Hid ((if a < 0 ∨ (m : Int) < a then ind m R else ind a R) = indent (L.map by_)) := Lib.hid (by have := HI.out; rw [hbx, if_neg (by decide)] at this; exact this)
          clear hbx HI
          by_cases ha : a < 0
          · have h2 := FIN.out m (by have := HI2.out; rw [if_pos (.inl ha)] at this; exact this)
            go_wp2_with (first
              | (go_at_call 28; refine (hB _).mono ?_; rintro e w1 ⟨rfl, hbn⟩; have hb := hb.trans (hbn.mono hb.size))
              | (go_at_call 29; refine (hN _).mono ?_; rintro e w1 ⟨rfl, hbn⟩; have hb := hb.trans (hbn.mono hb.size)))
            go_roundw
            case rel => exact ⟨m, k + 1, rfl, by go_num, by omega, by omega, by omega, h2, hb⟩
            case measure => simp [intOf]; omega
          · by_cases hma : (m : Int) < a
            · have h2 := FIN.out m (by have := HI2.out; rw [if_pos (.inr hma)] at this; exact this)
              go_wp2_with (first
                | (go_at_call 28; refine (hB _).mono ?_; rintro e w1 ⟨rfl, hbn⟩; have hb := hb.trans (hbn.mono hb.size))
                | (go_at_call 29; refine (hN _).mono ?_; rintro e w1 ⟨rfl, hbn⟩; have hb := hb.trans (hbn.mono hb.size)))
              go_roundw
              case rel => exact ⟨m, k + 1, rfl, by go_num, by omega, by omega, by omega, h2, hb⟩
              case measure => simp [intOf]; omega
            · have h2 := FIN.out a (by have := HI2.out; rw [if_neg (by omega)] at this; exact this)
              go_wp2_with (first
                | (go_at_call 28; refine (hB _).mono ?_; rintro e w1 ⟨rfl, hbn⟩; have hb := hb.trans (hbn.mono hb.size))
                | (go_at_call 29; refine (hN _).mono ?_; rintro e w1 ⟨rfl, hbn⟩; have hb := hb.trans (hbn.mono hb.size)))
              go_roundw
              case rel => exact ⟨a, k + 1, rfl, by go_num, by omega, ha0, ha1, h2, hb⟩
              case measure => simp [intOf]; omega
    · have hk2 : (L.map by_).drop (max 1 k) = [] := List.drop_eq_nil_iff.2 (by rw [List.length_map]; omega)
      have hr : a = indent (L.map by_) := by rw [← hi.out, hk2]; rfl
      have HR := Lib.hid hr
      clear hr hk2 hi
      go_wp2
      go_ret
      exact ⟨ret_int HR.out, hb⟩
end Go.Proofs.YthcneciafiaphaaDoor.G
namespace Go.Proofs.YthcneciafiaphaaDoor.G
open Go.RowKit Go.Shelf Go.Proofs.YthcneciafiaphaaDoorW.PrintWords Go.Proofs.YthcneciafiaphaaDoor.M
set_option linter.unusedVariables false
set_option linter.unusedSimpArgs false
attribute [local irreducible] Utf8.encode Utf8.decode

/-- A line without its first bytes. -/
def dropB (n : Nat) (x : ByteArray) : ByteArray := x.extract (min n x.size) x.size
theorem by_dropB (n : Nat) (x : ByteArray) : by_ (dropB n x) = (by_ x).drop n := by
  unfold dropB
  rw [by_extract, List.take_of_length_le (by rw [by_length]; exact Nat.le_refl _)]
  rcases Nat.le_total n x.size with h | h
  · rw [Nat.min_eq_left h]
  · rw [Nat.min_eq_right h, List.drop_eq_nil_iff.2 (by rw [by_length]; exact Nat.le_refl _), List.drop_eq_nil_iff.2 (by rw [by_length]; exact h)]
theorem dropB_size (n : Nat) (x : ByteArray) : (dropB n x).size ≤ x.size := by unfold dropB; rw [ByteArray.size_extract]; omega
/-- The first k lines, but the first one, are cut. -/
def cutTo (n k : Nat) (L : List ByteArray) : List ByteArray := L.mapIdx fun j x => if 0 < j ∧ j < k then dropB n x else x
theorem cutTo_length (n k : Nat) (L : List ByteArray) : (cutTo n k L).length = L.length := List.length_mapIdx
theorem cutTo_get (n k : Nat) (L : List ByteArray) (j : Nat) : (cutTo n k L)[j]? = (L[j]?).map fun x => if 0 < j ∧ j < k then dropB n x else x := List.getElem?_mapIdx
theorem cutTo_zero (n : Nat) (L : List ByteArray) : cutTo n 0 L = L := by
  refine List.ext_getElem? fun j => ?_
  rw [cutTo_get]
  cases L[j]? with
  | none => rfl
  | some x => simp
theorem cutTo_keep (n : Nat) (L : List ByteArray) : cutTo n 1 L = cutTo n 0 L := by
  refine List.ext_getElem? fun j => ?_
  rw [cutTo_get, cutTo_get]
  congr 1
  funext x
  rw [if_neg (by omega), if_neg (by omega)]
theorem cutTo_step (n k : Nat) (L : List ByteArray) (hk : 0 < k) (x : ByteArray) (hx : L[k]? = some x) : (cutTo n k L).set k (dropB n x) = cutTo n (k + 1) L := by
  refine List.ext_getElem? fun j => ?_
  have hl := (List.getElem?_eq_some_iff.1 hx).1
  rw [List.getElem?_set, cutTo_get, cutTo_get, cutTo_length]
  by_cases e : k = j
  · subst e
    rw [if_pos rfl, if_pos hl, hx, Option.map_some, if_pos ⟨hk, by omega⟩]
  · rw [if_neg e]
    congr 1
    funext y
    by_cases q : 0 < j ∧ j < k
    · rw [if_pos q, if_pos ⟨q.1, by omega⟩]
    · rw [if_neg q, if_neg (by omega)]
theorem cutTo_at (n k : Nat) (L : List ByteArray) (x : ByteArray) (hx : L[k]? = some x) : (cutTo n k L)[k]? = some x := by
  rw [cutTo_get, hx, Option.map_some, if_neg (by omega)]
theorem cutTo_full (n : Nat) (L : List ByteArray) : (cutTo n L.length L).map by_ = cutAll n (L.map by_) := by
  cases L with
  | nil => rfl
  | cons x r =>
    show _ = by_ x :: (r.map by_).map (List.drop n)
    refine List.ext_getElem? fun j => ?_
    rw [List.getElem?_map, cutTo_get]
    cases j with
    | zero => rfl
    | succ j =>
      rw [List.getElem?_cons_succ, List.getElem?_cons_succ, List.getElem?_map, List.getElem?_map]
      cases hj : r[j]? with
      | none => rfl
      | some y =>
        have hl := (List.getElem?_eq_some_iff.1 hj).1
        rw [Option.map_some, Option.map_some, Option.map_some, Option.map_some, if_pos ⟨by omega, by rw [List.length_cons]; omega⟩, by_dropB]
theorem cutTo_small (n k : Nat) (L : List ByteArray) (N : Nat) (h : ∀ x ∈ L, x.size ≤ N) : ∀ x ∈ cutTo n k L, x.size ≤ N := by
  intro x hx
  obtain ⟨j, hj⟩ := List.mem_iff_getElem?.1 hx
  rw [cutTo_get] at hj
  cases hL : L[j]? with
  | none => rw [hL] at hj; cases hj
  | some y =>
    rw [hL, Option.map_some, Option.some.injEq] at hj
    have hy := h y (List.mem_of_getElem? hL)
    have hd := dropB_size n y
    rw [← hj]
    split <;> omega
/-- Where the first line that is not blank stands, counted from a number on. -/
def ff : List ByteArray → Nat → Int
  | [], _ => -1
  | x :: r, k => if blk (by_ x) = true then ff r (k + 1) else (k : Int)
theorem ff_head : ∀ (L : List ByteArray) (k : Nat), (ff L k < 0 ∧ ff L k = -1 ∧ headless (L.map by_) = []) ∨ (∃ j : Nat, ff L k = ((k + j : Nat) : Int) ∧ j < L.length ∧ headless (L.map by_) = (L.map by_).drop j ∧ ∃ x, L[j]? = some x ∧ blk (by_ x) = false)
  | [], k => .inl ⟨by show (-1 : Int) < 0; omega, rfl, rfl⟩
  | x :: r, k => by
    rw [ff]
    cases h : blk (by_ x) with
    | true =>
      rw [if_pos rfl, List.map_cons, headless_blk h]
      rcases ff_head r (k + 1) with q | ⟨j, q1, q2, q3, q4⟩
      · exact .inl q
      · exact .inr ⟨j + 1, by rw [q1]; congr 1; omega, by rw [List.length_cons]; omega, by rw [q3]; rfl, q4⟩
    | false =>
      rw [if_neg (by decide)]
      exact .inr ⟨0, rfl, by simp, by rw [List.map_cons, headless_no h]; rfl, x, rfl, h⟩
theorem jn_join : ∀ (xs : List ByteArray), by_ ⟨(Lib.join (xs.map (·.data.toList)) [10]).toArray⟩ = jn (xs.map by_)
  | [] => rfl
  | [x] => by
    rw [List.map_cons, List.map_nil, Lib.join_one, by_mk]
    show _ = by_ x ++ []
    rw [List.append_nil]; rfl
  | x :: y :: r => by
    have ih := jn_join (y :: r)
    have e : Lib.join ((x :: y :: r).map (·.data.toList)) [10] = x.data.toList ++ [10] ++ Lib.join ((y :: r).map (·.data.toList)) [10] := by
      unfold Lib.join; simp [List.intercalate]
    have e2 : jn ((x :: y :: r).map by_) = by_ x ++ 10 :: jn ((y :: r).map by_) := jn_cons (by simp)
    rw [e, e2, ← ih, by_mk, by_mk]
    simp only [List.map_append, List.append_assoc]
    rfl
theorem jn_join_b (xs : List ByteArray) : (⟨(Lib.join (xs.map (·.data.toList)) [10]).toArray⟩ : ByteArray) = ba (jn (xs.map by_)) := by rw [← jn_join, ba_by]
set_option maxHeartbeats 400000 in
theorem full_any (s : ByteArray) (w : World) (hs : s.size ≤ 140737488351232) :
    Calls Tryd.prog 30 #[.string s] w fun e w' => e = .returned (.bool (!blk (by_ s))) ∧ Below w.heap.size w w' := by
  have hB := blank_any s w hs
  obtain ⟨b, hb⟩ : ∃ b, blk (by_ s) = b := ⟨_, rfl⟩
  rw [hb] at hB ⊢
  clear hb
  go_enter Tryd.func30, Tryd.ntmps30
  go_wp2_with (go_at_call 28; refine hB.mono ?_; rintro e w' ⟨rfl, hb⟩)
  go_ret
  exact ⟨rfl, hb⟩
set_option maxHeartbeats 4000000 in
theorem index_any (g cap : Nat) (L : List ByteArray) (w : World) (hc : ∀ j x, L[j]? = some x → w.cell? ⟨g, j, none⟩ = some (.string x)) (hg : g < w.heap.size) (hn : L.length ≤ 10000000) (hz : ∀ x ∈ L, x.size ≤ 1000000) :
    Calls Tryd.prog 31 #[.slice (some ⟨g, 0, none⟩) L.length cap, .func (.func 30) #[] #[]] w fun e w' => e = .returned (.int .i64 (ff L 0)) ∧ Below w.heap.size w w' := by
  go_enter Tryd.func31, Tryd.ntmps31
  go_wp2
  go_loopw [8] (fun i wr => ∃ k : Nat, i = .int .i64 (k : Int) ∧ k ≤ L.length ∧ Hid (ff (L.drop k) k = ff L 0) ∧ Below w.heap.size w wr) (fun i _ => L.length - (intOf i).toNat)
  case atStart => exact ⟨0, rfl, Nat.zero_le _, Lib.hid (by rw [List.drop_zero]), Below.refl _ _⟩
  case round =>
    obtain ⟨k, rfl, hk, hi, hb⟩ := hrel
    by_cases hlt : k < L.length
    · obtain ⟨x, hx⟩ : ∃ x, L[k]? = some x := ⟨L[k], List.getElem?_eq_getElem hlt⟩
      have hcell : wr.cell? ⟨g, k, none⟩ = some (.string x) := (hb.cell (p := ⟨g, k, none⟩) hg).trans (hc k x hx)
      have hF := fun (W : World) => full_any x W (by have := hz x (List.mem_of_getElem? hx); omega)
      have hd : L.drop k = x :: L.drop (k + 1) := by
        rw [List.drop_eq_getElem_cons hlt]
        rw [List.getElem?_eq_getElem hlt] at hx
        rw [Option.some.inj hx]
      have hi2 := hi.out
      rw [hd, ff] at hi2
      obtain ⟨R, hR⟩ : ∃ R, ff (L.drop (k + 1)) (k + 1) = R := ⟨_, rfl⟩
      cases hbx : blk (by_ x) with
      | true =>
        rw [hbx] at hF
        rw [hbx, if_pos rfl] at hi2
        have HI := Lib.hid hi2
        clear hi2 hi hd hx hc hbx hR
        go_wp2_with (go_at_call 30; refine (hF _).mono ?_; rintro e w1 ⟨rfl, hbn⟩; have hb := hb.trans (hbn.mono hb.size))
        go_roundw
        case rel => exact ⟨k + 1, by go_num, by omega, HI, hb⟩
        case measure => simp [intOf]; omega
      | false =>
        rw [hbx] at hF
        rw [hbx, if_neg (by decide)] at hi2
        have HI := Lib.hid hi2
        clear hi2 hi hd hx hc hbx hR
        go_wp2_with (go_at_call 30; refine (hF _).mono ?_; rintro e w1 ⟨rfl, hbn⟩; have hb := hb.trans (hbn.mono hb.size))
        go_ret
        exact ⟨ret_int HI.out, hb⟩
    · have hr : (-1 : Int) = ff L 0 := by
        have := hi.out
        rw [List.drop_eq_nil_iff.2 (by omega)] at this
        exact this
      have HI := Lib.hid hr
      clear hr hi hc
      go_wp2
      go_ret
      exact ⟨ret_int HI.out, hb⟩
end Go.Proofs.YthcneciafiaphaaDoor.G
namespace Go.Proofs.YthcneciafiaphaaDoor.G
open Go.RowKit Go.Shelf Go.Proofs.YthcneciafiaphaaDoorW.PrintWords Go.Proofs.YthcneciafiaphaaDoor.M
set_option linter.unusedVariables false
set_option linter.unusedSimpArgs false
attribute [local irreducible] Utf8.encode Utf8.decode

theorem own_cells {W : World} {base g cap : Nat} {xs : List ByteArray} {n : Nat} (h : W.ownsRow base 9 1 (.slice (some ⟨g, 0, none⟩) n cap) n (xs.map Value.string)) (j : Nat) (x : ByteArray) (hx : xs[j]? = some x) : W.cell? ⟨g, j, none⟩ = some (.string x) := by
  have hl : xs.length = n := by have := h.1; rw [List.length_map, Nat.mul_one] at this; exact this
  have hj := (List.getElem?_eq_some_iff.1 hx).1
  rw [h.cellAt j (by omega), List.getElem?_map, hx]; rfl
theorem ret_str {a b : ByteArray} (h : a = b) : Ending.returned (.string a) = .returned (.string b) := by rw [h]
theorem jn_bound (N : Nat) : ∀ (r : List (List Int)), (∀ x ∈ r, x.length ≤ N) → (jn r).length ≤ r.length * (N + 1)
  | [], _ => Nat.zero_le _
  | [x], h => by
    have := h x (by simp)
    show (x ++ []).length ≤ _
    simp; omega
  | x :: y :: r, h => by
    have h1 := h x (by simp)
    have h2 := jn_bound N (y :: r) (fun z hz => h z (by simp [List.mem_cons.1 hz]))
    have e : (x :: y :: r).length * (N + 1) = (y :: r).length * (N + 1) + (N + 1) := by rw [List.length_cons, Nat.succ_mul]
    rw [jn_cons (by simp), List.length_append, List.length_cons, e]
    omega
theorem join_small (xs : List ByteArray) (hn : xs.length ≤ 10000000) (h : ∀ x ∈ xs, x.size ≤ 1000000) : (Lib.join (xs.map (·.data.toList)) (⟨#[10]⟩ : ByteArray).data.toList).length ≤ 140737488355328 := by
  have e : (Lib.join (xs.map (·.data.toList)) (⟨#[10]⟩ : ByteArray).data.toList).length = (jn (xs.map by_)).length := by
    rw [← jn_join, by_length]
    show _ = (Lib.join (xs.map (·.data.toList)) [10]).toArray.size
    simp
  have hb := jn_bound 1000000 (xs.map by_) (fun x hx => by
    obtain ⟨y, hy, rfl⟩ := List.mem_map.1 hx
    rw [by_length]; exact h y hy)
  rw [List.length_map] at hb
  rw [e]; omega
theorem grown_of_below' {W W' : World} (h : Below W.heap.size W W') : W.grownBy W' none := ⟨h.os, h.tape, h.output, h.size, fun k hk _ => h.block k hk⟩
theorem own_form {W : World} {base n : Nat} {e : TypeId} {v : Value} {xs : List Value} (h : W.ownsRow base e 1 v n xs) (hn : 0 < n) : ∃ g cap, v = .slice (some ⟨g, 0, none⟩) n cap ∧ base ≤ g ∧ g < W.heap.size ∧ n ≤ cap := by
  rcases h.2 with ⟨_, h0⟩ | ⟨g, cap, cur, hv, hb, hh, hc, _⟩
  · omega
  · exact ⟨g, cap, hv, hb, (Array.getElem?_eq_some_iff.1 hh).1, hc⟩
theorem C_of_own {W : World} {base c : Nat} {A : Option Addr} {xs : List ByteArray} (h : W.ownsRow base 9 1 (.slice A xs.length c) xs.length (xs.map Value.string)) : Kd.C Kd.string W A xs.length xs := by
  obtain ⟨A', c', he, _, hC⟩ := Kd.R_reads (e := 9) (d := Kd.string) (Kd.R_of_own (enc := Value.string) (h1 := fun _ => rfl) (ok := fun _ => True) (xs := xs) h (fun _ _ => trivial))
  cases he
  exact hC
set_option maxHeartbeats 8000000 in
set_option maxRecDepth 100000 in
theorem Fold_any (s : ByteArray) (w : World) (hs : s.size ≤ 1000000) :
    Calls Tryd.prog 18 #[.string s] w fun e w' => e = .returned (.string (ba (foldL (by_ s)))) ∧ Below w.heap.size w w' := by
  have hL := flines_any s w hs
  have hlen := fls_length s
  have hsmall : ∀ x ∈ fls s, x.size ≤ 1000000 := by
    intro x hx
    have h2 : by_ x ∈ fl false (by_ s) := by rw [← fls_by]; exact List.mem_map.2 ⟨x, hx, rfl⟩
    have h3 := sz_fl false (by_ s)
    have gen : ∀ (r : List (List Int)) (y : List Int), y ∈ r → y.length + 1 ≤ sz r := by
      intro r
      induction r with
      | nil => intro y hy; cases hy
      | cons z r ih =>
        intro y hy
        rw [sz_cons]
        rcases List.mem_cons.1 hy with rfl | hy
        · omega
        · have := ih y hy; omega
    have := gen _ _ h2
    rw [by_length] at this h3
    omega
  have hres : foldL (by_ s) = jn (tailless (headless ((cutTo (indent ((fls s).map by_)).toNat (fls s).length (fls s)).map by_))) := by
    rw [cutTo_full, fls_by]; rfl
  have hne : 0 < (fls s).length := by
    unfold fls; rw [List.length_map]; exact fl_pos _ _
  rw [hres]
  clear hres
  obtain ⟨L, hLe⟩ : ∃ L, fls s = L := ⟨_, rfl⟩
  rw [hLe] at hL hlen hsmall hne ⊢
  clear hLe
  have hI := fun (W : World) (A : Option Addr) (c : Nat) (hC : Kd.C Kd.string W A L.length L) => Indent_any A c L W hC (by omega) hsmall
  have hib : -1 ≤ indent (L.map by_) := ind_ge _ _ (Int.le_refl _)
  obtain ⟨d, hd⟩ : ∃ d, (indent (L.map by_)).toNat = d := ⟨_, rfl⟩
  obtain ⟨I, hIe⟩ : ∃ I, indent (L.map by_) = I := ⟨_, rfl⟩
  rw [hIe] at hI hd hib
  rw [hIe, hd]
  have hmx : max 0 I = (d : Int) := by omega
  have HM := Lib.hid hmx
  have HD := Lib.hid hd
  clear hmx hd hIe
  have hXl := cutTo_length d L.length L
  have hXs := cutTo_small d L.length L 1000000 hsmall
  obtain ⟨X, hX⟩ : ∃ X, cutTo d L.length L = X := ⟨_, rfl⟩
  rw [hX] at hXl hXs ⊢
  obtain ⟨T, hT⟩ : ∃ T, ba (jn (tailless (headless (X.map by_)))) = T := ⟨_, rfl⟩
  rw [hT]
  have HT := Lib.hid hT
  have HX := Lib.hid hX
  have HXl := Lib.hid hXl
  clear hT hX hXl
  go_enter Tryd.func18, Tryd.ntmps18
  go_wp2_with (first
    | (go_at_call 14; refine hL.mono ?_; rintro e w1 ⟨v, rfl, ho, hb⟩; obtain ⟨g, cap, rfl, hgb, hgl, hnc⟩ := own_form ho hne; have hI1 := hI w1 _ cap (C_of_own ho))
    | (go_at_call 16; refine hI1.mono ?_; rintro e w2 ⟨rfl, hb2⟩))
  rw [HM.out]
  have hb := hb.trans (hb2.mono hb.size)
  have ho := pw_own_below ho hb2
  clear hb2 hI hI1 hL
  go_loopw [16] (fun i wr => ∃ k : Nat, i = .int .i64 (k : Int) ∧ k ≤ L.length ∧ wr.ownsRow w.heap.size 9 1 (.slice (some ⟨g, 0, none⟩) L.length cap) L.length ((cutTo d k L).map Value.string) ∧ Below w.heap.size w wr) (fun i _ => L.length - (intOf i).toNat)
  case atStart => exact ⟨0, rfl, Nat.zero_le _, by rw [cutTo_zero]; exact ho, hb⟩
  case round =>
    obtain ⟨k, rfl, hk, ho, hb⟩ := hrel
    by_cases hlt : k < L.length
    · obtain ⟨x, hx⟩ : ∃ x, L[k]? = some x := ⟨L[k], List.getElem?_eq_getElem hlt⟩
      have hcell := own_cells ho k x (cutTo_at d k L x hx)
      have hfro := ho.frozenAt k
      by_cases hk0 : k < 1
      · have hcut : cutTo d (k + 1) L = cutTo d k L := by
          obtain rfl : k = 0 := by omega
          exact cutTo_keep d L
        have HC := Lib.hid hcut
        clear hcut hx
        go_wp2
        go_roundw
        case rel => exact ⟨k + 1, by go_num, by omega, by rw [HC.out]; exact ho, hb⟩
        case measure => simp [intOf]; omega
      · have hk1 : 0 < k := by omega
        have hst := own_store_of (enc := Value.string) (xs := cutTo d k L) ho (k : Int) (dropB d x)
        rw [Int.toNat_natCast, cutTo_step d k L hk1 x hx] at hst
        have HS := Lib.hid hst.1
        clear hst hx
        have hmn : min (d : Int) (x.size : Int) = ((min d x.size : Nat) : Int) := by omega
        have hmle : min d x.size ≤ x.size := Nat.min_le_right _ _
        obtain ⟨q, hq⟩ : ∃ q, min d x.size = q := ⟨_, rfl⟩
        rw [hq] at hmn hmle
        have hSq : x.extract q x.size = dropB d x := by unfold dropB; rw [hq]
        go_wp2
        go_region
        all_goals
          go_wp2
          go_roundw
          case rel => exact ⟨k + 1, by go_num, by omega, HS.out, (hb.setCell (p := ⟨g, k, none⟩) hgb _).drew⟩
          case measure => simp [intOf]; omega
    · obtain rfl : k = L.length := by omega
      rw [HX.out] at ho
      have hF := fun (W : World) (ho : W.ownsRow w.heap.size 9 1 (.slice (some ⟨g, 0, none⟩) L.length cap) L.length (X.map Value.string)) (hgl : g < W.heap.size) => index_any g cap X W (fun j x hx => own_cells ho j x hx) hgl (by rw [HXl.out]; omega) hXs
      rw [HXl.out] at hF
      have hgl2 : g < wr.heap.size := by
        obtain ⟨g', cap', e', _, h', _⟩ := own_form ho hne
        cases e'; exact h'
      have hF1 := hF wr ho hgl2
      rcases ff_head X 0 with ⟨q1, q2, q3⟩ | ⟨j, q1, q2, q3, q4⟩
      · rw [q2] at hF1
        have hT2 : (⟨#[]⟩ : ByteArray) = T := by rw [← HT.out, q3]; rfl
        have HT2 := Lib.hid hT2
        clear hF q1 q2 q3 hT2
        go_wp2_with (go_at_call 31; refine hF1.mono ?_; rintro e w3 ⟨rfl, hbn⟩; have hb := hb.trans (hbn.mono hb.size))
        go_ret
        exact ⟨ret_str HT2.out, hb⟩
      · rw [q1, Nat.zero_add] at hF1
        have hTj : ba (jn (tailless ((X.map by_).drop j))) = T := by rw [← HT.out, q3]
        have HTj := Lib.hid hTj
        obtain ⟨z, hz1, hz2⟩ := q4
        have HQ := Lib.hid hz2
        have HZ := Lib.hid hz1
        have hjn : j < L.length := by have := HXl.out; omega
        clear hF q1 q2 q3 hz1 hz2 hTj
        go_wp2_with (go_at_call 31; refine hF1.mono ?_; rintro e w3 ⟨rfl, hbn⟩; have hb := hb.trans (hbn.mono hb.size); have ho := pw_own_below ho hbn)
        go_loopw [8] (fun m wr => ∃ mm : Nat, m = .int .i64 (mm : Int) ∧ j < mm ∧ mm ≤ L.length ∧ Hid (tailless (((X.map by_).take mm).drop j) = tailless ((X.map by_).drop j)) ∧ wr.ownsRow w.heap.size 9 1 (.slice (some ⟨g, 0, none⟩) L.length cap) L.length (X.map Value.string) ∧ Below w.heap.size w wr) (fun m _ => (intOf m).toNat)
        case atStart => exact ⟨L.length, rfl, hjn, Nat.le_refl _, Lib.hid (by rw [List.take_of_length_le (by rw [List.length_map, HXl.out]; exact Nat.le_refl _)]), ho, hb⟩
        case round =>
          obtain ⟨mm, rfl, hm1, hm2, hm3, ho, hb⟩ := hrel
          obtain ⟨p, rfl⟩ : ∃ p, mm = p + 1 := ⟨mm - 1, by omega⟩
          have hpX : p < X.length := by rw [HXl.out]; omega
          obtain ⟨y, hy⟩ : ∃ y, X[p]? = some y := ⟨X[p], List.getElem?_eq_getElem hpX⟩
          have hcell := own_cells ho p y hy
          have hyz : y.size ≤ 1000000 := hXs y (List.mem_of_getElem? hy)
          have hB := fun (W : World) => blank_any y W (by omega)
          have htk : (X.map by_).take (p + 1) = (X.map by_).take p ++ [by_ y] := by
            rw [List.take_add_one, List.getElem?_map, hy]; rfl
          cases hby : blk (by_ y) with
          | true =>
            have hjp : j < p := by
              rcases Nat.lt_or_ge j p with q | q
              · exact q
              · exfalso
                obtain rfl : j = p := by omega
                have := HZ.out
                rw [hy] at this
                cases this
                rw [HQ.out] at hby; cases hby
            have h2 : Hid (tailless (((X.map by_).take p).drop j) = tailless ((X.map by_).drop j)) := Lib.hid (by
              rw [← hm3.out, htk, List.drop_append_of_le_length (by rw [List.length_take, List.length_map]; omega), tailless_blk _ hby])
            rw [hby] at hB
            clear hby htk hy hm3
            go_wp2_with (go_at_call 28; refine (hB _).mono ?_; rintro e w1 ⟨rfl, hbn⟩; have hb := hb.trans (hbn.mono hb.size); have ho := pw_own_below ho hbn)
            go_roundw
            case rel => exact ⟨p, by go_num, hjp, by omega, h2, ho, hb⟩
            case measure => first | (simp [intOf]; done) | (simp [intOf]; omega)
          | false =>
            have hid : tailless (((X.map by_).take (p + 1)).drop j) = ((X.map by_).take (p + 1)).drop j := by
              refine tailless_id _ fun x hx => ?_
              rw [htk, List.drop_append_of_le_length (by rw [List.length_take, List.length_map]; omega), List.getLast?_append] at hx
              cases hx
              exact hby
            have hT3 : ba (jn (((X.take (p + 1)).drop j).map by_)) = T := by
              rw [← HTj.out, ← hm3.out, hid, List.map_drop, List.map_take]
            have hjl : ((X.take (p + 1)).drop j).length = p + 1 - j := by rw [List.length_drop, List.length_take]; omega
            have hJ := fun (W : World) (ho : W.ownsRow w.heap.size 9 1 (.slice (some ⟨g, 0, none⟩) L.length cap) L.length (X.map Value.string)) => Tryd.strings_Join g j (cap - j) ((X.take (p + 1)).drop j) ⟨#[10]⟩ W (fun i x hx => by
                rw [List.getElem?_drop] at hx
                have hi : j + i < p + 1 := by have := (List.getElem?_eq_some_iff.1 hx).1; rw [List.length_take] at this; omega
                rw [List.getElem?_take_of_lt hi] at hx
                exact own_cells ho (j + i) x hx)
              (by obtain ⟨g', cap', e', _, h', _⟩ := own_form ho hne; cases e'; exact h') (by omega) (by omega) (join_small _ (by omega) (fun x hx => hXs x (List.mem_of_mem_take (List.mem_of_mem_drop hx))))
            rw [show (⟨#[10]⟩ : ByteArray).data.toList = [10] from rfl, jn_join_b, hT3, hjl] at hJ
            rw [hby] at hB
            have hcj : (cap == j) = false := beq_eq_false_iff_ne.2 (by omega)
            have hcj2 : ((cap : Nat) = j) = False := eq_false (by omega)
            clear hby htk hy hm3 hid hT3 hjl
            go_wp2_with (first
              | (go_at_call 28; refine (hB _).mono ?_; rintro e w1 ⟨rfl, hbn⟩; have hb := hb.trans (hbn.mono hb.size); have ho := pw_own_below ho hbn; have hJ1 := hJ _ ho)
              | (go_at_call 32; refine hJ1.mono ?_; rintro e w1 ⟨rfl, hbn⟩; have hb := hb.trans (hbn.mono hb.size)))
            go_ret
            exact ⟨rfl, hb⟩
end Go.Proofs.YthcneciafiaphaaDoor.G
