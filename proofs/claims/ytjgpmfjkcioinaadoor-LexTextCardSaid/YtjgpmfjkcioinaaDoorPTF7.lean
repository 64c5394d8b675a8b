/-
  fold: what 'Fold' leans on: lines cut one by one, the first line that is not blank, lines joined.
-/
import Derived.Test.YtjgpmfjkcioinaaDoorPTF6
import Derived.Lib.Join
namespace Go.Proofs.YtjgpmfjkcioinaaDoor.G
open Go.RowKit Go.Shelf Go.Proofs.YtjgpmfjkcioinaaDoorW.PrintWords Go.Proofs.YtjgpmfjkcioinaaDoor.M
set_option linter.unusedVariables false
set_option linter.unusedSimpArgs false
attribute [local irreducible] Utf8.encode Utf8.decode
def dropB (n : Nat) (x : ByteArray) : ByteArray := x.extract (min n x.size) x.size
theorem by_dropB (n : Nat) (x : ByteArray) : by_ (dropB n x) = (by_ x).drop n := by
  unfold dropB
  rw [by_extract, List.take_of_length_le (by rw [by_length]; exact Nat.le_refl _)]
  rcases Nat.le_total n x.size with h | h
  · rw [Nat.min_eq_left h]
  · rw [Nat.min_eq_right h, List.drop_eq_nil_iff.2 (by rw [by_length]; exact Nat.le_refl _), List.drop_eq_nil_iff.2 (by rw [by_length]; exact h)]
theorem dropB_size (n : Nat) (x : ByteArray) : (dropB n x).size ≤ x.size := by unfold dropB; rw [ByteArray.size_extract]; omega
def cutTo (n k : Nat) (L : List ByteArray) : List ByteArray := L.mapIdx fun j x => if 0 < j ∧ j < k then dropB n x else x
theorem cutTo_length (n k : Nat) (L : List ByteArray) : (cutTo n k L).length = L.length := List.length_mapIdx
theorem cutTo_get (n k : Nat) (L : List ByteArray) (j : Nat) : (cutTo n k L)[j]? = (L[j]?).map fun x => if 0 < j ∧ j < k then dropB n x else x := List.getElem?_mapIdx
theorem cutTo_zero (n : Nat) (L : List ByteArray) : cutTo n 0 L = L := by
  refine List.ext_getElem? fun j => ?_
  rw [cutTo_get]
  cases L[j]? with
  | none => rfl
  | some x => simp
theorem cutTo_keep (n : Nat) (L : List ByteArray) : cutTo n 1 L = cutTo n 0 L := by
  refine List.ext_getElem? fun j => ?_
  rw [cutTo_get, cutTo_get]
  congr 1
  funext x
  rw [if_neg (by omega), if_neg (by omega)]
theorem cutTo_step (n k : Nat) (L : List ByteArray) (hk : 0 < k) (x : ByteArray) (hx : L[k]? = some x) : (cutTo n k L).set k (dropB n x) = cutTo n (k + 1) L := by
  refine List.ext_getElem? fun j => ?_
  have hl := (List.getElem?_eq_some_iff.1 hx).1
  rw [List.getElem?_set, cutTo_get, cutTo_get, cutTo_length]
  by_cases e : k = j
  · subst e
    rw [if_pos rfl, if_pos hl, hx, Option.map_some, if_pos ⟨hk, by omega⟩]
  · rw [if_neg e]
    congr 1
    funext y
    by_cases q : 0 < j ∧ j < k
    · rw [if_pos q, if_pos ⟨q.1, by omega⟩]
    · rw [if_neg q, if_neg (by omega)]
theorem cutTo_at (n k : Nat) (L : List ByteArray) (x : ByteArray) (hx : L[k]? = some x) : (cutTo n k L)[k]? = some x := by
  rw [cutTo_get, hx, Option.map_some, if_neg (by omega)]
theorem cutTo_full (n : Nat) (L : List ByteArray) : (cutTo n L.length L).map by_ = cutAll n (L.map by_) := by
  cases L with
  | nil => rfl
  | cons x r =>
    show _ = by_ x :: (r.map by_).map (List.drop n)
    refine List.ext_getElem? fun j => ?_
    rw [List.getElem?_map, cutTo_get]
    cases j with
    | zero => rfl
    | succ j =>
      rw [List.getElem?_cons_succ, List.getElem?_cons_succ, List.getElem?_map, List.getElem?_map]
      cases hj : r[j]? with
      | none => rfl
      | some y =>
        have hl := (List.getElem?_eq_some_iff.1 hj).1
        rw [Option.map_some, Option.map_some, Option.map_some, Option.map_some, if_pos ⟨by omega, by rw [List.length_cons]; omega⟩, by_dropB]
theorem cutTo_small (n k : Nat) (L : List ByteArray) (N : Nat) (h : ∀ x ∈ L, x.size ≤ N) : ∀ x ∈ cutTo n k L, x.size ≤ N := by
  intro x hx
  obtain ⟨j, hj⟩ := List.mem_iff_getElem?.1 hx
  rw [cutTo_get] at hj
  cases hL : L[j]? with
  | none => rw [hL] at hj; cases hj
  | some y =>
    rw [hL, Option.map_some, Option.some.injEq] at hj
    have hy := h y (List.mem_of_getElem? hL)
    have hd := dropB_size n y
    rw [← hj]
    split <;> omega
def ff : List ByteArray → Nat → Int
  | [], _ => -1
  | x :: r, k => if blk (by_ x) = true then ff r (k + 1) else (k : Int)
theorem ff_head : ∀ (L : List ByteArray) (k : Nat), (ff L k < 0 ∧ ff L k = -1 ∧ headless (L.map by_) = []) ∨ (∃ j : Nat, ff L k = ((k + j : Nat) : Int) ∧ j < L.length ∧ headless (L.map by_) = (L.map by_).drop j ∧ ∃ x, L[j]? = some x ∧ blk (by_ x) = false)
  | [], k => .inl ⟨by show (-1 : Int) < 0; omega, rfl, rfl⟩
  | x :: r, k => by
    rw [ff]
    cases h : blk (by_ x) with
    | true =>
      rw [if_pos rfl, List.map_cons, headless_blk h]
      rcases ff_head r (k + 1) with q | ⟨j, q1, q2, q3, q4⟩
      · exact .inl q
      · exact .inr ⟨j + 1, by rw [q1]; congr 1; omega, by rw [List.length_cons]; omega, by rw [q3]; rfl, q4⟩
    | false =>
      rw [if_neg (by decide)]
      exact .inr ⟨0, rfl, by simp, by rw [List.map_cons, headless_no h]; rfl, x, rfl, h⟩
theorem jn_join : ∀ (xs : List ByteArray), by_ ⟨(Lib.join (xs.map (·.data.toList)) [10]).toArray⟩ = jn (xs.map by_)
  | [] => rfl
  | [x] => by
    rw [List.map_cons, List.map_nil, Lib.join_one, by_mk]
    show _ = by_ x ++ []
    rw [List.append_nil]; rfl
  | x :: y :: r => by
    have ih := jn_join (y :: r)
    have e : Lib.join ((x :: y :: r).map (·.data.toList)) [10] = x.data.toList ++ [10] ++ Lib.join ((y :: r).map (·.data.toList)) [10] := by
      unfold Lib.join; simp [List.intercalate]
    have e2 : jn ((x :: y :: r).map by_) = by_ x ++ 10 :: jn ((y :: r).map by_) := jn_cons (by simp)
    rw [e, e2, ← ih, by_mk, by_mk]
    simp only [List.map_append, List.append_assoc]
    rfl
theorem jn_join_b (xs : List ByteArray) : (⟨(Lib.join (xs.map (·.data.toList)) [10]).toArray⟩ : ByteArray) = ba (jn (xs.map by_)) := by rw [← jn_join, ba_by]
set_option maxHeartbeats 400000 in
theorem full_any (s : ByteArray) (w : World) (hs : s.size ≤ 140737488351232) :
    Calls Tryd.prog 62 #[.string s] w fun e w' => e = .returned (.bool (!blk (by_ s))) ∧ Below w.heap.size w w' := by
  have hB := fblank_any s w hs
  obtain ⟨b, hb⟩ : ∃ b, blk (by_ s) = b := ⟨_, rfl⟩
  rw [hb] at hB ⊢
  clear hb
  go_enter Tryd.func62, Tryd.ntmps62
  go_wp2_with (go_at_call 63; refine hB.mono ?_; rintro e w' ⟨rfl, hb⟩)
  go_ret
  exact ⟨rfl, hb⟩
set_option maxHeartbeats 4000000 in
theorem index_any (g cap : Nat) (L : List ByteArray) (w : World) (hc : ∀ j x, L[j]? = some x → w.cell? ⟨g, j, none⟩ = some (.string x)) (hg : g < w.heap.size) (hn : L.length ≤ 10000000) (hz : ∀ x ∈ L, x.size ≤ 1000000) :
    Calls Tryd.prog 64 #[.slice (some ⟨g, 0, none⟩) L.length cap, .func (.func 62) #[] #[]] w fun e w' => e = .returned (.int .i64 (ff L 0)) ∧ Below w.heap.size w w' := by
  go_enter Tryd.func64, Tryd.ntmps64
  go_wp2
  go_loopw [8] (fun i wr => ∃ k : Nat, i = .int .i64 (k : Int) ∧ k ≤ L.length ∧ Hid (ff (L.drop k) k = ff L 0) ∧ Below w.heap.size w wr) (fun i _ => L.length - (intOf i).toNat)
  case atStart => exact ⟨0, rfl, Nat.zero_le _, Lib.hid (by rw [List.drop_zero]), Below.refl _ _⟩
  case round =>
    obtain ⟨k, rfl, hk, hi, hb⟩ := hrel
    by_cases hlt : k < L.length
    · obtain ⟨x, hx⟩ : ∃ x, L[k]? = some x := ⟨L[k], List.getElem?_eq_getElem hlt⟩
      have hcell : wr.cell? ⟨g, k, none⟩ = some (.string x) := (hb.cell (p := ⟨g, k, none⟩) hg).trans (hc k x hx)
      have hF := fun (W : World) => full_any x W (by have := hz x (List.mem_of_getElem? hx); omega)
      have hd : L.drop k = x :: L.drop (k + 1) := by
        rw [List.drop_eq_getElem_cons hlt]
        rw [List.getElem?_eq_getElem hlt] at hx
        rw [Option.some.inj hx]
      have hi2 := hi.out
      rw [hd, ff] at hi2
      obtain ⟨R, hR⟩ : ∃ R, ff (L.drop (k + 1)) (k + 1) = R := ⟨_, rfl⟩
      cases hbx : blk (by_ x) with
      | true =>
        rw [hbx] at hF
        rw [hbx, if_pos rfl] at hi2
        have HI := Lib.hid hi2
        clear hi2 hi hd hx hc hbx hR
        go_wp2_with (go_at_call 62; refine (hF _).mono ?_; rintro e w1 ⟨rfl, hbn⟩; have hb := hb.trans (hbn.mono hb.size))
        go_roundw
        case rel => exact ⟨k + 1, by go_num, by omega, HI, hb⟩
        case measure => simp [intOf]; omega
      | false =>
        rw [hbx] at hF
        rw [hbx, if_neg (by decide)] at hi2
        have HI := Lib.hid hi2
        clear hi2 hi hd hx hc hbx hR
        go_wp2_with (go_at_call 62; refine (hF _).mono ?_; rintro e w1 ⟨rfl, hbn⟩; have hb := hb.trans (hbn.mono hb.size))
        go_ret
        exact ⟨ret_int HI.out, hb⟩
    · have hr : (-1 : Int) = ff L 0 := by
        have := hi.out
        rw [List.drop_eq_nil_iff.2 (by omega)] at this
        exact this
      have HI := Lib.hid hr
      clear hr hi hc
      go_wp2
      go_ret
      exact ⟨ret_int HI.out, hb⟩
end Go.Proofs.YtjgpmfjkcioinaaDoor.G
