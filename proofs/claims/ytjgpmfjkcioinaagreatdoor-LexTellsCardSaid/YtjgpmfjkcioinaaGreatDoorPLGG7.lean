/-
  fold: 'Indent'.
-/
import Derived.Test.YtjgpmfjkcioinaaGreatDoorPLGG15
import Derived.Test.YtjgpmfjkcioinaaGreatDoorPLWWords
import Derived.Lib.Join
namespace Go.Proofs.YtjgpmfjkcioinaaGreatDoor.G
open Go.RowKit Go.Shelf Go.Proofs.YtjgpmfjkcioinaaGreatDoorW.PrintWords Go.Proofs.YtjgpmfjkcioinaaGreatDoor.M
set_option linter.unusedVariables false
set_option linter.unusedSimpArgs false
attribute [local irreducible] Utf8.encode Utf8.decode
theorem ind_one (a : Int) (x : List Int) (r : List (List Int)) : ind a (x :: r) = if blk x = true then ind a r else if a < 0 ∨ (marg x : Int) < a then ind (marg x) r else ind a r := by
  rw [ind]
  cases h : blk x with
  | true => rw [if_neg (by simp), if_pos rfl]
  | false =>
    rw [if_neg (show ¬ (false = true) by decide)]
    by_cases q : a < 0 ∨ (marg x : Int) < a
    · rw [if_pos ⟨rfl, q⟩, if_pos q]
    · rw [if_neg (fun z => q z.2), if_neg q]
set_option maxHeartbeats 4000000 in
theorem Indent_any (A : Option Addr) (c : Nat) (L : List ByteArray) (w : World) (hC : Kd.C Kd.string w A L.length L) (hn : L.length ≤ 10000000) (hz : ∀ x ∈ L, x.size ≤ 1000000) :
    Calls Tryz.prog 48 #[.slice A L.length c] w fun e w' => e = .returned (.int .i64 (indent (L.map by_))) ∧ Below w.heap.size w w' := by
  go_enter Tryz.func48, Tryz.ntmps48
  go_wp2
  go_loopw [3, 8] (fun m i wr => ∃ (a : Int) (k : Nat), m = .int .i64 a ∧ i = .int .i64 (k : Int) ∧ k ≤ L.length ∧ -1 ≤ a ∧ a ≤ 1000000 ∧ Hid (ind a ((L.map by_).drop (max 1 k)) = indent (L.map by_)) ∧ Below w.heap.size w wr) (fun _ i _ => L.length - (intOf i).toNat)
  case atStart => exact ⟨-1, 0, rfl, rfl, Nat.zero_le _, Int.le_refl _, by omega, Lib.hid (by unfold indent; rw [show max 1 0 = 1 from rfl, List.drop_one]), Below.refl _ _⟩
  case round =>
    obtain ⟨a, k, rfl, rfl, hk, ha0, ha1, hi, hb⟩ := hrel
    have hsize := hb.size
    by_cases hlt : k < L.length
    · have hCw : Kd.C Kd.string wr A L.length L := Kd.C_below hC hb
      obtain ⟨ad, rfl, hcell⟩ := Kd.at_string hCw (k : Int) (by omega) (by omega)
      obtain ⟨x, hx⟩ : ∃ x, L[k]? = some x := ⟨L[k], List.getElem?_eq_getElem hlt⟩
      have hxe : rdOf ByteArray.empty L (k : Int) = x := by unfold rdOf; rw [Int.toNat_natCast, List.getD_eq_getElem?_getD, hx]; rfl
      rw [Int.toNat_natCast, hxe] at hcell
      have hxz := hz x (List.mem_of_getElem? hx)
      by_cases hk0 : k < 1
      · have h2 : Hid (ind a ((L.map by_).drop (max 1 (k + 1))) = indent (L.map by_)) := by
          rw [show max 1 (k + 1) = max 1 k by omega]; exact hi
        clear hi hCw hC hx hxe
        go_wp2
        go_roundw
        case rel => exact ⟨a, k + 1, rfl, by go_num, by omega, ha0, ha1, h2, hb⟩
        case measure => simp [intOf]; omega
      · have hk1 : 0 < k := by omega
        have hd : (L.map by_).drop (max 1 k) = by_ x :: (L.map by_).drop (max 1 (k + 1)) := by
          rw [show max 1 k = k by omega, show max 1 (k + 1) = k + 1 by omega, List.drop_eq_getElem_cons (by rw [List.length_map]; exact hlt), List.getElem_map]
          rw [List.getElem?_eq_getElem hlt] at hx
          rw [Option.some.inj hx]
        have hi2 : ind a (by_ x :: (L.map by_).drop (max 1 (k + 1))) = indent (L.map by_) := by rw [← hd]; exact hi.out
        rw [ind_one] at hi2
        have hB := fun (W : World) => fblank_any x W (by omega)
        have hN := fun (W : World) => indent_any x W (by omega)
        have hml : marg (by_ x) ≤ x.size := by have := marg_le (by_ x); rw [by_length] at this; exact this
        obtain ⟨m, hm⟩ : ∃ m, marg (by_ x) = m := ⟨_, rfl⟩
        obtain ⟨R, hR⟩ : ∃ R, (L.map by_).drop (max 1 (k + 1)) = R := ⟨_, rfl⟩
        rw [hm] at hN hml hi2
        rw [hR] at hi2
        have fin : ∀ a', ind a' R = indent (L.map by_) → Hid (ind a' ((L.map by_).drop (max 1 (k + 1))) = indent (L.map by_)) := fun a' h => Lib.hid (by rw [hR]; exact h)
        have FIN := Lib.hid fin
        have HI := Lib.hid hi2
        have HD := Lib.hid hm
        clear hi hi2 hCw hC hx hxe hd hm hR fin
        cases hbx : blk (by_ x) with
        | true =>
          rw [hbx] at hB
          have h2 := FIN.out a (by have := HI.out; rw [hbx, if_pos rfl] at this; exact this)
          clear hbx
          go_wp2_with (go_at_call 50; refine (hB _).mono ?_; rintro e w1 ⟨rfl, hbn⟩; have hb := hb.trans (hbn.mono hb.size))
          go_roundw
          case rel => exact ⟨a, k + 1, rfl, by go_num, by omega, ha0, ha1, h2, hb⟩
          case measure => simp [intOf]; omega
        | false =>
          rw [hbx] at hB
          have HI2 : Hid ((if a < 0 ∨ (m : Int) < a then ind m R else ind a R) = indent (L.map by_)) := Lib.hid (by have := HI.out; rw [hbx, if_neg (by decide)] at this; exact this)
          clear hbx HI
          by_cases ha : a < 0
          · have h2 := FIN.out m (by have := HI2.out; rw [if_pos (.inl ha)] at this; exact this)
            go_wp2_with (first
              | (go_at_call 50; refine (hB _).mono ?_; rintro e w1 ⟨rfl, hbn⟩; have hb := hb.trans (hbn.mono hb.size))
              | (go_at_call 74; refine (hN _).mono ?_; rintro e w1 ⟨rfl, hbn⟩; have hb := hb.trans (hbn.mono hb.size)))
            go_roundw
            case rel => exact ⟨m, k + 1, rfl, by go_num, by omega, by omega, by omega, h2, hb⟩
            case measure => simp [intOf]; omega
          · by_cases hma : (m : Int) < a
            · have h2 := FIN.out m (by have := HI2.out; rw [if_pos (.inr hma)] at this; exact this)
              go_wp2_with (first
                | (go_at_call 50; refine (hB _).mono ?_; rintro e w1 ⟨rfl, hbn⟩; have hb := hb.trans (hbn.mono hb.size))
                | (go_at_call 74; refine (hN _).mono ?_; rintro e w1 ⟨rfl, hbn⟩; have hb := hb.trans (hbn.mono hb.size)))
              go_roundw
              case rel => exact ⟨m, k + 1, rfl, by go_num, by omega, by omega, by omega, h2, hb⟩
              case measure => simp [intOf]; omega
            · have h2 := FIN.out a (by have := HI2.out; rw [if_neg (by omega)] at this; exact this)
              go_wp2_with (first
                | (go_at_call 50; refine (hB _).mono ?_; rintro e w1 ⟨rfl, hbn⟩; have hb := hb.trans (hbn.mono hb.size))
                | (go_at_call 74; refine (hN _).mono ?_; rintro e w1 ⟨rfl, hbn⟩; have hb := hb.trans (hbn.mono hb.size)))
              go_roundw
              case rel => exact ⟨a, k + 1, rfl, by go_num, by omega, ha0, ha1, h2, hb⟩
              case measure => simp [intOf]; omega
    · have hk2 : (L.map by_).drop (max 1 k) = [] := List.drop_eq_nil_iff.2 (by rw [List.length_map]; omega)
      have hr : a = indent (L.map by_) := by rw [← hi.out, hk2]; rfl
      have HR := Lib.hid hr
      clear hr hk2 hi
      go_wp2
      go_ret
      exact ⟨ret_int HR.out, hb⟩
end Go.Proofs.YtjgpmfjkcioinaaGreatDoor.G
namespace Go.Proofs.YtjgpmfjkcioinaaGreatDoor.G
open Go.RowKit Go.Shelf Go.Proofs.YtjgpmfjkcioinaaGreatDoorW.PrintWords Go.Proofs.YtjgpmfjkcioinaaGreatDoor.M
set_option linter.unusedVariables false
set_option linter.unusedSimpArgs false
attribute [local irreducible] Utf8.encode Utf8.decode
def dropB (n : Nat) (x : ByteArray) : ByteArray := x.extract (min n x.size) x.size
theorem by_dropB (n : Nat) (x : ByteArray) : by_ (dropB n x) = (by_ x).drop n := by
  unfold dropB
  rw [by_extract, List.take_of_length_le (by rw [by_length]; exact Nat.le_refl _)]
  rcases Nat.le_total n x.size with h | h
  · rw [Nat.min_eq_left h]
  · rw [Nat.min_eq_right h, List.drop_eq_nil_iff.2 (by rw [by_length]; exact Nat.le_refl _), List.drop_eq_nil_iff.2 (by rw [by_length]; exact h)]
theorem dropB_size (n : Nat) (x : ByteArray) : (dropB n x).size ≤ x.size := by unfold dropB; rw [ByteArray.size_extract]; omega
def cutTo (n k : Nat) (L : List ByteArray) : List ByteArray := L.mapIdx fun j x => if 0 < j ∧ j < k then dropB n x else x
theorem cutTo_length (n k : Nat) (L : List ByteArray) : (cutTo n k L).length = L.length := List.length_mapIdx
theorem cutTo_get (n k : Nat) (L : List ByteArray) (j : Nat) : (cutTo n k L)[j]? = (L[j]?).map fun x => if 0 < j ∧ j < k then dropB n x else x := List.getElem?_mapIdx
theorem cutTo_zero (n : Nat) (L : List ByteArray) : cutTo n 0 L = L := by
  refine List.ext_getElem? fun j => ?_
  rw [cutTo_get]
  cases L[j]? with
  | none => rfl
  | some x => simp
theorem cutTo_keep (n : Nat) (L : List ByteArray) : cutTo n 1 L = cutTo n 0 L := by
  refine List.ext_getElem? fun j => ?_
  rw [cutTo_get, cutTo_get]
  congr 1
  funext x
  rw [if_neg (by omega), if_neg (by omega)]
theorem cutTo_step (n k : Nat) (L : List ByteArray) (hk : 0 < k) (x : ByteArray) (hx : L[k]? = some x) : (cutTo n k L).set k (dropB n x) = cutTo n (k + 1) L := by
  refine List.ext_getElem? fun j => ?_
  have hl := (List.getElem?_eq_some_iff.1 hx).1
  rw [List.getElem?_set, cutTo_get, cutTo_get, cutTo_length]
  by_cases e : k = j
  · subst e
    rw [if_pos rfl, if_pos hl, hx, Option.map_some, if_pos ⟨hk, by omega⟩]
  · rw [if_neg e]
    congr 1
    funext y
    by_cases q : 0 < j ∧ j < k
    · rw [if_pos q, if_pos ⟨q.1, by omega⟩]
    · rw [if_neg q, if_neg (by omega)]
theorem cutTo_at (n k : Nat) (L : List ByteArray) (x : ByteArray) (hx : L[k]? = some x) : (cutTo n k L)[k]? = some x := by
  rw [cutTo_get, hx, Option.map_some, if_neg (by omega)]
theorem cutTo_full (n : Nat) (L : List ByteArray) : (cutTo n L.length L).map by_ = cutAll n (L.map by_) := by
  cases L with
  | nil => rfl
  | cons x r =>
    show _ = by_ x :: (r.map by_).map (List.drop n)
    refine List.ext_getElem? fun j => ?_
    rw [List.getElem?_map, cutTo_get]
    cases j with
    | zero => rfl
    | succ j =>
      rw [List.getElem?_cons_succ, List.getElem?_cons_succ, List.getElem?_map, List.getElem?_map]
      cases hj : r[j]? with
      | none => rfl
      | some y =>
        have hl := (List.getElem?_eq_some_iff.1 hj).1
        rw [Option.map_some, Option.map_some, Option.map_some, Option.map_some, if_pos ⟨by omega, by rw [List.length_cons]; omega⟩, by_dropB]
theorem cutTo_small (n k : Nat) (L : List ByteArray) (N : Nat) (h : ∀ x ∈ L, x.size ≤ N) : ∀ x ∈ cutTo n k L, x.size ≤ N := by
  intro x hx
  obtain ⟨j, hj⟩ := List.mem_iff_getElem?.1 hx
  rw [cutTo_get] at hj
  cases hL : L[j]? with
  | none => rw [hL] at hj; cases hj
  | some y =>
    rw [hL, Option.map_some, Option.some.injEq] at hj
    have hy := h y (List.mem_of_getElem? hL)
    have hd := dropB_size n y
    rw [← hj]
    split <;> omega
def ff : List ByteArray → Nat → Int
  | [], _ => -1
  | x :: r, k => if blk (by_ x) = true then ff r (k + 1) else (k : Int)
theorem ff_head : ∀ (L : List ByteArray) (k : Nat), (ff L k < 0 ∧ ff L k = -1 ∧ headless (L.map by_) = []) ∨ (∃ j : Nat, ff L k = ((k + j : Nat) : Int) ∧ j < L.length ∧ headless (L.map by_) = (L.map by_).drop j ∧ ∃ x, L[j]? = some x ∧ blk (by_ x) = false)
  | [], k => .inl ⟨by show (-1 : Int) < 0; omega, rfl, rfl⟩
  | x :: r, k => by
    rw [ff]
    cases h : blk (by_ x) with
    | true =>
      rw [if_pos rfl, List.map_cons, headless_blk h]
      rcases ff_head r (k + 1) with q | ⟨j, q1, q2, q3, q4⟩
      · exact .inl q
      · exact .inr ⟨j + 1, by rw [q1]; congr 1; omega, by rw [List.length_cons]; omega, by rw [q3]; rfl, q4⟩
    | false =>
      rw [if_neg (by decide)]
      exact .inr ⟨0, rfl, by simp, by rw [List.map_cons, headless_no h]; rfl, x, rfl, h⟩
theorem jn_join : ∀ (xs : List ByteArray), by_ ⟨(Lib.join (xs.map (·.data.toList)) [10]).toArray⟩ = jn (xs.map by_)
  | [] => rfl
  | [x] => by
    rw [List.map_cons, List.map_nil, Lib.join_one, by_mk]
    show _ = by_ x ++ []
    rw [List.append_nil]; rfl
  | x :: y :: r => by
    have ih := jn_join (y :: r)
    have e : Lib.join ((x :: y :: r).map (·.data.toList)) [10] = x.data.toList ++ [10] ++ Lib.join ((y :: r).map (·.data.toList)) [10] := by
      unfold Lib.join; simp [List.intercalate]
    have e2 : jn ((x :: y :: r).map by_) = by_ x ++ 10 :: jn ((y :: r).map by_) := jn_cons (by simp)
    rw [e, e2, ← ih, by_mk, by_mk]
    simp only [List.map_append, List.append_assoc]
    rfl
theorem jn_join_b (xs : List ByteArray) : (⟨(Lib.join (xs.map (·.data.toList)) [10]).toArray⟩ : ByteArray) = ba (jn (xs.map by_)) := by rw [← jn_join, ba_by]
set_option maxHeartbeats 400000 in
theorem full_any (s : ByteArray) (w : World) (hs : s.size ≤ 140737488351232) :
    Calls Tryz.prog 49 #[.string s] w fun e w' => e = .returned (.bool (!blk (by_ s))) ∧ Below w.heap.size w w' := by
  have hB := fblank_any s w hs
  obtain ⟨b, hb⟩ : ∃ b, blk (by_ s) = b := ⟨_, rfl⟩
  rw [hb] at hB ⊢
  clear hb
  go_enter Tryz.func49, Tryz.ntmps49
  go_wp2_with (go_at_call 50; refine hB.mono ?_; rintro e w' ⟨rfl, hb⟩)
  go_ret
  exact ⟨rfl, hb⟩
set_option maxHeartbeats 4000000 in
theorem index_any (g cap : Nat) (L : List ByteArray) (w : World) (hc : ∀ j x, L[j]? = some x → w.cell? ⟨g, j, none⟩ = some (.string x)) (hg : g < w.heap.size) (hn : L.length ≤ 10000000) (hz : ∀ x ∈ L, x.size ≤ 1000000) :
    Calls Tryz.prog 51 #[.slice (some ⟨g, 0, none⟩) L.length cap, .func (.func 49) #[] #[]] w fun e w' => e = .returned (.int .i64 (ff L 0)) ∧ Below w.heap.size w w' := by
  go_enter Tryz.func51, Tryz.ntmps51
  go_wp2
  go_loopw [8] (fun i wr => ∃ k : Nat, i = .int .i64 (k : Int) ∧ k ≤ L.length ∧ Hid (ff (L.drop k) k = ff L 0) ∧ Below w.heap.size w wr) (fun i _ => L.length - (intOf i).toNat)
  case atStart => exact ⟨0, rfl, Nat.zero_le _, Lib.hid (by rw [List.drop_zero]), Below.refl _ _⟩
  case round =>
    obtain ⟨k, rfl, hk, hi, hb⟩ := hrel
    by_cases hlt : k < L.length
    · obtain ⟨x, hx⟩ : ∃ x, L[k]? = some x := ⟨L[k], List.getElem?_eq_getElem hlt⟩
      have hcell : wr.cell? ⟨g, k, none⟩ = some (.string x) := (hb.cell (p := ⟨g, k, none⟩) hg).trans (hc k x hx)
      have hF := fun (W : World) => full_any x W (by have := hz x (List.mem_of_getElem? hx); omega)
      have hd : L.drop k = x :: L.drop (k + 1) := by
        rw [List.drop_eq_getElem_cons hlt]
        rw [List.getElem?_eq_getElem hlt] at hx
        rw [Option.some.inj hx]
      have hi2 := hi.out
      rw [hd, ff] at hi2
      obtain ⟨R, hR⟩ : ∃ R, ff (L.drop (k + 1)) (k + 1) = R := ⟨_, rfl⟩
      cases hbx : blk (by_ x) with
      | true =>
        rw [hbx] at hF
        rw [hbx, if_pos rfl] at hi2
        have HI := Lib.hid hi2
        clear hi2 hi hd hx hc hbx hR
        go_wp2_with (go_at_call 49; refine (hF _).mono ?_; rintro e w1 ⟨rfl, hbn⟩; have hb := hb.trans (hbn.mono hb.size))
        go_roundw
        case rel => exact ⟨k + 1, by go_num, by omega, HI, hb⟩
        case measure => simp [intOf]; omega
      | false =>
        rw [hbx] at hF
        rw [hbx, if_neg (by decide)] at hi2
        have HI := Lib.hid hi2
        clear hi2 hi hd hx hc hbx hR
        go_wp2_with (go_at_call 49; refine (hF _).mono ?_; rintro e w1 ⟨rfl, hbn⟩; have hb := hb.trans (hbn.mono hb.size))
        go_ret
        exact ⟨ret_int HI.out, hb⟩
    · have hr : (-1 : Int) = ff L 0 := by
        have := hi.out
        rw [List.drop_eq_nil_iff.2 (by omega)] at this
        exact this
      have HI := Lib.hid hr
      clear hr hi hc
      go_wp2
      go_ret
      exact ⟨ret_int HI.out, hb⟩
end Go.Proofs.YtjgpmfjkcioinaaGreatDoor.G
