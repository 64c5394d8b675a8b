/-
  'utf.Next': the character at a place, as the plain one has it.
-/
import Derived.Test.YtjgpmfjkcioinaaDoorPTV1
namespace Go.Proofs.YtjgpmfjkcioinaaDoor.G
open Go.RowKit Go.Proofs.YtjgpmfjkcioinaaDoorW.PrintWords Go.Proofs.YtjgpmfjkcioinaaDoor.M
set_option linter.unusedVariables false
set_option linter.unusedSimpArgs false
attribute [local irreducible] Utf8.encode Utf8.decode
theorem extract_at (s : ByteArray) (n : Nat) : at_ (s.extract n s.size) 0 = at_ s n := by
  rw [at_zero, by_extract, List.take_of_length_le (by rw [by_length]; exact Nat.le_refl _)]
  unfold at_; rw [Int.toNat_natCast]
set_option maxHeartbeats 1000000 in
set_option maxRecDepth 100000 in
theorem next_yes (s : ByteArray) (n R nE : Nat) (E : ByteArray) (w : World) (hs : s.size ≤ 140737488351232) (hn : n < s.size)
    (hd : Hid (∃ K, Utf8.decode (s.extract n s.size) 0 = (R, K))) (hE : Utf8.encode (R : Int) = E) (hz : E.size = nE) (hr : (R : Int) ≤ 1114111) (hc : Hid (isc (R : Int) = true)) (hle : n + nE ≤ s.size) (he : ((s.extract n (n + nE)).toList == E.toList) = true) :
    Calls Tryd.prog 59 #[.string s, .int .i64 n] w fun e w' => e = .returned (.tuple #[.int .i64 R, .int .i64 nE]) ∧ Below w.heap.size w w' := by
  obtain ⟨K, hK⟩ := hd.out
  clear hd
  have hnx : ∀ ty, (Instr.next (.pointer (some ⟨w.heap.size, 0, none⟩)) true ty).run Tryd.prog (w.iter (s.extract n s.size) 0) = .ok (.tuple #[.bool true, .int .i64 0, .int .i32 R]) ((w.iter (s.extract n s.size) 0).iterAt w.heap.size (s.extract n s.size) (0 + K)) := by
    intro ty
    have := Lib.run_next_any_at (P := Tryd.prog) (w.iter (s.extract n s.size) 0) w.heap.size (s.extract n s.size) 0 ty (World.iter_heap w _ 0) (by simp; omega)
    rw [hK] at this
    exact this
  have hb : Below w.heap.size w ((w.iter (s.extract n s.size) 0).iterAt w.heap.size (s.extract n s.size) (0 + K)) := Lib.below_iterAt ((Below.refl _ w).alloc (Nat.le_refl _) _) (Nat.le_refl _) _ _
  obtain ⟨W, hW⟩ : ∃ W, (w.iter (s.extract n s.size) 0).iterAt w.heap.size (s.extract n s.size) (0 + K) = W := ⟨_, rfl⟩
  rw [hW] at hnx hb
  clear hW hK
  go_enter Tryd.func59, Tryd.ntmps59
  go_wp2
  refine wp_loop_rounds 1 ?_
  rw [rounds_succ]
  go_wp2_with (go_at_call 82; refine (is_char _ _ (by omega) (by omega)).mono ?_; rintro e w' ⟨rfl, rfl⟩; rw [hc.out])
  go_ret2
  exact ⟨rfl, hb⟩
set_option maxHeartbeats 1000000 in
set_option maxRecDepth 100000 in
theorem next_ne (s : ByteArray) (n R nE : Nat) (E : ByteArray) (w : World) (hs : s.size ≤ 140737488351232) (hn : n < s.size)
    (hd : Hid (∃ K, Utf8.decode (s.extract n s.size) 0 = (R, K))) (hE : Utf8.encode (R : Int) = E) (hz : E.size = nE) (hr : (R : Int) ≤ 1114111) (hc : Hid (isc (R : Int) = true)) (hle : n + nE ≤ s.size) (he : ((s.extract n (n + nE)).toList == E.toList) = false) :
    Calls Tryd.prog 59 #[.string s, .int .i64 n] w fun e w' => e = .returned (.tuple #[.int .i64 0, .int .i64 0]) ∧ Below w.heap.size w w' := by
  obtain ⟨K, hK⟩ := hd.out
  clear hd
  have hnx : ∀ ty, (Instr.next (.pointer (some ⟨w.heap.size, 0, none⟩)) true ty).run Tryd.prog (w.iter (s.extract n s.size) 0) = .ok (.tuple #[.bool true, .int .i64 0, .int .i32 R]) ((w.iter (s.extract n s.size) 0).iterAt w.heap.size (s.extract n s.size) (0 + K)) := by
    intro ty
    have := Lib.run_next_any_at (P := Tryd.prog) (w.iter (s.extract n s.size) 0) w.heap.size (s.extract n s.size) 0 ty (World.iter_heap w _ 0) (by simp; omega)
    rw [hK] at this
    exact this
  have hb : Below w.heap.size w ((w.iter (s.extract n s.size) 0).iterAt w.heap.size (s.extract n s.size) (0 + K)) := Lib.below_iterAt ((Below.refl _ w).alloc (Nat.le_refl _) _) (Nat.le_refl _) _ _
  obtain ⟨W, hW⟩ : ∃ W, (w.iter (s.extract n s.size) 0).iterAt w.heap.size (s.extract n s.size) (0 + K) = W := ⟨_, rfl⟩
  rw [hW] at hnx hb
  clear hW hK
  go_enter Tryd.func59, Tryd.ntmps59
  go_wp2
  refine wp_loop_rounds 1 ?_
  rw [rounds_succ]
  go_wp2_with (go_at_call 82; refine (is_char _ _ (by omega) (by omega)).mono ?_; rintro e w' ⟨rfl, rfl⟩; rw [hc.out])
  go_ret2
  exact ⟨rfl, hb⟩
set_option maxHeartbeats 1000000 in
set_option maxRecDepth 100000 in
theorem next_long (s : ByteArray) (n R nE : Nat) (E : ByteArray) (w : World) (hs : s.size ≤ 140737488351232) (hn : n < s.size)
    (hd : Hid (∃ K, Utf8.decode (s.extract n s.size) 0 = (R, K))) (hE : Utf8.encode (R : Int) = E) (hz : E.size = nE) (hr : (R : Int) ≤ 1114111) (hc : Hid (isc (R : Int) = true)) (hle : s.size < n + nE) :
    Calls Tryd.prog 59 #[.string s, .int .i64 n] w fun e w' => e = .returned (.tuple #[.int .i64 0, .int .i64 0]) ∧ Below w.heap.size w w' := by
  obtain ⟨K, hK⟩ := hd.out
  clear hd
  have hnx : ∀ ty, (Instr.next (.pointer (some ⟨w.heap.size, 0, none⟩)) true ty).run Tryd.prog (w.iter (s.extract n s.size) 0) = .ok (.tuple #[.bool true, .int .i64 0, .int .i32 R]) ((w.iter (s.extract n s.size) 0).iterAt w.heap.size (s.extract n s.size) (0 + K)) := by
    intro ty
    have := Lib.run_next_any_at (P := Tryd.prog) (w.iter (s.extract n s.size) 0) w.heap.size (s.extract n s.size) 0 ty (World.iter_heap w _ 0) (by simp; omega)
    rw [hK] at this
    exact this
  have hb : Below w.heap.size w ((w.iter (s.extract n s.size) 0).iterAt w.heap.size (s.extract n s.size) (0 + K)) := Lib.below_iterAt ((Below.refl _ w).alloc (Nat.le_refl _) _) (Nat.le_refl _) _ _
  obtain ⟨W, hW⟩ : ∃ W, (w.iter (s.extract n s.size) 0).iterAt w.heap.size (s.extract n s.size) (0 + K) = W := ⟨_, rfl⟩
  rw [hW] at hnx hb
  clear hW hK
  go_enter Tryd.func59, Tryd.ntmps59
  go_wp2
  refine wp_loop_rounds 1 ?_
  rw [rounds_succ]
  go_wp2_with (go_at_call 82; refine (is_char _ _ (by omega) (by omega)).mono ?_; rintro e w' ⟨rfl, rfl⟩; rw [hc.out])
  go_ret2
  exact ⟨rfl, hb⟩
set_option maxHeartbeats 1000000 in
set_option maxRecDepth 100000 in
theorem next_not (s : ByteArray) (n R nE : Nat) (E : ByteArray) (w : World) (hs : s.size ≤ 140737488351232) (hn : n < s.size)
    (hd : Hid (∃ K, Utf8.decode (s.extract n s.size) 0 = (R, K))) (hE : Utf8.encode (R : Int) = E) (hz : E.size = nE) (hr : (R : Int) ≤ 1114111) (hc : Hid (isc (R : Int) = false)) :
    Calls Tryd.prog 59 #[.string s, .int .i64 n] w fun e w' => e = .returned (.tuple #[.int .i64 0, .int .i64 0]) ∧ Below w.heap.size w w' := by
  obtain ⟨K, hK⟩ := hd.out
  clear hd
  have hnx : ∀ ty, (Instr.next (.pointer (some ⟨w.heap.size, 0, none⟩)) true ty).run Tryd.prog (w.iter (s.extract n s.size) 0) = .ok (.tuple #[.bool true, .int .i64 0, .int .i32 R]) ((w.iter (s.extract n s.size) 0).iterAt w.heap.size (s.extract n s.size) (0 + K)) := by
    intro ty
    have := Lib.run_next_any_at (P := Tryd.prog) (w.iter (s.extract n s.size) 0) w.heap.size (s.extract n s.size) 0 ty (World.iter_heap w _ 0) (by simp; omega)
    rw [hK] at this
    exact this
  have hb : Below w.heap.size w ((w.iter (s.extract n s.size) 0).iterAt w.heap.size (s.extract n s.size) (0 + K)) := Lib.below_iterAt ((Below.refl _ w).alloc (Nat.le_refl _) _) (Nat.le_refl _) _ _
  obtain ⟨W, hW⟩ : ∃ W, (w.iter (s.extract n s.size) 0).iterAt w.heap.size (s.extract n s.size) (0 + K) = W := ⟨_, rfl⟩
  rw [hW] at hnx hb
  clear hW hK
  go_enter Tryd.func59, Tryd.ntmps59
  go_wp2
  refine wp_loop_rounds 1 ?_
  rw [rounds_succ]
  go_wp2_with (go_at_call 82; refine (is_char _ _ (by omega) (by omega)).mono ?_; rintro e w' ⟨rfl, rfl⟩; rw [hc.out])
  go_ret2
  exact ⟨rfl, hb⟩
set_option maxHeartbeats 400000 in
set_option maxRecDepth 100000 in
theorem next_out (s : ByteArray) (i : Int) (w : World) (h : i < 0 ∨ (s.size : Int) ≤ i) :
    Calls Tryd.prog 59 #[.string s, .int .i64 i] w fun e w' => e = .returned (.tuple #[.int .i64 0, .int .i64 0]) ∧ Below w.heap.size w w' := by
  by_cases h0 : i < 0
  · go_enter Tryd.func59, Tryd.ntmps59
    go_wp2
    go_ret2
    exact ⟨rfl, Below.refl _ _⟩
  · have h1 : (s.size : Int) ≤ i := by omega
    clear h
    go_enter Tryd.func59, Tryd.ntmps59
    go_wp2
    go_ret2
    exact ⟨rfl, Below.refl _ _⟩
theorem toList_by (a b : ByteArray) : (a.toList == b.toList) = decide (by_ a = by_ b) := by
  rw [Lib.toList_data, Lib.toList_data, Bool.eq_iff_iff, beq_iff_eq, decide_eq_true_eq]
  constructor
  · intro h; unfold by_; rw [h]
  · intro h; rw [by_inj h]
theorem prefix_take {e l : List Int} : e.isPrefixOf l = true ↔ e.length ≤ l.length ∧ l.take e.length = e := by
  rw [List.isPrefixOf_iff_prefix]
  constructor
  · intro h; exact ⟨h.length_le, (List.prefix_iff_eq_take.1 h).symm⟩
  · intro h; rw [← h.2]; exact List.take_prefix _ _
theorem next_any (s : ByteArray) (i : Int) (w : World) (hs : s.size ≤ 140737488351232) :
    Calls Tryd.prog 59 #[.string s, .int .i64 i] w fun e w' => e = .returned (.tuple #[.int .i64 (nxr s i), .int .i64 (nxn s i)]) ∧ Below w.heap.size w w' := by
  by_cases ho : i < 0 ∨ (s.size : Int) ≤ i
  · rw [(nxn_out s i ho).1, (nxn_out s i ho).2]; exact next_out s i w ho
  · obtain ⟨n, rfl⟩ : ∃ n : Nat, i = n := ⟨i.toNat, by omega⟩
    have hn : n < s.size := by omega
    have hx := nxp_decode sort_isc (s.extract n s.size) 0
    have hv := decode_isv (s.extract n s.size) 0
    rw [show ((0 : Nat) : Int) = 0 from rfl, extract_at] at hx
    obtain ⟨R, hR⟩ : ∃ R, (Utf8.decode (s.extract n s.size) 0).1 = R := ⟨_, rfl⟩
    have hd : Hid (∃ K, Utf8.decode (s.extract n s.size) 0 = (R, K)) := ⟨_, by rw [← hR]⟩
    rw [hR] at hx hv
    have hz := encode_size hv
    have hby := encode_by hv
    have hr := isv_iff.1 hv
    have hl := at_length s n (by omega) (by omega)
    have e1 : nxr s n = (nxp isc (at_ s n)).1 := by unfold nxr; rw [if_neg (by omega)]
    have e2 : nxn s n = ((nxp isc (at_ s n)).2 : Int) := by unfold nxn; rw [if_neg (by omega)]
    have key : by_ (s.extract n (n + (enc (R : Int)).length)) = (at_ s n).take (enc (R : Int)).length := by
      rw [by_extract, List.drop_take]; unfold at_; rw [Int.toNat_natCast, Nat.add_sub_cancel_left]
    have hr2 : (R : Int) ≤ 1114111 := hr.2.1
    clear hr
    rw [e1, e2, hx]
    cases hc : isc (R : Int) with
    | false =>
      rw [if_neg (fun c => by cases c.1)]
      exact next_not s n R _ _ w hs hn hd rfl hz hr2 hc
    | true =>
      by_cases hle : n + (enc (R : Int)).length ≤ s.size
      · by_cases he : (at_ s n).take (enc (R : Int)).length = enc (R : Int)
        · rw [if_pos ⟨rfl, prefix_take.2 ⟨by omega, he⟩⟩]
          dsimp only
          exact next_yes s n R (enc (R : Int)).length (Utf8.encode (R : Int)) w hs hn hd rfl hz hr2 hc hle (by rw [toList_by, key, hby, he]; exact decide_eq_true rfl)
        · rw [if_neg (fun c => he (prefix_take.1 c.2).2)]
          exact next_ne s n R _ _ w hs hn hd rfl hz hr2 hc hle (by rw [toList_by, key, hby]; exact decide_eq_false he)
      · rw [if_neg (fun c => by have := (prefix_take.1 c.2).1; omega)]
        exact next_long s n R _ _ w hs hn hd rfl hz hr2 hc (by omega)
end Go.Proofs.YtjgpmfjkcioinaaDoor.G
