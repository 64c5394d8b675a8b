/-
  Characters: the model's own reading of bytes and the plain one are the same; the walks of 'utf.is' and 'utf.Next'.
  'utf.Next': the character at a place, as the plain one has it.
  'utf.Bad' and 'utf.May': where a text is not made of characters, by a range over a function.
-/
import Derived.Test.YthjoclmggomhoaaDoorK1
import Derived.Test.YthjoclmggomhoaaDoorU1
import Derived.Lib.OthersKept
import Derived.Lib.TrimUEq
import Derived.Lib.MapLaws
import Derived.RangeFuncNested
import Derived.RangeFuncBound
import Derived.RangeFuncCalls
import Derived.RangeFuncLeaves
import Derived.RangeFuncFrom
import Derived.Shelf.Abstract
import Derived.Shelf.RegionOpen
import Derived.OwnWalkIn
import Derived.TacticsInMore
import Derived.LoopNIn
import Derived.LoopIn
namespace Go.Proofs.YthjoclmggomhoaaDoor.G
open Go.RowKit Go.Proofs.YthjoclmggomhoaaDoorW.PrintWords Go.Proofs.YthjoclmggomhoaaDoor.M
set_option linter.unusedVariables false
set_option linter.unusedSimpArgs false

theorem encode_by {r : Int} (h : isv r = true) : by_ (Utf8.encode r) = enc r := by
  have hr := isv_iff.1 h
  have hv : Utf8.valid r = true := by simp [Utf8.valid]; omega
  unfold Utf8.encode enc
  simp only [hv, if_true]
  by_cases h1 : r < 128
  · rw [if_pos h1, if_pos (by omega)]
    simp only [by_, List.map_cons, List.map_nil, List.cons.injEq, and_true]
    simp; omega
  · rw [if_neg h1, if_neg (by omega)]
    by_cases h2 : r < 2048
    · rw [if_pos h2, if_pos (by omega)]
      simp only [by_, List.map_cons, List.map_nil, List.cons.injEq, and_true]
      simp; omega
    · rw [if_neg h2, if_neg (by omega)]
      by_cases h3 : r < 65536
      · rw [if_pos h3, if_pos (by omega)]
        simp only [by_, List.map_cons, List.map_nil, List.cons.injEq, and_true]
        simp; omega
      · rw [if_neg h3, if_neg (by omega)]
        simp only [by_, List.map_cons, List.map_nil, List.cons.injEq, and_true]
        simp; omega
theorem encode_size {r : Int} (h : isv r = true) : (Utf8.encode r).size = (enc r).length := by
  rw [← by_length, encode_by h]

theorem at_getD (s : ByteArray) (n j : Nat) : (at_ s n).getD j 0 = ((s.data.toList.getD (n + j) 0).toNat : Int) := by
  unfold at_ by_
  simp only [List.getD_eq_getElem?_getD, List.getElem?_drop, List.getElem?_map, Int.toNat_natCast]
  cases s.data.toList[n + j]? <;> simp
/-- What stands at the head of bytes that begin as a character's do. -/
theorem decode_enc {s : ByteArray} {n : Nat} {r : Int} (h : isv r = true) {m : List Int} (e : at_ s n = enc r ++ m) : Utf8.decode s n = (r.toNat, (enc r).length) := by
  have hr := isv_iff.1 h
  have g0 := at_getD s n 0
  have g1 := at_getD s n 1
  have g2 := at_getD s n 2
  have g3 := at_getD s n 3
  have hl := congrArg List.length e
  have hn : n ≤ s.size ∨ at_ s n = [] := by
    by_cases q : n ≤ s.size
    · exact .inl q
    · exact .inr (at_nil s n (by omega))
  have hz : ((at_ s n).length : Int) = s.size - n := by
    rcases hn with q | q
    · exact at_length s n (by omega) (by omega)
    · rw [q] at e
      exact absurd (List.append_eq_nil_iff.1 e.symm).1 (enc_ne r)
  have hsz : s.data.toList.length = s.size := by simp
  have b0 := (s.data.toList.getD (n + 0) 0).toNat_lt
  have b1 := (s.data.toList.getD (n + 1) 0).toNat_lt
  have b2 := (s.data.toList.getD (n + 2) 0).toNat_lt
  have b3 := (s.data.toList.getD (n + 3) 0).toNat_lt
  rw [Lib.decode_N, hsz]
  rw [e] at g0 g1 g2 g3 hz
  rw [Nat.add_zero] at g0 b0
  obtain ⟨a, ha⟩ : ∃ a, (s.data.toList.getD n 0).toNat = a := ⟨_, rfl⟩
  obtain ⟨b, hb⟩ : ∃ a, (s.data.toList.getD (n + 1) 0).toNat = a := ⟨_, rfl⟩
  obtain ⟨c, hc⟩ : ∃ a, (s.data.toList.getD (n + 2) 0).toNat = a := ⟨_, rfl⟩
  obtain ⟨d, hd⟩ : ∃ a, (s.data.toList.getD (n + 3) 0).toNat = a := ⟨_, rfl⟩
  rw [ha] at g0 b0 ⊢
  rw [hb] at g1 b1 ⊢
  rw [hc] at g2 b2 ⊢
  rw [hd] at g3 b3 ⊢
  clear ha hb hc hd hl hn e
  unfold Lib.decodeN
  by_cases h1 : r < 128
  · have E : enc r = [r] := by unfold enc; rw [if_pos h1]
    rw [E] at g0 hz ⊢
    simp only [List.cons_append, List.nil_append, List.getD_cons_zero] at g0
    rw [if_pos (by omega)]
    simp; omega
  · by_cases h2 : r < 2048
    · have E : enc r = [192 + r / 64, 128 + r % 64] := by unfold enc; rw [if_neg h1, if_pos h2]
      rw [E] at g0 g1 hz ⊢
      simp only [List.cons_append, List.nil_append, List.getD_cons_zero, List.getD_cons_succ] at g0 g1
      simp only [List.length_append, List.length_cons, List.length_nil] at hz
      rw [if_neg (by omega), if_pos (by omega), if_pos (by omega)]
      simp; omega
    · by_cases h3 : r < 65536
      · have E : enc r = [224 + r / 4096, 128 + r / 64 % 64, 128 + r % 64] := by unfold enc; rw [if_neg h1, if_neg h2, if_pos h3]
        rw [E] at g0 g1 g2 hz ⊢
        simp only [List.cons_append, List.nil_append, List.getD_cons_zero, List.getD_cons_succ] at g0 g1 g2
        simp only [List.length_append, List.length_cons, List.length_nil] at hz
        rw [if_neg (by omega), if_neg (by omega), if_pos (by omega), if_pos (by omega)]
        simp; omega
      · have E : enc r = [240 + r / 262144, 128 + r / 4096 % 64, 128 + r / 64 % 64, 128 + r % 64] := by unfold enc; rw [if_neg h1, if_neg h2, if_neg h3]
        rw [E] at g0 g1 g2 g3 hz ⊢
        simp only [List.cons_append, List.nil_append, List.getD_cons_zero, List.getD_cons_succ] at g0 g1 g2 g3
        simp only [List.length_append, List.length_cons, List.length_nil] at hz
        rw [if_neg (by omega), if_neg (by omega), if_neg (by omega), if_pos (by omega), if_pos (by omega)]
        simp; omega
theorem decode_isv (s : ByteArray) (n : Nat) : isv ((Utf8.decode s n).1 : Int) = true := by
  rw [Lib.decode_N, isv_iff]
  have b0 := (s.data.toList.getD n 0).toNat_lt
  rcases Lib.decodeN_shape (s.data.toList.length - n) (s.data.toList.getD n 0).toNat (s.data.toList.getD (n + 1) 0).toNat (s.data.toList.getD (n + 2) 0).toNat (s.data.toList.getD (n + 3) 0).toNat with ⟨c, e⟩ | ⟨c1, c2, c3, cv, e⟩ | ⟨c1, c2, c3, c4, cv, cs, e⟩ | ⟨c1, c2, c3, c4, c5, cv, cw, e⟩ | e
  all_goals
    rw [e]
    dsimp only
    omega
/-- The model's reading, and the plain one: a character of some sort stands there just if the one that is read is of the sort, and its own bytes stand there. -/
theorem nxp_decode {p : Int → Bool} (hp : Sort_ p) (s : ByteArray) (n : Nat) :
    nxp p (at_ s n) = if p ((Utf8.decode s n).1 : Int) = true ∧ (enc ((Utf8.decode s n).1 : Int)).isPrefixOf (at_ s n) = true then (((Utf8.decode s n).1 : Int), (enc ((Utf8.decode s n).1 : Int)).length) else (0, 0) := by
  by_cases h : (nxp p (at_ s n)).2 = 0
  · rw [nxp_zero h, if_neg]
    intro c
    obtain ⟨m, hm⟩ := List.isPrefixOf_iff_prefix.1 c.2
    have h2 := nxp_enc hp c.1 m
    rw [hm] at h2
    have h3 := enc_len ((Utf8.decode s n).1 : Int)
    rw [h2] at h
    dsimp only at h
    omega
  · obtain ⟨k1, k2, k3, k4⟩ := nxp_pos h
    have hd := decode_enc (hp _ k1) k3
    have hv := isv_iff.1 (hp _ k1)
    have e : ((Utf8.decode s n).1 : Int) = (nxp p (at_ s n)).1 := by rw [hd]; dsimp only; omega
    rw [e, if_pos ⟨k1, by rw [List.isPrefixOf_iff_prefix]; exact ⟨_, k3.symm⟩⟩, ← k2]

set_option maxHeartbeats 800000 in
theorem is_char (r : Int) (w : World) (h0 : 0 ≤ r) (h1 : r ≤ 1114111) :
    Calls Tryd.prog 47 #[.int .i64 r] w fun e w' => e = .returned (.bool (isc r)) ∧ w' = w := by
  have hw : IntKind.i32.wrap r = r := by simp [IntKind.wrap, IntKind.bits]; omega
  have hv : Lib.validRune r = isv r := by
    rw [Bool.eq_iff_iff, isv_iff]; simp [Lib.validRune]; omega
  have HV := Lib.hid hv
  clear hv
  by_cases h9 : r = 9
  · subst h9
    go_enter Tryd.func47, Tryd.ntmps47
    go_wp2
    go_ret
    exact ⟨ret_bool (by decide), rfl⟩
  by_cases h10 : r = 10
  · subst h10
    go_enter Tryd.func47, Tryd.ntmps47
    go_wp2
    go_ret
    exact ⟨ret_bool (by decide), rfl⟩
  by_cases h13 : r = 13
  · subst h13
    go_enter Tryd.func47, Tryd.ntmps47
    go_wp2
    go_ret
    exact ⟨ret_bool (by decide), rfl⟩
  have e9 : (r == 9) = false := beq_eq_false_iff_ne.2 h9
  have e10 : (r == 10) = false := beq_eq_false_iff_ne.2 h10
  have e13 : (r == 13) = false := beq_eq_false_iff_ne.2 h13
  have H9 := Lib.hid h9
  have H10 := Lib.hid h10
  have H13 := Lib.hid h13
  clear h9 h10 h13
  by_cases h32 : 32 ≤ r
  · cases hb : isv r with
    | true =>
      have HB := Lib.hid hb
      clear hb
      go_enter Tryd.func47, Tryd.ntmps47
      go_wp2_with (go_at_call 59; refine (Tryd.utf8_ValidRune _ _).mono ?_; rintro e w' ⟨rfl, rfl⟩; rw [HV.out, HB.out])
      go_ret
      exact ⟨ret_bool (by have := isv_iff.1 HB.out; symm; rw [isc_iff]; omega), rfl⟩
    | false =>
      have HB := Lib.hid hb
      clear hb
      go_enter Tryd.func47, Tryd.ntmps47
      go_wp2_with (go_at_call 59; refine (Tryd.utf8_ValidRune _ _).mono ?_; rintro e w' ⟨rfl, rfl⟩; rw [HV.out, HB.out])
      go_ret
      exact ⟨ret_bool (by
        symm
        cases hc : isc r with
        | false => rfl
        | true => have := isv_of_isc hc; rw [HB.out] at this; cases this), rfl⟩
  · have h32' : r < 32 := by omega
    go_enter Tryd.func47, Tryd.ntmps47
    go_wp2
    go_ret
    exact ⟨ret_bool (by
      symm
      have := H9.out; have := H10.out; have := H13.out
      cases hc : isc r with
      | false => rfl
      | true => have := isc_iff.1 hc; omega), rfl⟩
end Go.Proofs.YthjoclmggomhoaaDoor.G
namespace Go.Proofs.YthjoclmggomhoaaDoor.G
open Go.RowKit Go.Proofs.YthjoclmggomhoaaDoorW.PrintWords Go.Proofs.YthjoclmggomhoaaDoor.M
set_option linter.unusedVariables false
set_option linter.unusedSimpArgs false
attribute [local irreducible] Utf8.encode Utf8.decode

theorem extract_at (s : ByteArray) (n : Nat) : at_ (s.extract n s.size) 0 = at_ s n := by
  rw [at_zero, by_extract, List.take_of_length_le (by rw [by_length]; exact Nat.le_refl _)]
  unfold at_; rw [Int.toNat_natCast]

set_option maxHeartbeats 1000000 in
set_option maxRecDepth 100000 in
theorem next_yes (s : ByteArray) (n R nE : Nat) (E : ByteArray) (w : World) (hs : s.size ≤ 140737488351232) (hn : n < s.size)
    (hd : Hid (∃ K, Utf8.decode (s.extract n s.size) 0 = (R, K))) (hE : Utf8.encode (R : Int) = E) (hz : E.size = nE) (hr : (R : Int) ≤ 1114111) (hc : Hid (isc (R : Int) = true)) (hle : n + nE ≤ s.size) (he : ((s.extract n (n + nE)).toList == E.toList) = true) :
    Calls Tryd.prog 34 #[.string s, .int .i64 n] w fun e w' => e = .returned (.tuple #[.int .i64 R, .int .i64 nE]) ∧ Below w.heap.size w w' := by
  obtain ⟨K, hK⟩ := hd.out
  clear hd
  have hnx : ∀ ty, (Instr.next (.pointer (some ⟨w.heap.size, 0, none⟩)) true ty).run Tryd.prog (w.iter (s.extract n s.size) 0) = .ok (.tuple #[.bool true, .int .i64 0, .int .i32 R]) ((w.iter (s.extract n s.size) 0).iterAt w.heap.size (s.extract n s.size) (0 + K)) := by
    intro ty
    have := Lib.run_next_any_at (P := Tryd.prog) (w.iter (s.extract n s.size) 0) w.heap.size (s.extract n s.size) 0 ty (World.iter_heap w _ 0) (by simp; omega)
    rw [hK] at this
    exact this
  have hb : Below w.heap.size w ((w.iter (s.extract n s.size) 0).iterAt w.heap.size (s.extract n s.size) (0 + K)) := Lib.below_iterAt ((Below.refl _ w).alloc (Nat.le_refl _) _) (Nat.le_refl _) _ _
  obtain ⟨W, hW⟩ : ∃ W, (w.iter (s.extract n s.size) 0).iterAt w.heap.size (s.extract n s.size) (0 + K) = W := ⟨_, rfl⟩
  rw [hW] at hnx hb
  clear hW hK
  go_enter Tryd.func34, Tryd.ntmps34
  go_wp2
  refine wp_loop_rounds 1 ?_
  rw [rounds_succ]
  go_wp2_with (go_at_call 47; refine (is_char _ _ (by omega) (by omega)).mono ?_; rintro e w' ⟨rfl, rfl⟩; rw [hc.out])
  go_ret2
  exact ⟨rfl, hb⟩

set_option maxHeartbeats 1000000 in
set_option maxRecDepth 100000 in
theorem next_ne (s : ByteArray) (n R nE : Nat) (E : ByteArray) (w : World) (hs : s.size ≤ 140737488351232) (hn : n < s.size)
    (hd : Hid (∃ K, Utf8.decode (s.extract n s.size) 0 = (R, K))) (hE : Utf8.encode (R : Int) = E) (hz : E.size = nE) (hr : (R : Int) ≤ 1114111) (hc : Hid (isc (R : Int) = true)) (hle : n + nE ≤ s.size) (he : ((s.extract n (n + nE)).toList == E.toList) = false) :
    Calls Tryd.prog 34 #[.string s, .int .i64 n] w fun e w' => e = .returned (.tuple #[.int .i64 0, .int .i64 0]) ∧ Below w.heap.size w w' := by
  obtain ⟨K, hK⟩ := hd.out
  clear hd
  have hnx : ∀ ty, (Instr.next (.pointer (some ⟨w.heap.size, 0, none⟩)) true ty).run Tryd.prog (w.iter (s.extract n s.size) 0) = .ok (.tuple #[.bool true, .int .i64 0, .int .i32 R]) ((w.iter (s.extract n s.size) 0).iterAt w.heap.size (s.extract n s.size) (0 + K)) := by
    intro ty
    have := Lib.run_next_any_at (P := Tryd.prog) (w.iter (s.extract n s.size) 0) w.heap.size (s.extract n s.size) 0 ty (World.iter_heap w _ 0) (by simp; omega)
    rw [hK] at this
    exact this
  have hb : Below w.heap.size w ((w.iter (s.extract n s.size) 0).iterAt w.heap.size (s.extract n s.size) (0 + K)) := Lib.below_iterAt ((Below.refl _ w).alloc (Nat.le_refl _) _) (Nat.le_refl _) _ _
  obtain ⟨W, hW⟩ : ∃ W, (w.iter (s.extract n s.size) 0).iterAt w.heap.size (s.extract n s.size) (0 + K) = W := ⟨_, rfl⟩
  rw [hW] at hnx hb
  clear hW hK
  go_enter Tryd.func34, Tryd.ntmps34
  go_wp2
  refine wp_loop_rounds 1 ?_
  rw [rounds_succ]
  go_wp2_with (go_at_call 47; refine (is_char _ _ (by omega) (by omega)).mono ?_; rintro e w' ⟨rfl, rfl⟩; rw [hc.out])
  go_ret2
  exact ⟨rfl, hb⟩

set_option maxHeartbeats 1000000 in
set_option maxRecDepth 100000 in
theorem next_long (s : ByteArray) (n R nE : Nat) (E : ByteArray) (w : World) (hs : s.size ≤ 140737488351232) (hn : n < s.size)
    (hd : Hid (∃ K, Utf8.decode (s.extract n s.size) 0 = (R, K))) (hE : Utf8.encode (R : Int) = E) (hz : E.size = nE) (hr : (R : Int) ≤ 1114111) (hc : Hid (isc (R : Int) = true)) (hle : s.size < n + nE) :
    Calls Tryd.prog 34 #[.string s, .int .i64 n] w fun e w' => e = .returned (.tuple #[.int .i64 0, .int .i64 0]) ∧ Below w.heap.size w w' := by
  obtain ⟨K, hK⟩ := hd.out
  clear hd
  have hnx : ∀ ty, (Instr.next (.pointer (some ⟨w.heap.size, 0, none⟩)) true ty).run Tryd.prog (w.iter (s.extract n s.size) 0) = .ok (.tuple #[.bool true, .int .i64 0, .int .i32 R]) ((w.iter (s.extract n s.size) 0).iterAt w.heap.size (s.extract n s.size) (0 + K)) := by
    intro ty
    have := Lib.run_next_any_at (P := Tryd.prog) (w.iter (s.extract n s.size) 0) w.heap.size (s.extract n s.size) 0 ty (World.iter_heap w _ 0) (by simp; omega)
    rw [hK] at this
    exact this
  have hb : Below w.heap.size w ((w.iter (s.extract n s.size) 0).iterAt w.heap.size (s.extract n s.size) (0 + K)) := Lib.below_iterAt ((Below.refl _ w).alloc (Nat.le_refl _) _) (Nat.le_refl _) _ _
  obtain ⟨W, hW⟩ : ∃ W, (w.iter (s.extract n s.size) 0).iterAt w.heap.size (s.extract n s.size) (0 + K) = W := ⟨_, rfl⟩
  rw [hW] at hnx hb
  clear hW hK
  go_enter Tryd.func34, Tryd.ntmps34
  go_wp2
  refine wp_loop_rounds 1 ?_
  rw [rounds_succ]
  go_wp2_with (go_at_call 47; refine (is_char _ _ (by omega) (by omega)).mono ?_; rintro e w' ⟨rfl, rfl⟩; rw [hc.out])
  go_ret2
  exact ⟨rfl, hb⟩

set_option maxHeartbeats 1000000 in
set_option maxRecDepth 100000 in
theorem next_not (s : ByteArray) (n R nE : Nat) (E : ByteArray) (w : World) (hs : s.size ≤ 140737488351232) (hn : n < s.size)
    (hd : Hid (∃ K, Utf8.decode (s.extract n s.size) 0 = (R, K))) (hE : Utf8.encode (R : Int) = E) (hz : E.size = nE) (hr : (R : Int) ≤ 1114111) (hc : Hid (isc (R : Int) = false)) :
    Calls Tryd.prog 34 #[.string s, .int .i64 n] w fun e w' => e = .returned (.tuple #[.int .i64 0, .int .i64 0]) ∧ Below w.heap.size w w' := by
  obtain ⟨K, hK⟩ := hd.out
  clear hd
  have hnx : ∀ ty, (Instr.next (.pointer (some ⟨w.heap.size, 0, none⟩)) true ty).run Tryd.prog (w.iter (s.extract n s.size) 0) = .ok (.tuple #[.bool true, .int .i64 0, .int .i32 R]) ((w.iter (s.extract n s.size) 0).iterAt w.heap.size (s.extract n s.size) (0 + K)) := by
    intro ty
    have := Lib.run_next_any_at (P := Tryd.prog) (w.iter (s.extract n s.size) 0) w.heap.size (s.extract n s.size) 0 ty (World.iter_heap w _ 0) (by simp; omega)
    rw [hK] at this
    exact this
  have hb : Below w.heap.size w ((w.iter (s.extract n s.size) 0).iterAt w.heap.size (s.extract n s.size) (0 + K)) := Lib.below_iterAt ((Below.refl _ w).alloc (Nat.le_refl _) _) (Nat.le_refl _) _ _
  obtain ⟨W, hW⟩ : ∃ W, (w.iter (s.extract n s.size) 0).iterAt w.heap.size (s.extract n s.size) (0 + K) = W := ⟨_, rfl⟩
  rw [hW] at hnx hb
  clear hW hK
  go_enter Tryd.func34, Tryd.ntmps34
  go_wp2
  refine wp_loop_rounds 1 ?_
  rw [rounds_succ]
  go_wp2_with (go_at_call 47; refine (is_char _ _ (by omega) (by omega)).mono ?_; rintro e w' ⟨rfl, rfl⟩; rw [hc.out])
  go_ret2
  exact ⟨rfl, hb⟩

set_option maxHeartbeats 400000 in
set_option maxRecDepth 100000 in
theorem next_out (s : ByteArray) (i : Int) (w : World) (h : i < 0 ∨ (s.size : Int) ≤ i) :
    Calls Tryd.prog 34 #[.string s, .int .i64 i] w fun e w' => e = .returned (.tuple #[.int .i64 0, .int .i64 0]) ∧ Below w.heap.size w w' := by
  by_cases h0 : i < 0
  · go_enter Tryd.func34, Tryd.ntmps34
    go_wp2
    go_ret2
    exact ⟨rfl, Below.refl _ _⟩
  · have h1 : (s.size : Int) ≤ i := by omega
    clear h
    go_enter Tryd.func34, Tryd.ntmps34
    go_wp2
    go_ret2
    exact ⟨rfl, Below.refl _ _⟩

theorem toList_by (a b : ByteArray) : (a.toList == b.toList) = decide (by_ a = by_ b) := by
  rw [Lib.toList_data, Lib.toList_data, Bool.eq_iff_iff, beq_iff_eq, decide_eq_true_eq]
  constructor
  · intro h; unfold by_; rw [h]
  · intro h; rw [by_inj h]
theorem prefix_take {e l : List Int} : e.isPrefixOf l = true ↔ e.length ≤ l.length ∧ l.take e.length = e := by
  rw [List.isPrefixOf_iff_prefix]
  constructor
  · intro h; exact ⟨h.length_le, (List.prefix_iff_eq_take.1 h).symm⟩
  · intro h; rw [← h.2]; exact List.take_prefix _ _

theorem next_any (s : ByteArray) (i : Int) (w : World) (hs : s.size ≤ 140737488351232) :
    Calls Tryd.prog 34 #[.string s, .int .i64 i] w fun e w' => e = .returned (.tuple #[.int .i64 (nxr s i), .int .i64 (nxn s i)]) ∧ Below w.heap.size w w' := by
  by_cases ho : i < 0 ∨ (s.size : Int) ≤ i
  · rw [(nxn_out s i ho).1, (nxn_out s i ho).2]; exact next_out s i w ho
  · obtain ⟨n, rfl⟩ : ∃ n : Nat, i = n := ⟨i.toNat, by omega⟩
    have hn : n < s.size := by omega
    have hx := nxp_decode sort_isc (s.extract n s.size) 0
    have hv := decode_isv (s.extract n s.size) 0
    rw [show ((0 : Nat) : Int) = 0 from rfl, extract_at] at hx
    obtain ⟨R, hR⟩ : ∃ R, (Utf8.decode (s.extract n s.size) 0).1 = R := ⟨_, rfl⟩
    have hd : Hid (∃ K, Utf8.decode (s.extract n s.size) 0 = (R, K)) := ⟨_, by rw [← hR]⟩
    rw [hR] at hx hv
    have hz := encode_size hv
    have hby := encode_by hv
    have hr := isv_iff.1 hv
    have hl := at_length s n (by omega) (by omega)
    have e1 : nxr s n = (nxp isc (at_ s n)).1 := by unfold nxr; rw [if_neg (by omega)]
    have e2 : nxn s n = ((nxp isc (at_ s n)).2 : Int) := by unfold nxn; rw [if_neg (by omega)]
    have key : by_ (s.extract n (n + (enc (R : Int)).length)) = (at_ s n).take (enc (R : Int)).length := by
      rw [by_extract, List.drop_take]; unfold at_; rw [Int.toNat_natCast, Nat.add_sub_cancel_left]
    have hr2 : (R : Int) ≤ 1114111 := hr.2.1
    clear hr
    rw [e1, e2, hx]
    cases hc : isc (R : Int) with
    | false =>
      rw [if_neg (fun c => by cases c.1)]
      exact next_not s n R _ _ w hs hn hd rfl hz hr2 hc
    | true =>
      by_cases hle : n + (enc (R : Int)).length ≤ s.size
      · by_cases he : (at_ s n).take (enc (R : Int)).length = enc (R : Int)
        · rw [if_pos ⟨rfl, prefix_take.2 ⟨by omega, he⟩⟩]
          dsimp only
          exact next_yes s n R (enc (R : Int)).length (Utf8.encode (R : Int)) w hs hn hd rfl hz hr2 hc hle (by rw [toList_by, key, hby, he]; exact decide_eq_true rfl)
        · rw [if_neg (fun c => he (prefix_take.1 c.2).2)]
          exact next_ne s n R _ _ w hs hn hd rfl hz hr2 hc hle (by rw [toList_by, key, hby]; exact decide_eq_false he)
      · rw [if_neg (fun c => by have := (prefix_take.1 c.2).1; omega)]
        exact next_long s n R _ _ w hs hn hd rfl hz hr2 hc (by omega)
end Go.Proofs.YthjoclmggomhoaaDoor.G
namespace Go.Proofs.YthjoclmggomhoaaDoor.G
open Go.RowKit Go.Shelf Go.Proofs.YthjoclmggomhoaaDoorW.PrintWords Go.Proofs.YthjoclmggomhoaaDoor.M
set_option linter.unusedVariables false
set_option linter.unusedSimpArgs false
attribute [local go_sem] Oper.semAt_some

/-- The places that are handed on, and whether a character stands there. -/
def places (l : List Int) (k : Int) : List (Int × Bool) :=
  if hl : l = [] then [] else if hn : (nxp isc l).2 = 0 then [(k, false)] else (k, true) :: places (l.drop (nxp isc l).2) (k + (nxp isc l).2)
termination_by l.length
decreasing_by
  have := List.length_pos_iff.2 hl
  rw [List.length_drop]; omega
theorem places_nil (k : Int) : places [] k = [] := by rw [places]; rfl
theorem places_not {l : List Int} (k : Int) (hl : l ≠ []) (h : (nxp isc l).2 = 0) : places l k = [(k, false)] := by rw [places, dif_neg hl, dif_pos h]
theorem places_step {l : List Int} (k : Int) (h : (nxp isc l).2 ≠ 0) : places l k = (k, true) :: places (l.drop (nxp isc l).2) (k + (nxp isc l).2) := by
  conv => lhs; rw [places]
  rw [dif_neg (nxp_ne h), dif_neg h]
theorem places_bd (l : List Int) : ∀ k, (∀ x ∈ places l k, x.2 = false → 0 ≤ bd l ∧ x.1 = k + bd l) ∧ ((∀ x ∈ places l k, x.2 = true) → bd l = -1) := by
  refine chars_rec isc (P := fun l => ∀ k, (∀ x ∈ places l k, x.2 = false → 0 ≤ bd l ∧ x.1 = k + bd l) ∧ ((∀ x ∈ places l k, x.2 = true) → bd l = -1)) l ?_ ?_ ?_
  · intro k
    rw [places_nil, bd_nil]
    exact ⟨fun x hx => by simp at hx, fun _ => rfl⟩
  · intro l hl hn k
    rw [places_not k hl hn, bd_not hl hn]
    refine ⟨fun x hx _ => ?_, fun h => ?_⟩
    · have : x = (k, false) := by simpa using hx
      rw [this]; exact ⟨Int.le_refl _, by simp⟩
    · have := h (k, false) (by simp)
      cases this
  · intro l hn ih k
    obtain ⟨i1, i2⟩ := ih (k + (nxp isc l).2)
    rw [places_step k hn, bd_step hn]
    refine ⟨fun x hx hf => ?_, fun h => ?_⟩
    · rcases List.mem_cons.1 hx with rfl | hx
      · cases hf
      · have := i1 x hx hf
        rw [if_neg (by omega)]; omega
    · have := i2 (fun x hx => h x (List.mem_cons.2 (.inr hx)))
      rw [if_pos (by omega)]

theorem grown_of_below {W W' : World} (h : Below W.heap.size W W') : W.grownBy W' none := ⟨h.os, h.tape, h.output, h.size, fun k hk _ => h.block k hk⟩
theorem cell_of_box {W : World} {B : Nat} {v : Value} {t : TypeId} (h : W.heap[B]? = some (.cells #[v] t (0, 0))) : W.cell? ⟨B, 0, none⟩ = some v ∧ W.frozen? ⟨B, 0, none⟩ = false := by
  constructor <;> simp [World.cell?, World.frozen?, h]
theorem cell_new_l (W : World) (v : Value) (t : TypeId) : (W.alloc (.cells #[v] t)).cell? ⟨W.heap.size, 0, none⟩ = some v ∧ (W.alloc (.cells #[v] t)).frozen? ⟨W.heap.size, 0, none⟩ = false :=
  cell_of_box (World.alloc_heap_new W _)
theorem cell_alloc_l {W : World} {a : Addr} {v : Value} (o : Obj) (h : W.cell? a = some v) : (W.alloc o).cell? a = some v := cell_kept h (World.grownBy_alloc W o none) (fun r e => by cases e)
theorem frozen_alloc_l {W : World} {a : Addr} {v : Value} (o : Obj) (h : W.cell? a = some v) (hf : W.frozen? a = false) : (W.alloc o).frozen? a = false := (frozen_kept h (World.grownBy_alloc W o none) (fun r e => by cases e)).trans hf

set_option maxRecDepth 100000 in
set_option maxHeartbeats 2000000 in
theorem places1_in (n : Nat) (l Bs n₀ : Nat) (s : ByteArray) (hn : 1 ≤ n) (hs : s.size ≤ 1000000) (hb : Bs < n₀) (J Jx : List (Int × Bool) → World → Prop) (W : World) (hJ : AbidesFrom W.heap.size J)
    (hY : ∀ pre x W, J pre W → pre.length < (places (by_ s) 0).length → YieldAt Fence.wide (n - 1) Tryd.prog l #[.int .i64 x.1, .bool x.2] W fun e W' =>
      (e = .returned (.bool true) ∧ J (pre ++ [x]) W' ∧ Below n₀ W W') ∨ (e = .returned (.bool false) ∧ Jx (pre ++ [x]) W'))
    (hBs : W.cell? ⟨Bs, 0, none⟩ = some (.string s)) (h0 : J [] W) (hn₀ : n₀ ≤ W.heap.size) :
    CallsIn Fence.wide n Tryd.prog 60 #[.func (.yield l) #[] #[], .pointer (some ⟨Bs, 0, none⟩)] W fun e W' => (∃ v, e = .returned v) ∧
      ((∃ ys, ys = places (by_ s) 0 ∧ J ys W') ∨ (∃ pre, pre <+: places (by_ s) 0 ∧ Jx pre W')) := by
  refine callsIn_of_wp Tryd.func60 rfl trivial ?_ rfl
  simp only [Tryd.ntmps60, List.size_toArray, List.length_cons, List.length_nil, Nat.reduceAdd, Nat.reduceSub, Array.replicate_succ, Array.replicate_zero, List.push_toArray, List.append_toArray, List.nil_append, List.cons_append]
  gi_wp2
  gi_loopw [3] (fun i wr => ∃ (pre : List (Int × Bool)) (k : Nat), i = .int .i64 k ∧ k ≤ s.size ∧ Hid (pre ++ places (at_ s k) k = places (by_ s) 0) ∧ J pre wr ∧ Below n₀ W wr)
    (fun i _ => s.size - (intOf i).toNat)
  case atStart => exact ⟨[], 0, rfl, Nat.zero_le _, by rw [show ((0 : Nat) : Int) = 0 from rfl, at_zero]; rfl, h0, Below.refl _ _⟩
  case round =>
    obtain ⟨pre, k, rfl, hk, hpre, hJs, hbw⟩ := hrel
    have hcx : wr.cell? ⟨Bs, 0, none⟩ = some (.string s) := (hbw.cell (p := ⟨Bs, 0, none⟩) hb).trans hBs
    by_cases hlt : k < s.size
    · have hnr := nxn_range s k
      have hnl := nxn_le s k (by omega) (by omega)
      have hne : at_ s k ≠ [] := fun e => by have := at_length s k (by omega) (by omega); rw [e] at this; simp at this; omega
      have e2 : nxn s k = ((nxp isc (at_ s k)).2 : Int) := by unfold nxn; rw [if_neg (by omega)]
      have hC := fun (W : World) => next_any s k W (by omega)
      obtain ⟨R, hR⟩ : ∃ R, nxr s k = R := ⟨_, rfl⟩
      obtain ⟨N, hN⟩ : ∃ N, (nxp isc (at_ s k)).2 = N := ⟨_, rfl⟩
      rw [hR, e2, hN] at hC
      rw [e2, hN] at hnl
      by_cases hz : N = 0
      · subst hz
        have hp2 : pre ++ [((k : Int), false)] = places (by_ s) 0 := by rw [← hpre.out, places_not _ hne hN]
        have hY' := fun (Wy : World) (hj : J pre Wy) => hY pre ((k : Int), false) Wy hj (by rw [← hp2]; simp)
        have HP := Lib.hid hp2
        clear hp2 hpre hY hN hR e2 hne
        gi_wp2_with (first
          | (refine ⟨trivial, ?_⟩; gi_at_call 34; refine (callsIn_wide.2 (hC _)).mono ?_; rintro e w' ⟨rfl, hbn⟩; have hJ2 := hJ pre wr w' none hJs (grown_of_below hbn) (fun r e => by cases e); have hbw2 := hbw.trans (hbn.mono (by have := hbw.size; omega)); obtain ⟨fn, tmps, assign, body, hy, hRR⟩ := hY' w' hJ2; dsimp only at hy))
        refine hRR.mono ?_
        rintro e W3 (⟨rfl, hJ3, hk3⟩ | ⟨rfl, hJx3⟩)
        · gi_wp2
          refine bodyPost_ret (results_none rfl _ _ _) rfl ?_
          exact ⟨⟨_, rfl⟩, .inl ⟨_, HP.out, hJ3⟩⟩
        · gi_wp2
          refine bodyPost_ret (results_none rfl _ _ _) rfl ?_
          exact ⟨⟨_, rfl⟩, .inr ⟨_, ⟨[], by rw [List.append_nil]; exact HP.out⟩, hJx3⟩⟩
      · have hpos : 0 < N := by omega
        have hN0 : ((N : Int) == 0) = false := beq_eq_false_iff_ne.2 (by omega)
        have hat : at_ s ((k + N : Nat) : Int) = (at_ s k).drop N := by
          have := at_add s k N (by omega)
          rw [← this]; congr 1
        have hp2 : pre ++ [((k : Int), true)] ++ places (at_ s ((k + N : Nat) : Int)) ((k + N : Nat) : Int) = places (by_ s) 0 := by
          rw [← hpre.out, places_step (l := at_ s k) _ (by rw [hN]; exact hz), hN, hat, List.append_assoc]; rfl
        have hY' := fun (Wy : World) (hj : J pre Wy) => hY pre ((k : Int), true) Wy hj (by rw [← hp2]; simp)
        have HP := Lib.hid hp2
        clear hp2 hpre hY hN hR e2 hne hz hat
        gi_wp2_with (first
          | (refine ⟨trivial, ?_⟩; gi_at_call 34; refine (callsIn_wide.2 (hC _)).mono ?_; rintro e w' ⟨rfl, hbn⟩; have hJ2 := hJ pre wr w' none hJs (grown_of_below hbn) (fun r e => by cases e); have hbw2 := hbw.trans (hbn.mono (by have := hbw.size; omega)); obtain ⟨fn, tmps, assign, body, hy, hRR⟩ := hY' w' hJ2; dsimp only at hy))
        refine hRR.mono ?_
        rintro e W3 (⟨rfl, hJ3, hk3⟩ | ⟨rfl, hJx3⟩)
        · gi_wp2
          go_roundw
          case rel => exact ⟨_, k + N, by go_num, by omega, HP, hJ3, hbw2.trans hk3⟩
          case measure => simp [intOf]; omega
        · gi_wp2
          refine bodyPost_ret (results_none rfl _ _ _) rfl ?_
          exact ⟨⟨_, rfl⟩, .inr ⟨_, ⟨_, HP.out⟩, hJx3⟩⟩
    · obtain rfl : k = s.size := by omega
      have hp2 : pre = places (by_ s) 0 := by rw [← hpre.out, at_nil s _ (by omega), places_nil, List.append_nil]
      have HP := Lib.hid hp2
      clear hp2 hpre hY
      gi_wp2
      go_end0
      exact ⟨⟨_, rfl⟩, .inl ⟨_, HP.out, hJs⟩⟩

theorem places_stops (n Bs n₀ : Nat) (s : ByteArray) (hn : 1 ≤ n) (hs : s.size ≤ 1000000) (w : World) (hb : Bs < n₀) (hn₀ : n₀ ≤ w.heap.size) (hc : w.cell? ⟨Bs, 0, none⟩ = some (.string s)) :
    SeqStopsK Fence.wide n Tryd.prog 60 #[.pointer (some ⟨Bs, 0, none⟩)] (fun x : Int × Bool => #[Value.int .i64 x.1, Value.bool x.2]) (Below n₀) (fun ys => ys = places (by_ s) 0) (fun pre => pre <+: places (by_ s) 0) (places (by_ s) 0).length w :=
  fun l J Jx W hW hJ _ hY h0 => places1_in n l Bs n₀ s hn hs hb J Jx W hJ hY ((hW.cell (p := ⟨Bs, 0, none⟩) (show Bs < w.heap.size by omega)).trans hc) h0 (by have := hW.size; omega)

theorem places_in (n : Nat) (s : ByteArray) (w : World) :
    CallsIn Fence.wide n Tryd.prog 48 #[.string s] w fun e w' => e = .returned (.func (.func 60) #[] #[.pointer (some ⟨w.heap.size, 0, none⟩)]) ∧ w' = w.alloc (.cells #[.string s] 9) := by
  refine callsIn_of_wp Tryd.func48 rfl trivial ?_ rfl
  simp only [Tryd.ntmps48, List.size_toArray, List.length_cons, List.length_nil, Nat.reduceAdd, Nat.reduceSub, Array.replicate_succ, Array.replicate_zero, List.push_toArray, List.append_toArray, List.nil_append, List.cons_append]
  gi_wp2
  go_ret
  exact ⟨rfl, rfl⟩

set_option maxRecDepth 100000 in
set_option maxHeartbeats 2000000 in
theorem bad_in (s : ByteArray) (w : World) (hs : s.size ≤ 1000000) :
    CallsIn Fence.wide 9 Tryd.prog 35 #[.string s] w fun e W' => e = .returned (.int .i64 (bd (by_ s))) ∧ Below w.heap.size w W' := by
  have HB := Lib.hid (places_bd (by_ s) 0)
  refine callsIn_of_wp_marks Tryd.func35 rfl trivial ?_ rfl
  simp only [Tryd.ntmps35, List.size_toArray, List.length_cons, List.length_nil, Nat.reduceAdd, Nat.reduceSub, Array.replicate_succ, Array.replicate_zero, List.push_toArray, List.append_toArray, List.nil_append, List.cons_append]
  gi_wp2_with (refine ⟨trivial, ?_⟩; gi_at_call 48; refine (places_in _ s _).mono ?_; rintro e w' ⟨rfl, rfl⟩)
  have c0 := cell_new_l w (.int .i64 0) 3
  have c1 := cell_new_l (w.alloc (.cells #[.int .i64 0] 3)) (.string s) 9
  simp only [World.size_alloc] at c1
  have hB0 : Below w.heap.size w ((w.alloc (.cells #[.int .i64 0] 3)).alloc (.cells #[.string s] 9)) := ((Below.refl _ w).alloc (Nat.le_refl _) _).alloc (by simp) _
  refine wpIn_rangeFunc_ownF rfl (by omega) (gf := 60) (lb := #[.pointer (some ⟨w.heap.size + 1, 0, none⟩)]) rfl trivial (enters_of Tryd.func60 (by kernel_rfl) rfl)
    (places_stops 8 (w.heap.size + 1) (w.heap.size + 2) s (by omega) hs _ (by omega) (by simp) c1.1) belowK_t (belowK_b (by simp)) (Below.refl _ _) (fun _ => rfl)
    (fun pre W => ((∀ y ∈ pre, y.2 = true) ∧ W.cell? ⟨w.heap.size, 0, none⟩ = some (.int .i64 0) ∧ W.frozen? ⟨w.heap.size, 0, none⟩ = false) ∧ Below w.heap.size w W)
    (fun c pre W => (c = .ret ∧ ∃ k, (k, false) ∈ pre ∧ W.cell? ⟨w.heap.size, 0, none⟩ = some (.int .i64 k)) ∧ Below w.heap.size w W)
    (OwnFrom.and (Own.from (fun s A B row hs hg hr => ⟨hs.1, cell_kept hs.2.1 hg hr, (frozen_kept hs.2.1 hg hr).trans hs.2.2⟩) _) (ownFrom_below (Nat.le_refl _) (by simp; omega)))
    (fun c => OwnFrom.and (Own.from (fun s A B row hs hg hr => ⟨hs.1, hs.2.choose, hs.2.choose_spec.1, cell_kept hs.2.choose_spec.2 hg hr⟩) _) (ownFrom_below (Nat.le_refl _) (by simp; omega)))
    ⟨⟨by simp, cell_alloc_l _ c0.1, frozen_alloc_l _ c0.1 c0.2⟩, hB0⟩
    (fun x => { tmps := #[.string s, undef, .pointer (some ⟨w.heap.size, 0, none⟩), .int .i64 x.1, .bool x.2, .string s, .func (.func 60) #[] #[.pointer (some ⟨w.heap.size + 1, 0, none⟩)], .int .i64 x.1, .bool x.2, undef, undef, undef], defers := [] }) ?assign ?body ?done ?stop
  case assign =>
    intro l x W K hK
    gi_wp2
    exact hK
  case body =>
    rintro l pre ⟨k, fine⟩ W ⟨⟨hp, hcr, hfr⟩, hB⟩ _
    cases fine with
    | true =>
      gi_wp2
      exact ⟨KeepsOthers.refl _, Below.refl _ _, ⟨fun y hy => (List.mem_append.1 hy).elim (hp y) (fun e => by simp at e; subst e; rfl), hcr, hfr⟩, hB⟩
    | false =>
      gi_wp2
      exact ⟨KeepsOthers.setCell _ _ _, ⟨rfl, k, List.mem_append.2 (.inr (by simp)), World.cell?_setCell_same' _ _ _ (by rw [hcr]; rfl)⟩, hB.setCell (p := ⟨w.heap.size, 0, none⟩) (Nat.le_refl _) _⟩
  case done =>
    rintro D ys W hD rfl ⟨⟨hall, hcr, hfr⟩, hB⟩ hK
    gi_wp2
    have hK' := (KeepsOthers.setCell W ⟨w.heap.size, 0, none⟩ (.int .i64 (-1))).same D _ hK rfl
    refine ⟨by simp, .inl ⟨_, _, rfl, run_takeDeferred hK', ?_⟩⟩
    have hc5 := cell_kept (World.cell?_setCell_same' W ⟨w.heap.size, 0, none⟩ (.int .i64 (-1)) (by rw [hcr]; rfl)) (grownBy_putObj' _ D (.deferred none)) (fun r e => by cases e; exact ⟨_, hK', rfl⟩)
    refine ⟨.int .i64 (-1), ?_, by rw [HB.out.2 hall], (hB.setCell (p := ⟨w.heap.size, 0, none⟩) (Nat.le_refl _) _).trans (belowK_b (w := w) (Nat.le_refl _) _ D _ _ (by simp at hD; omega) hK' rfl rfl)⟩
    simp [results, Tryd.f35, go_sem, hc5]
  case stop =>
    rintro D c pre W hD hpre ⟨⟨rfl, k, hin, hcr⟩, hB⟩ hK
    gi_wp2
    refine ⟨by simp, .inl ⟨_, _, rfl, run_takeDeferred hK, ?_⟩⟩
    have hc5 := cell_kept hcr (grownBy_putObj' _ D (.deferred none)) (fun r e => by cases e; exact ⟨_, hK, rfl⟩)
    have hbd := HB.out.1 (k, false) (hpre.subset hin) rfl
    refine ⟨.int .i64 k, ?_, by rw [show bd (by_ s) = k by have := hbd.2; simp at this; omega], hB.trans (belowK_b (w := w) (Nat.le_refl _) W D _ _ (by simp at hD; omega) hK rfl rfl)⟩
    simp [results, Tryd.f35, go_sem, hc5]

theorem bad_any (s : ByteArray) (w : World) (hs : s.size ≤ 1000000) :
    Calls Tryd.prog 35 #[.string s] w fun e W' => e = .returned (.int .i64 (bd (by_ s))) ∧ Below w.heap.size w W' := callsIn_wide.1 (bad_in s w hs)

theorem bd_iff (l : List Int) : decide (bd l < 0) = mayp isc l := by
  have h := bd_may l
  cases q : mayp isc l with
  | true => rw [h.1 q]; rfl
  | false => have := h.2 q; exact decide_eq_false (by omega)
set_option maxHeartbeats 400000 in
theorem may_any (s : ByteArray) (w : World) (hs : s.size ≤ 1000000) :
    Calls Tryd.prog 23 #[.string s] w fun e W' => e = .returned (.bool (mayp isc (by_ s))) ∧ Below w.heap.size w W' := by
  have hC := fun (W : World) => bad_any s W hs
  have HI := Lib.hid (bd_iff (by_ s))
  obtain ⟨b, hb⟩ : ∃ b, bd (by_ s) = b := ⟨_, rfl⟩
  rw [hb] at hC HI
  clear hb
  go_enter Tryd.func23, Tryd.ntmps23
  go_wp2_with (go_at_call 35; refine (hC _).mono ?_; rintro e w' ⟨rfl, hb⟩)
  go_ret
  exact ⟨ret_bool HI.out, hb⟩
end Go.Proofs.YthjoclmggomhoaaDoor.G
