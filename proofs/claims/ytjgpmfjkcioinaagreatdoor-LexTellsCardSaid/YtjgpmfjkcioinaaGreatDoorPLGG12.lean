/-
  Characters: the model's own reading of bytes and the plain one are the same; the walks of 'utf.is' and 'utf.Next'.
-/
import Derived.Test.YtjgpmfjkcioinaaGreatDoorPLGG10
import Derived.Test.YtjgpmfjkcioinaaGreatDoorPLGG2
import Derived.Lib.OthersKept
import Derived.Lib.TrimUEq
import Derived.Lib.MapLaws
namespace Go.Proofs.YtjgpmfjkcioinaaGreatDoor.G
open Go.RowKit Go.Proofs.YtjgpmfjkcioinaaGreatDoorW.PrintWords Go.Proofs.YtjgpmfjkcioinaaGreatDoor.M
set_option linter.unusedVariables false
set_option linter.unusedSimpArgs false
theorem encode_by {r : Int} (h : isv r = true) : by_ (Utf8.encode r) = enc r := by
  have hr := isv_iff.1 h
  have hv : Utf8.valid r = true := by simp [Utf8.valid]; omega
  unfold Utf8.encode enc
  simp only [hv, if_true]
  by_cases h1 : r < 128
  · rw [if_pos h1, if_pos (by omega)]
    simp only [by_, List.map_cons, List.map_nil, List.cons.injEq, and_true]
    simp; omega
  · rw [if_neg h1, if_neg (by omega)]
    by_cases h2 : r < 2048
    · rw [if_pos h2, if_pos (by omega)]
      simp only [by_, List.map_cons, List.map_nil, List.cons.injEq, and_true]
      simp; omega
    · rw [if_neg h2, if_neg (by omega)]
      by_cases h3 : r < 65536
      · rw [if_pos h3, if_pos (by omega)]
        simp only [by_, List.map_cons, List.map_nil, List.cons.injEq, and_true]
        simp; omega
      · rw [if_neg h3, if_neg (by omega)]
        simp only [by_, List.map_cons, List.map_nil, List.cons.injEq, and_true]
        simp; omega
theorem encode_size {r : Int} (h : isv r = true) : (Utf8.encode r).size = (enc r).length := by
  rw [← by_length, encode_by h]
theorem at_getD (s : ByteArray) (n j : Nat) : (at_ s n).getD j 0 = ((s.data.toList.getD (n + j) 0).toNat : Int) := by
  unfold at_ by_
  simp only [List.getD_eq_getElem?_getD, List.getElem?_drop, List.getElem?_map, Int.toNat_natCast]
  cases s.data.toList[n + j]? <;> simp
theorem decode_enc {s : ByteArray} {n : Nat} {r : Int} (h : isv r = true) {m : List Int} (e : at_ s n = enc r ++ m) : Utf8.decode s n = (r.toNat, (enc r).length) := by
  have hr := isv_iff.1 h
  have g0 := at_getD s n 0
  have g1 := at_getD s n 1
  have g2 := at_getD s n 2
  have g3 := at_getD s n 3
  have hl := congrArg List.length e
  have hn : n ≤ s.size ∨ at_ s n = [] := by
    by_cases q : n ≤ s.size
    · exact .inl q
    · exact .inr (at_nil s n (by omega))
  have hz : ((at_ s n).length : Int) = s.size - n := by
    rcases hn with q | q
    · exact at_length s n (by omega) (by omega)
    · rw [q] at e
      exact absurd (List.append_eq_nil_iff.1 e.symm).1 (enc_ne r)
  have hsz : s.data.toList.length = s.size := by simp
  have b0 := (s.data.toList.getD (n + 0) 0).toNat_lt
  have b1 := (s.data.toList.getD (n + 1) 0).toNat_lt
  have b2 := (s.data.toList.getD (n + 2) 0).toNat_lt
  have b3 := (s.data.toList.getD (n + 3) 0).toNat_lt
  rw [Lib.decode_N, hsz]
  rw [e] at g0 g1 g2 g3 hz
  rw [Nat.add_zero] at g0 b0
  obtain ⟨a, ha⟩ : ∃ a, (s.data.toList.getD n 0).toNat = a := ⟨_, rfl⟩
  obtain ⟨b, hb⟩ : ∃ a, (s.data.toList.getD (n + 1) 0).toNat = a := ⟨_, rfl⟩
  obtain ⟨c, hc⟩ : ∃ a, (s.data.toList.getD (n + 2) 0).toNat = a := ⟨_, rfl⟩
  obtain ⟨d, hd⟩ : ∃ a, (s.data.toList.getD (n + 3) 0).toNat = a := ⟨_, rfl⟩
  rw [ha] at g0 b0 ⊢
  rw [hb] at g1 b1 ⊢
  rw [hc] at g2 b2 ⊢
  rw [hd] at g3 b3 ⊢
  clear ha hb hc hd hl hn e
  unfold Lib.decodeN
  by_cases h1 : r < 128
  · have E : enc r = [r] := by unfold enc; rw [if_pos h1]
    rw [E] at g0 hz ⊢
    simp only [List.cons_append, List.nil_append, List.getD_cons_zero] at g0
    rw [if_pos (by omega)]
    simp; omega
  · by_cases h2 : r < 2048
    · have E : enc r = [192 + r / 64, 128 + r % 64] := by unfold enc; rw [if_neg h1, if_pos h2]
      rw [E] at g0 g1 hz ⊢
      simp only [List.cons_append, List.nil_append, List.getD_cons_zero, List.getD_cons_succ] at g0 g1
      simp only [List.length_append, List.length_cons, List.length_nil] at hz
      rw [if_neg (by omega), if_pos (by omega), if_pos (by omega)]
      simp; omega
    · by_cases h3 : r < 65536
      · have E : enc r = [224 + r / 4096, 128 + r / 64 % 64, 128 + r % 64] := by unfold enc; rw [if_neg h1, if_neg h2, if_pos h3]
        rw [E] at g0 g1 g2 hz ⊢
        simp only [List.cons_append, List.nil_append, List.getD_cons_zero, List.getD_cons_succ] at g0 g1 g2
        simp only [List.length_append, List.length_cons, List.length_nil] at hz
        rw [if_neg (by omega), if_neg (by omega), if_pos (by omega), if_pos (by omega)]
        simp; omega
      · have E : enc r = [240 + r / 262144, 128 + r / 4096 % 64, 128 + r / 64 % 64, 128 + r % 64] := by unfold enc; rw [if_neg h1, if_neg h2, if_neg h3]
        rw [E] at g0 g1 g2 g3 hz ⊢
        simp only [List.cons_append, List.nil_append, List.getD_cons_zero, List.getD_cons_succ] at g0 g1 g2 g3
        simp only [List.length_append, List.length_cons, List.length_nil] at hz
        rw [if_neg (by omega), if_neg (by omega), if_neg (by omega), if_pos (by omega), if_pos (by omega)]
        simp; omega
theorem decode_isv (s : ByteArray) (n : Nat) : isv ((Utf8.decode s n).1 : Int) = true := by
  rw [Lib.decode_N, isv_iff]
  have b0 := (s.data.toList.getD n 0).toNat_lt
  rcases Lib.decodeN_shape (s.data.toList.length - n) (s.data.toList.getD n 0).toNat (s.data.toList.getD (n + 1) 0).toNat (s.data.toList.getD (n + 2) 0).toNat (s.data.toList.getD (n + 3) 0).toNat with ⟨c, e⟩ | ⟨c1, c2, c3, cv, e⟩ | ⟨c1, c2, c3, c4, cv, cs, e⟩ | ⟨c1, c2, c3, c4, c5, cv, cw, e⟩ | e
  all_goals
    rw [e]
    dsimp only
    omega
theorem nxp_decode {p : Int → Bool} (hp : Sort_ p) (s : ByteArray) (n : Nat) :
    nxp p (at_ s n) = if p ((Utf8.decode s n).1 : Int) = true ∧ (enc ((Utf8.decode s n).1 : Int)).isPrefixOf (at_ s n) = true then (((Utf8.decode s n).1 : Int), (enc ((Utf8.decode s n).1 : Int)).length) else (0, 0) := by
  by_cases h : (nxp p (at_ s n)).2 = 0
  · rw [nxp_zero h, if_neg]
    intro c
    obtain ⟨m, hm⟩ := List.isPrefixOf_iff_prefix.1 c.2
    have h2 := nxp_enc hp c.1 m
    rw [hm] at h2
    have h3 := enc_len ((Utf8.decode s n).1 : Int)
    rw [h2] at h
    dsimp only at h
    omega
  · obtain ⟨k1, k2, k3, k4⟩ := nxp_pos h
    have hd := decode_enc (hp _ k1) k3
    have hv := isv_iff.1 (hp _ k1)
    have e : ((Utf8.decode s n).1 : Int) = (nxp p (at_ s n)).1 := by rw [hd]; dsimp only; omega
    rw [e, if_pos ⟨k1, by rw [List.isPrefixOf_iff_prefix]; exact ⟨_, k3.symm⟩⟩, ← k2]
set_option maxHeartbeats 800000 in
theorem is_char (r : Int) (w : World) (h0 : 0 ≤ r) (h1 : r ≤ 1114111) :
    Calls Tryz.prog 72 #[.int .i64 r] w fun e w' => e = .returned (.bool (isc r)) ∧ w' = w := by
  have hw : IntKind.i32.wrap r = r := by simp [IntKind.wrap, IntKind.bits]; omega
  have hv : Lib.validRune r = isv r := by
    rw [Bool.eq_iff_iff, isv_iff]; simp [Lib.validRune]; omega
  have HV := Lib.hid hv
  clear hv
  by_cases h9 : r = 9
  · subst h9
    go_enter Tryz.func72, Tryz.ntmps72
    go_wp2
    go_ret
    exact ⟨ret_bool (by decide), rfl⟩
  by_cases h10 : r = 10
  · subst h10
    go_enter Tryz.func72, Tryz.ntmps72
    go_wp2
    go_ret
    exact ⟨ret_bool (by decide), rfl⟩
  by_cases h13 : r = 13
  · subst h13
    go_enter Tryz.func72, Tryz.ntmps72
    go_wp2
    go_ret
    exact ⟨ret_bool (by decide), rfl⟩
  have e9 : (r == 9) = false := beq_eq_false_iff_ne.2 h9
  have e10 : (r == 10) = false := beq_eq_false_iff_ne.2 h10
  have e13 : (r == 13) = false := beq_eq_false_iff_ne.2 h13
  have H9 := Lib.hid h9
  have H10 := Lib.hid h10
  have H13 := Lib.hid h13
  clear h9 h10 h13
  by_cases h32 : 32 ≤ r
  · cases hb : isv r with
    | true =>
      have HB := Lib.hid hb
      clear hb
      go_enter Tryz.func72, Tryz.ntmps72
      go_wp2_with (go_at_call 91; refine (Tryz.utf8_ValidRune _ _).mono ?_; rintro e w' ⟨rfl, rfl⟩; rw [HV.out, HB.out])
      go_ret
      exact ⟨ret_bool (by have := isv_iff.1 HB.out; symm; rw [isc_iff]; omega), rfl⟩
    | false =>
      have HB := Lib.hid hb
      clear hb
      go_enter Tryz.func72, Tryz.ntmps72
      go_wp2_with (go_at_call 91; refine (Tryz.utf8_ValidRune _ _).mono ?_; rintro e w' ⟨rfl, rfl⟩; rw [HV.out, HB.out])
      go_ret
      exact ⟨ret_bool (by
        symm
        cases hc : isc r with
        | false => rfl
        | true => have := isv_of_isc hc; rw [HB.out] at this; cases this), rfl⟩
  · have h32' : r < 32 := by omega
    go_enter Tryz.func72, Tryz.ntmps72
    go_wp2
    go_ret
    exact ⟨ret_bool (by
      symm
      have := H9.out; have := H10.out; have := H13.out
      cases hc : isc r with
      | false => rfl
      | true => have := isc_iff.1 hc; omega), rfl⟩
end Go.Proofs.YtjgpmfjkcioinaaGreatDoor.G
namespace Go.Proofs.YtjgpmfjkcioinaaGreatDoor.G
open Go.RowKit Go.Proofs.YtjgpmfjkcioinaaGreatDoorW.PrintWords Go.Proofs.YtjgpmfjkcioinaaGreatDoor.M
set_option linter.unusedVariables false
set_option linter.unusedSimpArgs false
attribute [local irreducible] Utf8.encode Utf8.decode
theorem extract_at (s : ByteArray) (n : Nat) : at_ (s.extract n s.size) 0 = at_ s n := by
  rw [at_zero, by_extract, List.take_of_length_le (by rw [by_length]; exact Nat.le_refl _)]
  unfold at_; rw [Int.toNat_natCast]
set_option maxHeartbeats 1000000 in
set_option maxRecDepth 100000 in
theorem next_yes (s : ByteArray) (n R nE : Nat) (E : ByteArray) (w : World) (hs : s.size ≤ 140737488351232) (hn : n < s.size)
    (hd : Hid (∃ K, Utf8.decode (s.extract n s.size) 0 = (R, K))) (hE : Utf8.encode (R : Int) = E) (hz : E.size = nE) (hr : (R : Int) ≤ 1114111) (hc : Hid (isc (R : Int) = true)) (hle : n + nE ≤ s.size) (he : ((s.extract n (n + nE)).toList == E.toList) = true) :
    Calls Tryz.prog 46 #[.string s, .int .i64 n] w fun e w' => e = .returned (.tuple #[.int .i64 R, .int .i64 nE]) ∧ Below w.heap.size w w' := by
  obtain ⟨K, hK⟩ := hd.out
  clear hd
  have hnx : ∀ ty, (Instr.next (.pointer (some ⟨w.heap.size, 0, none⟩)) true ty).run Tryz.prog (w.iter (s.extract n s.size) 0) = .ok (.tuple #[.bool true, .int .i64 0, .int .i32 R]) ((w.iter (s.extract n s.size) 0).iterAt w.heap.size (s.extract n s.size) (0 + K)) := by
    intro ty
    have := Lib.run_next_any_at (P := Tryz.prog) (w.iter (s.extract n s.size) 0) w.heap.size (s.extract n s.size) 0 ty (World.iter_heap w _ 0) (by simp; omega)
    rw [hK] at this
    exact this
  have hb : Below w.heap.size w ((w.iter (s.extract n s.size) 0).iterAt w.heap.size (s.extract n s.size) (0 + K)) := Lib.below_iterAt ((Below.refl _ w).alloc (Nat.le_refl _) _) (Nat.le_refl _) _ _
  obtain ⟨W, hW⟩ : ∃ W, (w.iter (s.extract n s.size) 0).iterAt w.heap.size (s.extract n s.size) (0 + K) = W := ⟨_, rfl⟩
  rw [hW] at hnx hb
  clear hW hK
  go_enter Tryz.func46, Tryz.ntmps46
  go_wp2
  refine wp_loop_rounds 1 ?_
  rw [rounds_succ]
  go_wp2_with (go_at_call 72; refine (is_char _ _ (by omega) (by omega)).mono ?_; rintro e w' ⟨rfl, rfl⟩; rw [hc.out])
  go_ret2
  exact ⟨rfl, hb⟩
set_option maxHeartbeats 1000000 in
set_option maxRecDepth 100000 in
theorem next_ne (s : ByteArray) (n R nE : Nat) (E : ByteArray) (w : World) (hs : s.size ≤ 140737488351232) (hn : n < s.size)
    (hd : Hid (∃ K, Utf8.decode (s.extract n s.size) 0 = (R, K))) (hE : Utf8.encode (R : Int) = E) (hz : E.size = nE) (hr : (R : Int) ≤ 1114111) (hc : Hid (isc (R : Int) = true)) (hle : n + nE ≤ s.size) (he : ((s.extract n (n + nE)).toList == E.toList) = false) :
    Calls Tryz.prog 46 #[.string s, .int .i64 n] w fun e w' => e = .returned (.tuple #[.int .i64 0, .int .i64 0]) ∧ Below w.heap.size w w' := by
  obtain ⟨K, hK⟩ := hd.out
  clear hd
  have hnx : ∀ ty, (Instr.next (.pointer (some ⟨w.heap.size, 0, none⟩)) true ty).run Tryz.prog (w.iter (s.extract n s.size) 0) = .ok (.tuple #[.bool true, .int .i64 0, .int .i32 R]) ((w.iter (s.extract n s.size) 0).iterAt w.heap.size (s.extract n s.size) (0 + K)) := by
    intro ty
    have := Lib.run_next_any_at (P := Tryz.prog) (w.iter (s.extract n s.size) 0) w.heap.size (s.extract n s.size) 0 ty (World.iter_heap w _ 0) (by simp; omega)
    rw [hK] at this
    exact this
  have hb : Below w.heap.size w ((w.iter (s.extract n s.size) 0).iterAt w.heap.size (s.extract n s.size) (0 + K)) := Lib.below_iterAt ((Below.refl _ w).alloc (Nat.le_refl _) _) (Nat.le_refl _) _ _
  obtain ⟨W, hW⟩ : ∃ W, (w.iter (s.extract n s.size) 0).iterAt w.heap.size (s.extract n s.size) (0 + K) = W := ⟨_, rfl⟩
  rw [hW] at hnx hb
  clear hW hK
  go_enter Tryz.func46, Tryz.ntmps46
  go_wp2
  refine wp_loop_rounds 1 ?_
  rw [rounds_succ]
  go_wp2_with (go_at_call 72; refine (is_char _ _ (by omega) (by omega)).mono ?_; rintro e w' ⟨rfl, rfl⟩; rw [hc.out])
  go_ret2
  exact ⟨rfl, hb⟩
set_option maxHeartbeats 1000000 in
set_option maxRecDepth 100000 in
theorem next_long (s : ByteArray) (n R nE : Nat) (E : ByteArray) (w : World) (hs : s.size ≤ 140737488351232) (hn : n < s.size)
    (hd : Hid (∃ K, Utf8.decode (s.extract n s.size) 0 = (R, K))) (hE : Utf8.encode (R : Int) = E) (hz : E.size = nE) (hr : (R : Int) ≤ 1114111) (hc : Hid (isc (R : Int) = true)) (hle : s.size < n + nE) :
    Calls Tryz.prog 46 #[.string s, .int .i64 n] w fun e w' => e = .returned (.tuple #[.int .i64 0, .int .i64 0]) ∧ Below w.heap.size w w' := by
  obtain ⟨K, hK⟩ := hd.out
  clear hd
  have hnx : ∀ ty, (Instr.next (.pointer (some ⟨w.heap.size, 0, none⟩)) true ty).run Tryz.prog (w.iter (s.extract n s.size) 0) = .ok (.tuple #[.bool true, .int .i64 0, .int .i32 R]) ((w.iter (s.extract n s.size) 0).iterAt w.heap.size (s.extract n s.size) (0 + K)) := by
    intro ty
    have := Lib.run_next_any_at (P := Tryz.prog) (w.iter (s.extract n s.size) 0) w.heap.size (s.extract n s.size) 0 ty (World.iter_heap w _ 0) (by simp; omega)
    rw [hK] at this
    exact this
  have hb : Below w.heap.size w ((w.iter (s.extract n s.size) 0).iterAt w.heap.size (s.extract n s.size) (0 + K)) := Lib.below_iterAt ((Below.refl _ w).alloc (Nat.le_refl _) _) (Nat.le_refl _) _ _
  obtain ⟨W, hW⟩ : ∃ W, (w.iter (s.extract n s.size) 0).iterAt w.heap.size (s.extract n s.size) (0 + K) = W := ⟨_, rfl⟩
  rw [hW] at hnx hb
  clear hW hK
  go_enter Tryz.func46, Tryz.ntmps46
  go_wp2
  refine wp_loop_rounds 1 ?_
  rw [rounds_succ]
  go_wp2_with (go_at_call 72; refine (is_char _ _ (by omega) (by omega)).mono ?_; rintro e w' ⟨rfl, rfl⟩; rw [hc.out])
  go_ret2
  exact ⟨rfl, hb⟩
set_option maxHeartbeats 1000000 in
set_option maxRecDepth 100000 in
theorem next_not (s : ByteArray) (n R nE : Nat) (E : ByteArray) (w : World) (hs : s.size ≤ 140737488351232) (hn : n < s.size)
    (hd : Hid (∃ K, Utf8.decode (s.extract n s.size) 0 = (R, K))) (hE : Utf8.encode (R : Int) = E) (hz : E.size = nE) (hr : (R : Int) ≤ 1114111) (hc : Hid (isc (R : Int) = false)) :
    Calls Tryz.prog 46 #[.string s, .int .i64 n] w fun e w' => e = .returned (.tuple #[.int .i64 0, .int .i64 0]) ∧ Below w.heap.size w w' := by
  obtain ⟨K, hK⟩ := hd.out
  clear hd
  have hnx : ∀ ty, (Instr.next (.pointer (some ⟨w.heap.size, 0, none⟩)) true ty).run Tryz.prog (w.iter (s.extract n s.size) 0) = .ok (.tuple #[.bool true, .int .i64 0, .int .i32 R]) ((w.iter (s.extract n s.size) 0).iterAt w.heap.size (s.extract n s.size) (0 + K)) := by
    intro ty
    have := Lib.run_next_any_at (P := Tryz.prog) (w.iter (s.extract n s.size) 0) w.heap.size (s.extract n s.size) 0 ty (World.iter_heap w _ 0) (by simp; omega)
    rw [hK] at this
    exact this
  have hb : Below w.heap.size w ((w.iter (s.extract n s.size) 0).iterAt w.heap.size (s.extract n s.size) (0 + K)) := Lib.below_iterAt ((Below.refl _ w).alloc (Nat.le_refl _) _) (Nat.le_refl _) _ _
  obtain ⟨W, hW⟩ : ∃ W, (w.iter (s.extract n s.size) 0).iterAt w.heap.size (s.extract n s.size) (0 + K) = W := ⟨_, rfl⟩
  rw [hW] at hnx hb
  clear hW hK
  go_enter Tryz.func46, Tryz.ntmps46
  go_wp2
  refine wp_loop_rounds 1 ?_
  rw [rounds_succ]
  go_wp2_with (go_at_call 72; refine (is_char _ _ (by omega) (by omega)).mono ?_; rintro e w' ⟨rfl, rfl⟩; rw [hc.out])
  go_ret2
  exact ⟨rfl, hb⟩
set_option maxHeartbeats 400000 in
set_option maxRecDepth 100000 in
theorem next_out (s : ByteArray) (i : Int) (w : World) (h : i < 0 ∨ (s.size : Int) ≤ i) :
    Calls Tryz.prog 46 #[.string s, .int .i64 i] w fun e w' => e = .returned (.tuple #[.int .i64 0, .int .i64 0]) ∧ Below w.heap.size w w' := by
  by_cases h0 : i < 0
  · go_enter Tryz.func46, Tryz.ntmps46
    go_wp2
    go_ret2
    exact ⟨rfl, Below.refl _ _⟩
  · have h1 : (s.size : Int) ≤ i := by omega
    clear h
    go_enter Tryz.func46, Tryz.ntmps46
    go_wp2
    go_ret2
    exact ⟨rfl, Below.refl _ _⟩
theorem toList_by (a b : ByteArray) : (a.toList == b.toList) = decide (by_ a = by_ b) := by
  rw [Lib.toList_data, Lib.toList_data, Bool.eq_iff_iff, beq_iff_eq, decide_eq_true_eq]
  constructor
  · intro h; unfold by_; rw [h]
  · intro h; rw [by_inj h]
theorem prefix_take {e l : List Int} : e.isPrefixOf l = true ↔ e.length ≤ l.length ∧ l.take e.length = e := by
  rw [List.isPrefixOf_iff_prefix]
  constructor
  · intro h; exact ⟨h.length_le, (List.prefix_iff_eq_take.1 h).symm⟩
  · intro h; rw [← h.2]; exact List.take_prefix _ _
theorem next_any (s : ByteArray) (i : Int) (w : World) (hs : s.size ≤ 140737488351232) :
    Calls Tryz.prog 46 #[.string s, .int .i64 i] w fun e w' => e = .returned (.tuple #[.int .i64 (nxr s i), .int .i64 (nxn s i)]) ∧ Below w.heap.size w w' := by
  by_cases ho : i < 0 ∨ (s.size : Int) ≤ i
  · rw [(nxn_out s i ho).1, (nxn_out s i ho).2]; exact next_out s i w ho
  · obtain ⟨n, rfl⟩ : ∃ n : Nat, i = n := ⟨i.toNat, by omega⟩
    have hn : n < s.size := by omega
    have hx := nxp_decode sort_isc (s.extract n s.size) 0
    have hv := decode_isv (s.extract n s.size) 0
    rw [show ((0 : Nat) : Int) = 0 from rfl, extract_at] at hx
    obtain ⟨R, hR⟩ : ∃ R, (Utf8.decode (s.extract n s.size) 0).1 = R := ⟨_, rfl⟩
    have hd : Hid (∃ K, Utf8.decode (s.extract n s.size) 0 = (R, K)) := ⟨_, by rw [← hR]⟩
    rw [hR] at hx hv
    have hz := encode_size hv
    have hby := encode_by hv
    have hr := isv_iff.1 hv
    have hl := at_length s n (by omega) (by omega)
    have e1 : nxr s n = (nxp isc (at_ s n)).1 := by unfold nxr; rw [if_neg (by omega)]
    have e2 : nxn s n = ((nxp isc (at_ s n)).2 : Int) := by unfold nxn; rw [if_neg (by omega)]
    have key : by_ (s.extract n (n + (enc (R : Int)).length)) = (at_ s n).take (enc (R : Int)).length := by
      rw [by_extract, List.drop_take]; unfold at_; rw [Int.toNat_natCast, Nat.add_sub_cancel_left]
    have hr2 : (R : Int) ≤ 1114111 := hr.2.1
    clear hr
    rw [e1, e2, hx]
    cases hc : isc (R : Int) with
    | false =>
      rw [if_neg (fun c => by cases c.1)]
      exact next_not s n R _ _ w hs hn hd rfl hz hr2 hc
    | true =>
      by_cases hle : n + (enc (R : Int)).length ≤ s.size
      · by_cases he : (at_ s n).take (enc (R : Int)).length = enc (R : Int)
        · rw [if_pos ⟨rfl, prefix_take.2 ⟨by omega, he⟩⟩]
          dsimp only
          exact next_yes s n R (enc (R : Int)).length (Utf8.encode (R : Int)) w hs hn hd rfl hz hr2 hc hle (by rw [toList_by, key, hby, he]; exact decide_eq_true rfl)
        · rw [if_neg (fun c => he (prefix_take.1 c.2).2)]
          exact next_ne s n R _ _ w hs hn hd rfl hz hr2 hc hle (by rw [toList_by, key, hby]; exact decide_eq_false he)
      · rw [if_neg (fun c => by have := (prefix_take.1 c.2).1; omega)]
        exact next_long s n R _ _ w hs hn hd rfl hz hr2 hc (by omega)
end Go.Proofs.YtjgpmfjkcioinaaGreatDoor.G
