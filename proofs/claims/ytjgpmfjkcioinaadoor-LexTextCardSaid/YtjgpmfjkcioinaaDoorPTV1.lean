/-
  Characters: the model's own reading of bytes and the plain one are the same; the walks of 'utf.is' and 'utf.Next'.
-/
import Derived.Test.YtjgpmfjkcioinaaDoorPTK1
import Derived.Test.YtjgpmfjkcioinaaDoorPTZ2
import Derived.Lib.OthersKept
import Derived.Lib.TrimUEq
import Derived.Lib.MapLaws
namespace Go.Proofs.YtjgpmfjkcioinaaDoor.G
open Go.RowKit Go.Proofs.YtjgpmfjkcioinaaDoorW.PrintWords Go.Proofs.YtjgpmfjkcioinaaDoor.M
set_option linter.unusedVariables false
set_option linter.unusedSimpArgs false
theorem encode_by {r : Int} (h : isv r = true) : by_ (Utf8.encode r) = enc r := by
  have hr := isv_iff.1 h
  have hv : Utf8.valid r = true := by simp [Utf8.valid]; omega
  unfold Utf8.encode enc
  simp only [hv, if_true]
  by_cases h1 : r < 128
  · rw [if_pos h1, if_pos (by omega)]
    simp only [by_, List.map_cons, List.map_nil, List.cons.injEq, and_true]
    simp; omega
  · rw [if_neg h1, if_neg (by omega)]
    by_cases h2 : r < 2048
    · rw [if_pos h2, if_pos (by omega)]
      simp only [by_, List.map_cons, List.map_nil, List.cons.injEq, and_true]
      simp; omega
    · rw [if_neg h2, if_neg (by omega)]
      by_cases h3 : r < 65536
      · rw [if_pos h3, if_pos (by omega)]
        simp only [by_, List.map_cons, List.map_nil, List.cons.injEq, and_true]
        simp; omega
      · rw [if_neg h3, if_neg (by omega)]
        simp only [by_, List.map_cons, List.map_nil, List.cons.injEq, and_true]
        simp; omega
theorem encode_size {r : Int} (h : isv r = true) : (Utf8.encode r).size = (enc r).length := by
  rw [← by_length, encode_by h]
theorem at_getD (s : ByteArray) (n j : Nat) : (at_ s n).getD j 0 = ((s.data.toList.getD (n + j) 0).toNat : Int) := by
  unfold at_ by_
  simp only [List.getD_eq_getElem?_getD, List.getElem?_drop, List.getElem?_map, Int.toNat_natCast]
  cases s.data.toList[n + j]? <;> simp
theorem decode_enc {s : ByteArray} {n : Nat} {r : Int} (h : isv r = true) {m : List Int} (e : at_ s n = enc r ++ m) : Utf8.decode s n = (r.toNat, (enc r).length) := by
  have hr := isv_iff.1 h
  have g0 := at_getD s n 0
  have g1 := at_getD s n 1
  have g2 := at_getD s n 2
  have g3 := at_getD s n 3
  have hl := congrArg List.length e
  have hn : n ≤ s.size ∨ at_ s n = [] := by
    by_cases q : n ≤ s.size
    · exact .inl q
    · exact .inr (at_nil s n (by omega))
  have hz : ((at_ s n).length : Int) = s.size - n := by
    rcases hn with q | q
    · exact at_length s n (by omega) (by omega)
    · rw [q] at e
      exact absurd (List.append_eq_nil_iff.1 e.symm).1 (enc_ne r)
  have hsz : s.data.toList.length = s.size := by simp
  have b0 := (s.data.toList.getD (n + 0) 0).toNat_lt
  have b1 := (s.data.toList.getD (n + 1) 0).toNat_lt
  have b2 := (s.data.toList.getD (n + 2) 0).toNat_lt
  have b3 := (s.data.toList.getD (n + 3) 0).toNat_lt
  rw [Lib.decode_N, hsz]
  rw [e] at g0 g1 g2 g3 hz
  rw [Nat.add_zero] at g0 b0
  obtain ⟨a, ha⟩ : ∃ a, (s.data.toList.getD n 0).toNat = a := ⟨_, rfl⟩
  obtain ⟨b, hb⟩ : ∃ a, (s.data.toList.getD (n + 1) 0).toNat = a := ⟨_, rfl⟩
  obtain ⟨c, hc⟩ : ∃ a, (s.data.toList.getD (n + 2) 0).toNat = a := ⟨_, rfl⟩
  obtain ⟨d, hd⟩ : ∃ a, (s.data.toList.getD (n + 3) 0).toNat = a := ⟨_, rfl⟩
  rw [ha] at g0 b0 ⊢
  rw [hb] at g1 b1 ⊢
  rw [hc] at g2 b2 ⊢
  rw [hd] at g3 b3 ⊢
  clear ha hb hc hd hl hn e
  unfold Lib.decodeN
  by_cases h1 : r < 128
  · have E : enc r = [r] := by unfold enc; rw [if_pos h1]
    rw [E] at g0 hz ⊢
    simp only [List.cons_append, List.nil_append, List.getD_cons_zero] at g0
    rw [if_pos (by omega)]
    simp; omega
  · by_cases h2 : r < 2048
    · have E : enc r = [192 + r / 64, 128 + r % 64] := by unfold enc; rw [if_neg h1, if_pos h2]
      rw [E] at g0 g1 hz ⊢
      simp only [List.cons_append, List.nil_append, List.getD_cons_zero, List.getD_cons_succ] at g0 g1
      simp only [List.length_append, List.length_cons, List.length_nil] at hz
      rw [if_neg (by omega), if_pos (by omega), if_pos (by omega)]
      simp; omega
    · by_cases h3 : r < 65536
      · have E : enc r = [224 + r / 4096, 128 + r / 64 % 64, 128 + r % 64] := by unfold enc; rw [if_neg h1, if_neg h2, if_pos h3]
        rw [E] at g0 g1 g2 hz ⊢
        simp only [List.cons_append, List.nil_append, List.getD_cons_zero, List.getD_cons_succ] at g0 g1 g2
        simp only [List.length_append, List.length_cons, List.length_nil] at hz
        rw [if_neg (by omega), if_neg (by omega), if_pos (by omega), if_pos (by omega)]
        simp; omega
      · have E : enc r = [240 + r / 262144, 128 + r / 4096 % 64, 128 + r / 64 % 64, 128 + r % 64] := by unfold enc; rw [if_neg h1, if_neg h2, if_neg h3]
        rw [E] at g0 g1 g2 g3 hz ⊢
        simp only [List.cons_append, List.nil_append, List.getD_cons_zero, List.getD_cons_succ] at g0 g1 g2 g3
        simp only [List.length_append, List.length_cons, List.length_nil] at hz
        rw [if_neg (by omega), if_neg (by omega), if_neg (by omega), if_pos (by omega), if_pos (by omega)]
        simp; omega
theorem decode_isv (s : ByteArray) (n : Nat) : isv ((Utf8.decode s n).1 : Int) = true := by
  rw [Lib.decode_N, isv_iff]
  have b0 := (s.data.toList.getD n 0).toNat_lt
  rcases Lib.decodeN_shape (s.data.toList.length - n) (s.data.toList.getD n 0).toNat (s.data.toList.getD (n + 1) 0).toNat (s.data.toList.getD (n + 2) 0).toNat (s.data.toList.getD (n + 3) 0).toNat with ⟨c, e⟩ | ⟨c1, c2, c3, cv, e⟩ | ⟨c1, c2, c3, c4, cv, cs, e⟩ | ⟨c1, c2, c3, c4, c5, cv, cw, e⟩ | e
  all_goals
    rw [e]
    dsimp only
    omega
theorem nxp_decode {p : Int → Bool} (hp : Sort_ p) (s : ByteArray) (n : Nat) :
    nxp p (at_ s n) = if p ((Utf8.decode s n).1 : Int) = true ∧ (enc ((Utf8.decode s n).1 : Int)).isPrefixOf (at_ s n) = true then (((Utf8.decode s n).1 : Int), (enc ((Utf8.decode s n).1 : Int)).length) else (0, 0) := by
  by_cases h : (nxp p (at_ s n)).2 = 0
  · rw [nxp_zero h, if_neg]
    intro c
    obtain ⟨m, hm⟩ := List.isPrefixOf_iff_prefix.1 c.2
    have h2 := nxp_enc hp c.1 m
    rw [hm] at h2
    have h3 := enc_len ((Utf8.decode s n).1 : Int)
    rw [h2] at h
    dsimp only at h
    omega
  · obtain ⟨k1, k2, k3, k4⟩ := nxp_pos h
    have hd := decode_enc (hp _ k1) k3
    have hv := isv_iff.1 (hp _ k1)
    have e : ((Utf8.decode s n).1 : Int) = (nxp p (at_ s n)).1 := by rw [hd]; dsimp only; omega
    rw [e, if_pos ⟨k1, by rw [List.isPrefixOf_iff_prefix]; exact ⟨_, k3.symm⟩⟩, ← k2]
set_option maxHeartbeats 800000 in
theorem is_char (r : Int) (w : World) (h0 : 0 ≤ r) (h1 : r ≤ 1114111) :
    Calls Tryd.prog 82 #[.int .i64 r] w fun e w' => e = .returned (.bool (isc r)) ∧ w' = w := by
  have hw : IntKind.i32.wrap r = r := by simp [IntKind.wrap, IntKind.bits]; omega
  have hv : Lib.validRune r = isv r := by
    rw [Bool.eq_iff_iff, isv_iff]; simp [Lib.validRune]; omega
  have HV := Lib.hid hv
  clear hv
  by_cases h9 : r = 9
  · subst h9
    go_enter Tryd.func82, Tryd.ntmps82
    go_wp2
    go_ret
    exact ⟨ret_bool (by decide), rfl⟩
  by_cases h10 : r = 10
  · subst h10
    go_enter Tryd.func82, Tryd.ntmps82
    go_wp2
    go_ret
    exact ⟨ret_bool (by decide), rfl⟩
  by_cases h13 : r = 13
  · subst h13
    go_enter Tryd.func82, Tryd.ntmps82
    go_wp2
    go_ret
    exact ⟨ret_bool (by decide), rfl⟩
  have e9 : (r == 9) = false := beq_eq_false_iff_ne.2 h9
  have e10 : (r == 10) = false := beq_eq_false_iff_ne.2 h10
  have e13 : (r == 13) = false := beq_eq_false_iff_ne.2 h13
  have H9 := Lib.hid h9
  have H10 := Lib.hid h10
  have H13 := Lib.hid h13
  clear h9 h10 h13
  by_cases h32 : 32 ≤ r
  · cases hb : isv r with
    | true =>
      have HB := Lib.hid hb
      clear hb
      go_enter Tryd.func82, Tryd.ntmps82
      go_wp2_with (go_at_call 77; refine (Tryd.utf8_ValidRune _ _).mono ?_; rintro e w' ⟨rfl, rfl⟩; rw [HV.out, HB.out])
      go_ret
      exact ⟨ret_bool (by have := isv_iff.1 HB.out; symm; rw [isc_iff]; omega), rfl⟩
    | false =>
      have HB := Lib.hid hb
      clear hb
      go_enter Tryd.func82, Tryd.ntmps82
      go_wp2_with (go_at_call 77; refine (Tryd.utf8_ValidRune _ _).mono ?_; rintro e w' ⟨rfl, rfl⟩; rw [HV.out, HB.out])
      go_ret
      exact ⟨ret_bool (by
        symm
        cases hc : isc r with
        | false => rfl
        | true => have := isv_of_isc hc; rw [HB.out] at this; cases this), rfl⟩
  · have h32' : r < 32 := by omega
    go_enter Tryd.func82, Tryd.ntmps82
    go_wp2
    go_ret
    exact ⟨ret_bool (by
      symm
      have := H9.out; have := H10.out; have := H13.out
      cases hc : isc r with
      | false => rfl
      | true => have := isc_iff.1 hc; omega), rfl⟩
end Go.Proofs.YtjgpmfjkcioinaaDoor.G
