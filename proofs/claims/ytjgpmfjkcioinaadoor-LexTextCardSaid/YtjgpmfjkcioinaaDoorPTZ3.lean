/-
  'quote.one': all its ways in one.
-/
import Derived.Test.YtjgpmfjkcioinaaDoorPTW1
import Derived.Test.YtjgpmfjkcioinaaDoorPTE3
import Derived.Test.YtjgpmfjkcioinaaDoorPTE8
import Derived.Lib.MapLaws
import Derived.LoopTactic
import Derived.Test.YtjgpmfjkcioinaaDoorPTK2
import Derived.Lib.OthersKept
import Derived.Test.YtjgpmfjkcioinaaDoorPTKE
import Derived.ChangeArms
namespace Go.Proofs.YtjgpmfjkcioinaaDoor.G
open Go.RowKit Go.Proofs.YtjgpmfjkcioinaaDoorW.PrintWords Go.Proofs.YtjgpmfjkcioinaaDoor.M
set_option linter.unusedVariables false
set_option linter.unusedSimpArgs false
attribute [local irreducible] Utf8.encode Utf8.decode
theorem cmp_one (c : UInt8) (hc : c.toNat < 128) {r : Int} (hr : isv r = true) {E : ByteArray} (hE : by_ E = enc r) : ([c] == E.toList) = decide (r = (c.toNat : Int)) := by
  have h := toList_by (⟨#[c]⟩ : ByteArray) E
  rw [show (⟨#[c]⟩ : ByteArray).toList = [c] by rw [Lib.toList_data]] at h
  rw [h, hE, show by_ (⟨#[c]⟩ : ByteArray) = [(c.toNat : Int)] from rfl]
  refine decide_eq_decide.2 ⟨fun q => ?_, fun q => by rw [q, enc_low (by omega)]⟩
  have hv : isv (c.toNat : Int) = true := by rw [isv_iff]; omega
  have e : enc r ++ [] = enc (c.toNat : Int) ++ [] := by rw [← q, enc_low (show (c.toNat : Int) < 128 by omega)]
  exact (enc_inj hr hv e).1
theorem hexd_at : ∀ n : Fin 16, by_ ((⟨#[48, 49, 50, 51, 52, 53, 54, 55, 56, 57, 97, 98, 99, 100, 101, 102]⟩ : ByteArray).extract n.val (n.val + 1)) = [hexd (n.val : Int)] := by decide +kernel
theorem qone_any (r : Int) (w : World) (hr : isv r = true) (hS : ES w) :
    Calls Tryd.prog 38 #[.int .i32 r] w fun e w' => e = .returned (.string (ba (oneQ r))) ∧ Below w.heap.size w w' := by
  obtain ⟨E, hE⟩ : ∃ E, Utf8.encode r = E := ⟨_, rfl⟩
  have hb : by_ E = enc r := by rw [← hE]; exact encode_by hr
  have k0 := cmp_one 34 (by decide) hr hb
  have k1 := cmp_one 92 (by decide) hr hb
  have k2 := cmp_one 8 (by decide) hr hb
  have k3 := cmp_one 12 (by decide) hr hb
  have k4 := cmp_one 10 (by decide) hr hb
  have k5 := cmp_one 13 (by decide) hr hb
  have k6 := cmp_one 9 (by decide) hr hb
  have lit : ∀ (x y : ByteArray), by_ x = by_ y → x = y := fun x y h => by_inj h
  have two : ∀ {a b : Int} {x : ByteArray}, by_ x = [a, b] → x = ba [a, b] := fun {a b x} h => by rw [← h, ba_by]
  unfold oneQ
  by_cases c0 : r = 34
  · rw [if_pos c0, show ba [92, 34] = ⟨#[92, 34]⟩ from rfl]
    exact one_0 r E w hS hE (k0.trans (decide_eq_true c0))
  have f0 := k0.trans (decide_eq_false c0)
  rw [if_neg c0]
  by_cases c1 : r = 92
  · rw [if_pos c1, show ba [92, 92] = ⟨#[92, 92]⟩ from rfl]
    exact one_1 r E w hS hE f0 (k1.trans (decide_eq_true c1))
  have f1 := k1.trans (decide_eq_false c1)
  rw [if_neg c1]
  by_cases c2 : r = 8
  · rw [if_pos c2, show ba [92, 98] = ⟨#[92, 98]⟩ from rfl]
    exact one_2 r E w hS hE f0 f1 (k2.trans (decide_eq_true c2))
  have f2 := k2.trans (decide_eq_false c2)
  rw [if_neg c2]
  by_cases c3 : r = 12
  · rw [if_pos c3, show ba [92, 102] = ⟨#[92, 102]⟩ from rfl]
    exact one_3 r E w hS hE f0 f1 f2 (k3.trans (decide_eq_true c3))
  have f3 := k3.trans (decide_eq_false c3)
  rw [if_neg c3]
  by_cases c4 : r = 10
  · rw [if_pos c4, show ba [92, 110] = ⟨#[92, 110]⟩ from rfl]
    exact one_4 r E w hS hE f0 f1 f2 f3 (k4.trans (decide_eq_true c4))
  have f4 := k4.trans (decide_eq_false c4)
  rw [if_neg c4]
  by_cases c5 : r = 13
  · rw [if_pos c5, show ba [92, 114] = ⟨#[92, 114]⟩ from rfl]
    exact one_5 r E w hS hE f0 f1 f2 f3 f4 (k5.trans (decide_eq_true c5))
  have f5 := k5.trans (decide_eq_false c5)
  rw [if_neg c5]
  by_cases c6 : r = 9
  · rw [if_pos c6, show ba [92, 116] = ⟨#[92, 116]⟩ from rfl]
    exact one_6 r E w hS hE f0 f1 f2 f3 f4 f5 (k6.trans (decide_eq_true c6))
  have f6 := k6.trans (decide_eq_false c6)
  rw [if_neg c6]
  have hv := isv_iff.1 hr
  by_cases c7 : r < 32
  · rw [if_pos c7]
    obtain ⟨n, rfl⟩ : ∃ n : Nat, r = n := ⟨r.toNat, by omega⟩
    have hq : Int.tdiv (n : Int) 16 = ((n / 16 : Nat) : Int) := by rw [Int.tdiv_eq_ediv_of_nonneg (by omega)]; omega
    have hm : Int.tmod (n : Int) 16 = ((n % 16 : Nat) : Int) := by rw [Int.tmod_eq_emod_of_nonneg (by omega)]; omega
    have x1 := hexd_at ⟨n / 16, by omega⟩
    have x2 := hexd_at ⟨n % 16, by omega⟩
    simp only at x1 x2
    have z1 := congrArg List.length x1
    have z2 := congrArg List.length x2
    rw [by_length] at z1 z2
    have := one_c (n : Int) E (n / 16) (n % 16) _ _ w hS hE f0 f1 f2 f3 f4 f5 f6 (decide_eq_true c7) hq hm (by omega) (by omega) rfl rfl z1 z2
    refine this.mono ?_
    rintro e w' ⟨rfl, hb⟩
    refine ⟨?_, hb⟩
    congr 2
    refine by_inj ?_
    rw [by_append, by_append, x1, x2, by_ba (by
      have h1 : ∀ k : Int, 0 ≤ k → k < 16 → 0 ≤ hexd k ∧ hexd k ≤ 255 := by intro k h0 h1; unfold hexd; split <;> omega
      have a1 := h1 ((n : Int) / 16) (by omega) (by omega)
      have a2 := h1 ((n : Int) % 16) (by omega) (by omega)
      intro c hc
      simp only [List.mem_cons, List.not_mem_nil, or_false] at hc
      omega)]
    rfl
  · rw [if_neg c7, ← hb, ba_by]
    exact one_p r E w hS hE f0 f1 f2 f3 f4 f5 f6 (decide_eq_false c7)
end Go.Proofs.YtjgpmfjkcioinaaDoor.G
namespace Go.Proofs.YtjgpmfjkcioinaaDoor.G
open Go.RowKit Go.Shelf Go.Proofs.YtjgpmfjkcioinaaDoorW.PrintWords Go.Proofs.YtjgpmfjkcioinaaDoor.M
set_option linter.unusedVariables false
set_option linter.unusedSimpArgs false
def mf (r : Int) : Int := if r < 32 then 32 else r
set_option maxHeartbeats 400000 in
theorem mayc (r : Int) (w : World) : Calls Tryd.prog 71 #[.int .i32 r] w fun e w' => e = .returned (.int .i32 (mf r)) ∧ w' = w := by
  unfold mf
  by_cases h : r < 32
  · rw [if_pos h]
    have hd : decide (r < 32) = true := decide_eq_true h
    go_enter Tryd.func71, Tryd.ntmps71
    go_wp2
    go_ret
    exact ⟨rfl, rfl⟩
  · rw [if_neg h]
    have hd : decide (r < 32) = false := decide_eq_false h
    go_enter Tryd.func71, Tryd.ntmps71
    go_wp2
    go_ret
    exact ⟨rfl, rfl⟩
theorem escapes_data : (Rows.laid_copperplate_quote_escapes : DataW Unit) = .agg ((List.range 7).map fun j => .agg [.lit (.string (escB.getD (2 * j) ⟨#[]⟩).data.toList), .lit (.string (escB.getD (2 * j + 1) ⟨#[]⟩).data.toList)]) := by kernel_rfl
end Go.Proofs.YtjgpmfjkcioinaaDoor.G
namespace Go.Proofs.YtjgpmfjkcioinaaDoor.G
open Go.RowKit Go.Proofs.YtjgpmfjkcioinaaDoorW.PrintWords Go.Proofs.YtjgpmfjkcioinaaDoor.M
set_option linter.unusedVariables false
set_option linter.unusedSimpArgs false
def ints (l : List UInt8) : List Int := l.map fun b => (b.toNat : Int)
theorem ints_by (l : List UInt8) : by_ (⟨l.toArray⟩ : ByteArray) = ints l := by_mk l
theorem ints_at (l : List UInt8) : at_ (⟨l.toArray⟩ : ByteArray) 0 = ints l := by rw [at_zero, ints_by]
theorem encodeZ_enc {r : Int} (h : isv r = true) : Lib.encodeRuneZ r = enc r := by
  have hv := isv_iff.1 h
  unfold enc
  by_cases c1 : r < 128
  · rw [if_pos c1]; exact Lib.encodeRuneZ_one (by omega) (by omega)
  by_cases c2 : r < 2048
  · rw [if_neg c1, if_pos c2]; exact Lib.encodeRuneZ_two (by omega) (by omega)
  by_cases c3 : r < 65536
  · rw [if_neg c1, if_neg c2, if_pos c3]; exact Lib.encodeRuneZ_three (by omega)
  · rw [if_neg c1, if_neg c2, if_neg c3]; exact Lib.encodeRuneZ_four (by omega) (by omega)
theorem ints_encode {r : Int} (h : isv r = true) : ints (Lib.encodeRune r) = enc r := by
  have := by_ba (enc_range h)
  unfold Lib.encodeRune
  rw [encodeZ_enc h]
  exact this
theorem dec_good {l : List UInt8} (hne : l ≠ []) (hv : ¬ ((Lib.decodeL l).1 = 65533 ∧ (Lib.decodeL l).2 = 1)) :
    isv ((Lib.decodeL l).1 : Int) = true ∧ nxp isv (ints l) = (((Lib.decodeL l).1 : Int), (Lib.decodeL l).2) ∧ (enc ((Lib.decodeL l).1 : Int)).length = (Lib.decodeL l).2 := by
  have h1 : isv ((Lib.decodeL l).1 : Int) = true := decode_isv ⟨l.toArray⟩ 0
  have h2 := congrArg ints (Lib.encode_decode l hne hv)
  rw [ints_encode h1] at h2
  have h3 : ints l = enc ((Lib.decodeL l).1 : Int) ++ ints (l.drop (Lib.decodeL l).2) := by
    rw [h2]; unfold ints; rw [← List.map_append, List.take_append_drop]
  have h4 := decode_enc (s := ⟨l.toArray⟩) (n := 0) h1 (m := ints (l.drop (Lib.decodeL l).2)) (by rw [← h3]; exact ints_at l)
  have hdl : Lib.decodeL l = Utf8.decode ⟨l.toArray⟩ 0 := rfl
  rw [← hdl] at h4
  obtain ⟨N, hN⟩ : ∃ N, (enc ((Lib.decodeL l).1 : Int)).length = N := ⟨_, rfl⟩
  rw [hN] at h4
  have h5 : (enc ((Lib.decodeL l).1 : Int)).length = (Lib.decodeL l).2 := by rw [hN]; exact (congrArg Prod.snd h4).symm
  refine ⟨h1, ?_, h5⟩
  conv => lhs; rw [h3]
  rw [nxp_enc sort_isv h1, h5]
theorem dec_bad {l : List UInt8} (hv : (Lib.decodeL l).1 = 65533 ∧ (Lib.decodeL l).2 = 1) : (nxp isv (ints l)).2 = 0 := by
  by_cases h : (nxp isv (ints l)).2 = 0
  · exact h
  · obtain ⟨k1, k2, k3, k4⟩ := nxp_pos h
    have h4 := decode_enc (s := ⟨l.toArray⟩) (n := 0) k1 (by rw [show ((0 : Nat) : Int) = 0 from rfl, ints_at]; exact k3)
    have e1 : ((nxp isv (ints l)).1).toNat = 65533 := by rw [← hv.1]; exact (congrArg Prod.fst h4).symm
    have e2 : (enc (nxp isv (ints l)).1).length = 1 := by rw [← hv.2]; exact (congrArg Prod.snd h4).symm
    rw [show (nxp isv (ints l)).1 = 65533 by omega] at e2
    exact absurd e2 (by decide)
theorem mf_isc {r : Int} (h : isv r = true) : isc (mf r) = true ∧ (enc (mf r)).length = (enc r).length ∧ 0 ≤ mf r := by
  have hv := isv_iff.1 h
  unfold mf
  by_cases c : r < 32
  · rw [if_pos c]; exact ⟨by decide, by rw [enc_low (by omega), enc_low (by omega)]; rfl, by omega⟩
  · rw [if_neg c]; exact ⟨by rw [isc_iff]; omega, rfl, by omega⟩
theorem map_may : ∀ (n : Nat) (l : List UInt8), l.length ≤ n → l.length ≤ (Lib.mapD mf l).length ∧ ((Lib.mapD mf l).length = l.length ↔ mayp isv (ints l) = true) ∧ (mayp isv (ints l) = true → mayp isc (ints (Lib.mapD mf l)) = true)
  | 0, l, h => by
    obtain rfl : l = [] := List.eq_nil_of_length_eq_zero (by omega)
    rw [Lib.mapD_nil]
    exact ⟨Nat.le_refl _, ⟨fun _ => mayp_nil _, fun _ => rfl⟩, fun _ => mayp_nil _⟩
  | n + 1, l, h => by
    by_cases hne : l = []
    · subst hne
      rw [Lib.mapD_nil]
      exact ⟨Nat.le_refl _, ⟨fun _ => mayp_nil _, fun _ => rfl⟩, fun _ => mayp_nil _⟩
    have hp := List.length_pos_iff.2 hne
    have hi : ints l ≠ [] := fun e => hne (List.map_eq_nil_iff.1 e)
    have hst := Lib.mapD_step mf l hne
    by_cases hv : (Lib.decodeL l).1 = 65533 ∧ (Lib.decodeL l).2 = 1
    · have hb := dec_bad hv
      have ih := map_may n (l.drop 1) (by rw [List.length_drop]; omega)
      rw [hv.1, hv.2, if_pos (show 0 ≤ mf ((65533 : Nat) : Int) by decide), show mf ((65533 : Nat) : Int) = 65533 by decide] at hst
      have hl : (Lib.encodeRune 65533).length = 3 := by decide
      have hlen := congrArg List.length hst
      rw [List.length_append, hl] at hlen
      have hd := ih.1
      rw [List.length_drop] at hd
      have hm : mayp isv (ints l) = false := mayp_not hi hb
      rw [hm]
      exact ⟨by omega, ⟨fun q => by omega, (fun q => by cases q)⟩, (fun q => by cases q)⟩
    · obtain ⟨h1, h2, h3⟩ := dec_good hne hv
      obtain ⟨r, hr⟩ : ∃ r : Int, ((Lib.decodeL l).1 : Int) = r := ⟨_, rfl⟩
      obtain ⟨K, hK⟩ : ∃ K, (Lib.decodeL l).2 = K := ⟨_, rfl⟩
      rw [hr, hK] at h2 h3
      rw [hr] at h1
      rw [hr, hK] at hst
      obtain ⟨m1, m2, m3⟩ := mf_isc h1
      rw [if_pos m3] at hst
      have hk := enc_len r
      have ih := map_may n (l.drop K) (by rw [List.length_drop]; omega)
      have hle := nxp_le isv (ints l)
      rw [h2] at hle
      have hle : K ≤ (ints l).length := hle.1
      rw [show (ints l).length = l.length by simp [ints]] at hle
      have he : (Lib.encodeRune (mf r)).length = K := by
        have := congrArg List.length (ints_encode (isv_of_isc m1))
        rw [show (ints (Lib.encodeRune (mf r))).length = (Lib.encodeRune (mf r)).length by simp [ints]] at this
        omega
      have hlen := congrArg List.length hst
      rw [List.length_append, he] at hlen
      have hm : mayp isv (ints l) = mayp isv (ints (l.drop K)) := by
        rw [mayp_step (by rw [h2]; show K ≠ 0; omega), h2]
        show mayp isv ((ints l).drop K) = _
        unfold ints; rw [List.map_drop]
      have hd : (l.drop K).length = l.length - K := List.length_drop
      rw [hm]
      refine ⟨by omega, ⟨fun q => ih.2.1.1 (by omega), fun q => by have := ih.2.1.2 q; omega⟩, fun q => ?_⟩
      rw [hst, show ints (Lib.encodeRune (mf r) ++ Lib.mapD mf (l.drop K)) = ints (Lib.encodeRune (mf r)) ++ ints (Lib.mapD mf (l.drop K)) by simp [ints], ints_encode (isv_of_isc m1), mayp_enc sort_isc m1]
      exact ih.2.2 q
end Go.Proofs.YtjgpmfjkcioinaaDoor.G
namespace Go.Proofs.YtjgpmfjkcioinaaDoor.G
open Go.RowKit Go.Shelf Go.Proofs.YtjgpmfjkcioinaaDoorW.PrintWords Go.Proofs.YtjgpmfjkcioinaaDoor.M
set_option linter.unusedVariables false
set_option linter.unusedSimpArgs false
attribute [local irreducible] Utf8.encode Utf8.decode
structure TV (s : ByteArray) (w : World) (pos : Nat) (wr : World) : Prop where
  it : wr.heap[w.heap.size + 1]? = some (.stringIter s pos)
  cb : wr.cell? ⟨w.heap.size, 1, none⟩ = some (.slice none 0 0)
  lo : Below w.heap.size w wr
  le : pos ≤ s.size
  my : mayp isv (at_ s pos) = true
theorem cap_zero (b : Nat) (w : World) (c1 : w.cell? ⟨b, 1, none⟩ = some (.slice none 0 0)) :
    Calls Tryd.prog 92 #[.pointer (some ⟨b, 0, none⟩)] w fun e w' => e = .returned (.int .i64 0) ∧ w = w' :=
  (Tryd.Builder_Cap_cell b none 0 0 w c1).mono fun e w' h => ⟨h.1, h.2.symm⟩
set_option maxHeartbeats 4000000 in
set_option maxRecDepth 1000000 in
theorem tovalid (s : ByteArray) (w : World) (hs : s.size ≤ 1000000) (hv : mayp isv (by_ s) = true) (hT : Lib.Utf8Tabs 3 4 w) :
    Calls Tryd.prog 72 #[.string s, .string ⟨#[]⟩] w fun e w' => e = .returned (.string s) ∧ Below w.heap.size w w' := by
  go_enter Tryd.func72, Tryd.ntmps72
  go_wp2
  go_loopw [0] (fun t0 wr => t0 = .string s ∧ ∃ pos, TV s w pos wr) (fun _ wr => s.size - wr.iterPos (w.heap.size + 1))
  case atStart =>
    refine ⟨rfl, 0, ?_, ?_, ?_, Nat.zero_le _, by rw [show ((0 : Nat) : Int) = 0 from rfl, at_zero]; exact hv⟩
    · have := World.iter_heap (w.alloc (.cells #[.pointer none, .slice none 0 0] 60)) s 0
      rwa [World.size_alloc] at this
    · have hb : Below (w.heap.size + 1) (w.alloc (.cells #[.pointer none, .slice none 0 0] 60)) ((w.alloc (.cells #[.pointer none, .slice none 0 0] 60)).iter s 0) := (Below.refl _ _).alloc (by simp) _
      rw [hb.cell (by show w.heap.size < _; omega)]
      go_simp
    · exact ((Below.refl _ w).alloc (Nat.le_refl _) _).alloc (by simp) _
  case round =>
    obtain ⟨rfl, pos, it, cb, lo, le, my⟩ := hrel
    have hsize := lo.size
    have hip : wr.iterPos (w.heap.size + 1) = pos := by unfold World.iterPos; rw [it]
    by_cases hp : pos < s.size
    · have hne : at_ s pos ≠ [] := by rw [at_cons s pos (by omega) (by omega)]; simp
      have h2 := mayp_take my hne
      obtain ⟨k1, k2, k3, k4⟩ := nxp_pos h2
      have hst := mayp_step h2
      rw [my] at hst
      have hd := decode_enc k1 k3
      have hv := isv_iff.1 k1
      have hle := nxp_le isv (at_ s pos)
      have hlen := at_length s pos (by omega) (by omega)
      obtain ⟨R, hR⟩ : ∃ R : Nat, (nxp isv (at_ s pos)).1 = (R : Int) := ⟨((nxp isv (at_ s pos)).1).toNat, by omega⟩
      obtain ⟨K, hK⟩ : ∃ K, (nxp isv (at_ s pos)).2 = K := ⟨_, rfl⟩
      rw [← k2, hR, hK, Int.toNat_natCast] at hd
      rw [hK] at h2 hst hle
      rw [hR] at k1 k2 hv
      rw [hK] at k2
      have hnx : ∀ ty, (Instr.next (.pointer (some ⟨w.heap.size + 1, 0, none⟩)) true ty).run Tryd.prog wr = .ok (.tuple #[.bool true, .int .i64 pos, .int .i32 R]) (wr.iterAt (w.heap.size + 1) s (pos + K)) := by
        intro ty
        have := Lib.run_next_any_at (P := Tryd.prog) wr (w.heap.size + 1) s pos ty it hp
        rw [hd] at this
        exact this
      have n1 := Lib.iterAt_heap wr (w.heap.size + 1) s pos (pos + K) it
      have n2 : Below (w.heap.size + 1) wr (wr.iterAt (w.heap.size + 1) s (pos + K)) := Lib.below_iterAt (Below.refl _ _) (Nat.le_refl _) _ _
      obtain ⟨W1, hW1⟩ : ∃ W1, wr.iterAt (w.heap.size + 1) s (pos + K) = W1 := ⟨_, rfl⟩
      rw [hW1] at hnx n1 n2
      have hsz : w.heap.size + 1 < wr.heap.size := (Array.getElem?_eq_some_iff.1 it).1
      have hT1 := Utf8Tabs_below hT (lo.trans (n2.mono (by omega)))
      have fin : ∀ W2, Below W1.heap.size W1 W2 → TV s w (pos + K) W2 := by
        intro W2 hb
        have hs1 := n2.size
        have hw1 : w.heap.size + 1 < W1.heap.size := (Array.getElem?_eq_some_iff.1 n1).1
        exact ⟨by rw [hb.block _ hw1]; exact n1, by rw [hb.cell (by show w.heap.size < _; omega), n2.cell (by show w.heap.size < _; omega)]; exact cb, lo.trans ((n2.mono (by omega)).trans (hb.mono (by omega))), by omega, by rw [← at_drop]; exact hst.symm⟩
      clear hW1
      by_cases hr : R = 65533
      · subst hr
        have hK3 : K = 3 := by rw [k2]; decide
        subst hK3
        obtain ⟨X, hX⟩ : ∃ X, s.extract pos s.size = X := ⟨_, rfl⟩
        have hdX : Lib.decodeGo X = (65533, 3) := by
          have e1 : at_ X 0 = at_ s pos := by rw [← hX]; exact extract_at s pos
          have e2 : X.size ≠ 0 := by rw [← hX, ByteArray.size_extract]; omega
          unfold Lib.decodeGo
          rw [if_neg e2]
          have := decode_enc (s := X) (n := 0) k1 (m := (at_ s pos).drop 3) (by rw [show ((0 : Nat) : Int) = 0 from rfl, e1]; rw [hR, hK] at k3; exact k3)
          rw [this, ← k2]; rfl
        clear k3 k4 hR hK hst hd my hne hlen hle k1 k2 hv h2
        go_wp2_with (go_at_call 89; refine (Tryd.utf8_DecodeRuneInString X _ hT1).mono ?_; rw [hdX]; rintro e W2 ⟨rfl, hb⟩)
        go_roundw
        case rel => first | exact ⟨rfl, _, fin W2 hb⟩ | ((repeat apply Exists.intro); exact ⟨⟨rfl, _, fin W2 hb⟩, rfl⟩)
        case measure => have := (fin W2 hb).it; simp [World.iterPos, this, it]; omega
      · have hr1 : ((R : Int) != 65533) = true := bne_iff_ne.2 (by omega)
        clear k3 k4 hR hK hst hd my hne hlen hle k1 k2 hv
        go_wp2
        go_roundw
        case rel => first | exact ⟨rfl, _, fin W1 (Below.refl _ _)⟩ | ((repeat apply Exists.intro); exact ⟨⟨rfl, _, fin W1 (Below.refl _ _)⟩, rfl⟩)
        case measure => have := (fin W1 (Below.refl _ _)).it; simp [World.iterPos, this, it]; omega
    · have hnx := fun ty => Lib.run_next_end_at (P := Tryd.prog) wr (w.heap.size + 1) s pos ty it hp
      go_wp2_with (go_at_call 92; refine (cap_zero w.heap.size wr cb).mono ?_; rintro e W2 ⟨rfl, rfl⟩)
      go_ret
      exact ⟨rfl, lo⟩
end Go.Proofs.YtjgpmfjkcioinaaDoor.G
namespace Go.Proofs.YtjgpmfjkcioinaaDoor.G
open Go.RowKit Go.Shelf Go.Proofs.YtjgpmfjkcioinaaDoorW.PrintWords Go.Proofs.YtjgpmfjkcioinaaDoor.M
set_option linter.unusedVariables false
set_option linter.unusedSimpArgs false
attribute [local irreducible] Utf8.encode Utf8.decode
set_option maxRecDepth 100000 in
theorem map_any (v : ByteArray) (w : World) (hs : v.size ≤ 1000000) (hT : Lib.Utf8Tabs 3 4 w) :
    Calls Tryd.prog 70 #[.func (.func 71) #[] #[], .string v] w fun e w' => e = .returned (.string ⟨(Lib.mapD mf v.data.toList).toArray⟩) ∧ Below w.heap.size w w' := by
  refine Tryd.strings_Map_grows 71 #[] (fun _ _ => rfl) mf v w (by omega) ?_ ?_ hT
  · intro W x hx hb
    exact (mayc (x : Int) W).mono (by rintro e w' ⟨rfl, rfl⟩; exact ⟨rfl, Below.refl _ _⟩)
  · intro x hx
    unfold mf
    split <;> omega
set_option maxHeartbeats 1000000 in
theorem qmay_no (v P : ByteArray) (w : World) (hP : Hid (∀ W, Below w.heap.size w W → Calls Tryd.prog 70 #[.func (.func 71) #[] #[], .string v] W fun e w' => e = .returned (.string P) ∧ Below W.heap.size W w')) (hz : ((P.size : Int) == (v.size : Int)) = false) (hz2 : (P.size == v.size) = false) :
    Calls Tryd.prog 35 #[.string v] w fun e w' => e = .returned (.bool false) ∧ Below w.heap.size w w' := by
  go_enter Tryd.func35, Tryd.ntmps35
  go_wp2_with (go_at_call 70; refine (hP.out _ (Below.refl _ _)).mono ?_; rintro e w1 ⟨rfl, hb1⟩)
  go_ret
  exact ⟨rfl, hb1⟩
set_option maxHeartbeats 1000000 in
theorem qmay_yes (v P : ByteArray) (w : World) (hP : Hid (Calls Tryd.prog 70 #[.func (.func 71) #[] #[], .string v] w fun e w' => e = .returned (.string P) ∧ Below w.heap.size w w'))
    (hM : Hid (∀ W, Calls Tryd.prog 14 #[.string P] W fun e w' => e = .returned (.bool true) ∧ Below W.heap.size W w'))
    (hV : Hid (∀ W, Below w.heap.size w W → Calls Tryd.prog 72 #[.string v, .string ⟨#[]⟩] W fun e w' => e = .returned (.string v) ∧ Below W.heap.size W w')) (hz : ((P.size : Int) == (v.size : Int)) = true) (hz2 : (P.size == v.size) = true) :
    Calls Tryd.prog 35 #[.string v] w fun e w' => e = .returned (.bool true) ∧ Below w.heap.size w w' := by
  go_enter Tryd.func35, Tryd.ntmps35
  go_wp2_with (first
    | (go_at_call 70; refine hP.out.mono ?_; rintro e w1 ⟨rfl, hb1⟩)
    | (go_at_call 14; refine (hM.out _).mono ?_; rintro e w2 ⟨rfl, hb2⟩; have hb3 := hb1.trans (hb2.mono (by have := hb1.size; omega)))
    | (go_at_call 72; refine (hV.out _ hb3).mono ?_; rintro e w3 ⟨rfl, hb4⟩; have hb5 := hb3.trans (hb4.mono (by have := hb3.size; omega))))
  go_ret
  exact ⟨rfl, hb5⟩
theorem qmay_any (v : ByteArray) (w : World) (hs : v.size ≤ 1000000) (hT : Lib.Utf8Tabs 3 4 w) :
    Calls Tryd.prog 35 #[.string v] w fun e w' => e = .returned (.bool (mayp isv (by_ v))) ∧ Below w.heap.size w w' := by
  obtain ⟨P, hP⟩ : ∃ P : ByteArray, (⟨(Lib.mapD mf v.data.toList).toArray⟩ : ByteArray) = P := ⟨_, rfl⟩
  have hPs : P.size = (Lib.mapD mf v.data.toList).length := by rw [← hP]; show ((Lib.mapD mf v.data.toList).toArray).size = _; simp
  have hvs : v.size = v.data.toList.length := by rw [← by_length]; simp [by_]
  obtain ⟨m1, m2, m3⟩ := map_may v.data.toList.length v.data.toList (Nat.le_refl _)
  have hi : ints v.data.toList = by_ v := rfl
  rw [hi, ← hPs, ← hvs] at m2
  rw [hi, ← ints_by, hP] at m3
  have hcall : ∀ W, Below w.heap.size w W → Calls Tryd.prog 70 #[.func (.func 71) #[] #[], .string v] W fun e w' => e = .returned (.string P) ∧ Below W.heap.size W w' := by
    intro W hW
    rw [← hP]
    exact map_any v W hs (Utf8Tabs_below hT hW)
  cases h : mayp isv (by_ v) with
  | false =>
    have hz : ¬ P.size = v.size := fun q => by rw [m2.1 q] at h; cases h
    exact qmay_no v P w (Lib.hid hcall) (beq_eq_false_iff_ne.2 (by omega)) (beq_eq_false_iff_ne.2 hz)
  | true =>
    have hz : P.size = v.size := m2.2 h
    refine qmay_yes v P w (Lib.hid (hcall w (Below.refl _ _))) (Lib.hid fun W => ?_) (Lib.hid fun W hW => tovalid v W hs h (Utf8Tabs_below hT hW)) (beq_iff_eq.2 (by omega)) (beq_iff_eq.2 hz)
    have := may_any P W (by omega)
    rw [m3 h] at this
    exact this
end Go.Proofs.YtjgpmfjkcioinaaDoor.G
namespace Go.Proofs.YtjgpmfjkcioinaaDoor.G
open Go.RowKit Go.Shelf Go.Proofs.YtjgpmfjkcioinaaDoorW.PrintWords Go.Proofs.YtjgpmfjkcioinaaDoor.M
set_option linter.unusedVariables false
set_option linter.unusedSimpArgs false
attribute [local irreducible] Utf8.encode Utf8.decode
theorem oneQ_range {r : Int} (h : isv r = true) : ∀ c ∈ oneQ r, 0 ≤ c ∧ c ≤ 255 := by
  have hr := isv_iff.1 h
  have hd : ∀ k, 0 ≤ k → k < 16 → 0 ≤ hexd k ∧ hexd k ≤ 255 := by intro k h0 h1; unfold hexd; split <;> omega
  have h1 := hd (r / 16)
  have h2 := hd (r % 16)
  intro c hc
  unfold oneQ at hc
  repeat' split at hc
  all_goals first
    | (simp only [List.mem_cons, List.not_mem_nil, or_false] at hc; omega)
    | exact enc_range h c hc
set_option maxHeartbeats 400000 in
theorem quote_no (v : ByteArray) (w : World) (hM : Hid (Calls Tryd.prog 35 #[.string v] w fun e w' => e = .returned (.bool false) ∧ Below w.heap.size w w')) :
    Calls Tryd.prog 16 #[.string v] w fun e w' => e = .returned (.tuple #[.string ⟨#[]⟩, .bool false]) ∧ Below w.heap.size w w' := by
  go_enter Tryd.func16, Tryd.ntmps16
  go_wp2_with (go_at_call 35; refine hM.out.mono ?_; rintro e w1 ⟨rfl, hb1⟩)
  go_ret2
  exact ⟨rfl, hb1⟩
structure QV (v : ByteArray) (b k : Nat) (w1 : World) (pos : Nat) (S : ByteArray) (wr : World) : Prop where
  it : wr.heap[k]? = some (.stringIter v pos)
  bl : Lib.BuilderAtF 60 5 b b (.pointer (some ⟨b, 0, none⟩)) (Lib.strCells S) wr
  lo : Below b w1 wr
  le : pos ≤ v.size
  my : mayp isv (at_ v pos) = true
  eq : by_ S ++ qb (at_ v pos) = 34 :: qb (by_ v)
  sz : S.size ≤ 1 + 6 * pos
set_option maxHeartbeats 4000000 in
set_option maxRecDepth 1000000 in
theorem quote_yes (v : ByteArray) (w : World) (hs : v.size ≤ 1000000) (hv : mayp isv (by_ v) = true) (hS : ES w) (hM : Hid (Calls Tryd.prog 35 #[.string v] w fun e w' => e = .returned (.bool true) ∧ Below w.heap.size w w')) :
    Calls Tryd.prog 16 #[.string v] w fun e w' => e = .returned (.tuple #[.string (ba (34 :: (qb (by_ v) ++ [34]))), .bool true]) ∧ Below w.heap.size w w' := by
  go_enter Tryd.func16, Tryd.ntmps16
  go_wp2_with (first
    | (go_at_call 35; refine hM.out.mono ?_; rintro e w1 ⟨rfl, hb1⟩)
    | (go_at_call 36; refine (wbyte w1.heap.size w1.heap.size [] 34 _ (Lib.IsBuilderF.of (Lib.fresh_isBuilder _ _ w1)) (by decide) (by simp)).mono ?_; rintro e w2 ⟨rfl, hB, hb2, ho2⟩))
  have hbl : w1.heap.size < w2.heap.size := hB.lt
  obtain ⟨b, hb⟩ : ∃ b, w1.heap.size = b := ⟨_, rfl⟩
  obtain ⟨k, hk⟩ : ∃ k, w2.heap.size = k := ⟨_, rfl⟩
  have hhb : w.heap.size ≤ b := by rw [← hb]; exact hb1.size
  have hb3 : Below b w1 w2 := by
    rw [← hb]
    exact ((Below.refl _ w1).alloc (Nat.le_refl _) _).trans hb2
  have hbk : b < k := by omega
  have it0 := World.iter_heap w2 v 0
  have bl0 := hB.alloc (.stringIter v 0)
  have lo0 : Below b w1 (w2.iter v 0) := hb3.alloc (by omega) _
  rw [hb] at bl0
  rw [hk] at it0
  rw [hb, hk]
  clear hb2 ho2 hB hbl hb3
  go_loopw [6] (fun _ wr => ∃ pos S, QV v b k w1 pos S wr) (fun _ wr => v.size - wr.iterPos k)
  case atStart =>
    refine ⟨0, ⟨#[34]⟩, it0, bl0, lo0, Nat.zero_le _, by rw [show ((0 : Nat) : Int) = 0 from rfl, at_zero]; exact hv, ?_, by decide⟩
    rw [show ((0 : Nat) : Int) = 0 from rfl, at_zero]; rfl
  case round =>
    obtain ⟨pos, S, it, bl, lo, le, my, eq, sz⟩ := hrel
    have hsize := lo.size
    have hip : wr.iterPos k = pos := by unfold World.iterPos; rw [it]
    have hkw : k < wr.heap.size := (Array.getElem?_eq_some_iff.1 it).1
    have hbw : b < wr.heap.size := bl.lt
    by_cases hp : pos < v.size
    · have hne : at_ v pos ≠ [] := by rw [at_cons v pos (by omega) (by omega)]; simp
      have h2 := mayp_take my hne
      obtain ⟨k1, k2, k3, k4⟩ := nxp_pos h2
      have hst := mayp_step h2
      have hqs := qb_step h2
      rw [my] at hst
      have hd := decode_enc k1 k3
      have hv2 := isv_iff.1 k1
      have hle := nxp_le isv (at_ v pos)
      have hlen := at_length v pos (by omega) (by omega)
      obtain ⟨R, hR⟩ : ∃ R : Nat, (nxp isv (at_ v pos)).1 = (R : Int) := ⟨((nxp isv (at_ v pos)).1).toNat, by omega⟩
      obtain ⟨K, hK⟩ : ∃ K, (nxp isv (at_ v pos)).2 = K := ⟨_, rfl⟩
      rw [← k2, hR, hK, Int.toNat_natCast] at hd
      rw [hK] at h2 hst hle
      rw [hR, hK] at hqs
      rw [hR] at k1
      have hT := by_ba (oneQ_range k1)
      have hTl := oneQ_len (R : Int)
      obtain ⟨T, hTx⟩ : ∃ T, ba (oneQ (R : Int)) = T := ⟨_, rfl⟩
      rw [hTx] at hT
      have hTz : T.size ≤ 6 := by rw [← by_length, hT]; exact hTl.2.1
      have hnx : ∀ ty, (Instr.next (.pointer (some ⟨k, 0, none⟩)) true ty).run Tryd.prog wr = .ok (.tuple #[.bool true, .int .i64 pos, .int .i32 R]) (wr.iterAt k v (pos + K)) := by
        intro ty
        have := Lib.run_next_any_at (P := Tryd.prog) wr k v pos ty it hp
        rw [hd] at this
        exact this
      have n1 := Lib.iterAt_heap wr k v pos (pos + K) it
      have n2 : Below k wr (wr.iterAt k v (pos + K)) := Lib.below_iterAt (Below.refl _ _) (Nat.le_refl _) _ _
      have n3 := Lib.BuilderAtF.iterAt bl it (pos + K)
      obtain ⟨W1, hW1⟩ : ∃ W1, wr.iterAt k v (pos + K) = W1 := ⟨_, rfl⟩
      rw [hW1] at hnx n1 n2 n3
      have n4 : Below b w1 W1 := lo.trans (n2.mono (by omega))
      have hS1 : ES W1 := hS.low (hb1.trans (n4.mono hhb))
      have hO := qone_any (R : Int) W1 k1 hS1
      rw [hTx] at hO
      have HO := Lib.hid hO
      have fin : ∀ W2 W3, Below W1.heap.size W1 W2 → Lib.BuilderAtF 60 5 b b (.pointer (some ⟨b, 0, none⟩)) (Lib.strCells S ++ Lib.strCells T) W3 → Below b W2 W3 → Lib.OthersKept 5 (some b) W2 W3 → QV v b k w1 (pos + K) (S ++ T) W3 := by
        intro W2 W3 a1 a2 a3 a4
        have hkW : k < W1.heap.size := (Array.getElem?_eq_some_iff.1 n1).1
        refine ⟨a4 k _ (by rw [a1.block _ hkW]; exact n1) (by simp; omega) (fun c fz q => by cases q), by rw [strCells_app]; exact a2, n4.trans ((a1.mono (by omega)).trans a3), by omega, by rw [← at_drop]; exact hst.symm, ?_, by rw [ByteArray.size_append]; omega⟩
        rw [by_append, hT, List.append_assoc, ← at_drop, ← hqs]; exact eq
      have hW1b : b ≤ W1.heap.size := by have := n4.size; omega
      have hSz : (Lib.strCells S).length + T.size ≤ 140737488355328 := by rw [Lib.strCells_length]; omega
      clear k3 k4 hR hK hst hd my hne hlen hle k1 k2 hv2 hqs eq hO hTl hT hW1
      go_wp2_with (first
        | (go_at_call 38; refine HO.out.mono ?_; rintro e W2 ⟨rfl, hb5⟩)
        | (go_at_call 37; refine (wstr b b (Lib.strCells S) T _ (.inr (bld_below n3 hb5)) hSz (by have := hb5.size; omega)).mono ?_; rintro e W3 ⟨rfl, a2, a3, a4⟩))
      have F := fin _ _ hb5 a2 a3 a4
      go_roundw
      case rel => first | exact ⟨_, _, F⟩ | ((repeat apply Exists.intro); exact ⟨⟨_, _, F⟩, rfl⟩)
      case measure => have := F.it; simp [World.iterPos, this, it]; omega
    · have hnx := fun ty => Lib.run_next_end_at (P := Tryd.prog) wr k v pos ty it hp
      have hend : by_ S = 34 :: qb (by_ v) := by
        rw [at_nil v pos (by omega), qb_nil, List.append_nil] at eq
        exact eq
      have hres : ba (34 :: (qb (by_ v) ++ [34])) = S ++ ⟨#[34]⟩ := by
        refine by_inj ?_
        rw [by_append, hend, show by_ (⟨#[34]⟩ : ByteArray) = [34] from rfl, by_ba]
        · simp
        · intro c hc
          have : c ∈ by_ S ∨ c = 34 := by
            rw [hend]
            rcases List.mem_cons.1 hc with h | h
            · exact .inr h
            · rcases List.mem_append.1 h with h | h
              · exact .inl (List.mem_cons_of_mem _ h)
              · exact .inr (List.mem_singleton.1 h)
          rcases this with q | q
          · exact by_range S c q
          · omega
      have hSz : (Lib.strCells S).length + 1 ≤ 140737488355328 := by rw [Lib.strCells_length]; omega
      clear my eq
      go_wp2_with (first
        | (go_at_call 36; refine (wbyte b b (Lib.strCells S) 34 _ (.inr bl) hSz (by omega)).mono ?_; rintro e W3 ⟨rfl, a2, a3, a4⟩)
        | (go_at_call 39; refine (bstr b b (S ++ ⟨#[34]⟩) _ (.inr (by rw [strCells_app]; exact a2)) (by have := a3.size; omega)).mono ?_; rintro e W4 ⟨rfl, a5⟩))
      go_ret2
      rw [hres]
      exact ⟨rfl, hb1.trans ((lo.trans (a3.trans a5)).mono hhb)⟩
end Go.Proofs.YtjgpmfjkcioinaaDoor.G
namespace Go.Proofs.YtjgpmfjkcioinaaDoor.G
open Go.RowKit Go.Shelf Go.Proofs.YtjgpmfjkcioinaaDoorW.PrintWords Go.Proofs.YtjgpmfjkcioinaaDoor.M
set_option linter.unusedVariables false
set_option linter.unusedSimpArgs false
attribute [local irreducible] Utf8.encode Utf8.decode
structure LQ (w : World) : Prop where
  u8 : Lib.Utf8Tabs 3 4 w
  es : ES w
theorem LQ.low {w W : World} (h : LQ w) (hb : Below w.heap.size w W) : LQ W := ⟨Utf8Tabs_below h.u8 hb, h.es.low hb⟩
theorem quote_any (v : ByteArray) (w : World) (hs : v.size ≤ 1000000) (hL : LQ w) :
    Calls Tryd.prog 16 #[.string v] w fun e w' => e = .returned (.tuple #[.string (ba (quo (by_ v))), .bool (mayp isv (by_ v))]) ∧ Below w.heap.size w w' := by
  have hM := qmay_any v w hs hL.u8
  unfold quo
  cases h : mayp isv (by_ v) with
  | false =>
    rw [h] at hM
    exact quote_no v w (Lib.hid hM)
  | true =>
    rw [h] at hM
    exact quote_yes v w hs h hL.es (Lib.hid hM)
def quote_Quote.f (s : ByteArray) : Option (ByteArray × Bool) := if s.size ≤ 1000000 then some (ba (quo (by_ s)), mayp isv (by_ s)) else none
theorem quote_Quote.calls (a0 : ByteArray) (r1 : ByteArray) (r2 : Bool) (w : World) (h : quote_Quote.f a0 = some (r1, r2)) (hL : LQ w) :
    Calls Tryd.prog 16 #[.string a0] w fun e w' => e = .returned (.tuple #[.string r1, .bool r2]) ∧ Below w.heap.size w w' := by
  unfold quote_Quote.f at h
  split at h
  · cases h; exact quote_any a0 w (by omega) hL
  · cases h
def quote_May.f (s : ByteArray) : Option Bool := if s.size ≤ 1000000 then some (mayp isv (by_ s)) else none
theorem quote_May.calls (a0 : ByteArray) (r : Bool) (w : World) (h : quote_May.f a0 = some r) (hL : LQ w) :
    Calls Tryd.prog 35 #[.string a0] w fun e w' => e = .returned (.bool r) ∧ Below w.heap.size w w' := by
  unfold quote_May.f at h
  split at h
  · cases h; exact qmay_any a0 w (by omega) hL.u8
  · cases h
def quote_Long.f (s : ByteArray) : Option Int := if s.size ≤ 1000000 then some ((quo (by_ s)).length : Int) else none
end Go.Proofs.YtjgpmfjkcioinaaDoor.G
namespace Go.Proofs.YtjgpmfjkcioinaaDoor.G
open Go.RowKit Go.Shelf Go.Proofs.YtjgpmfjkcioinaaDoorW.PrintWords Go.Proofs.YtjgpmfjkcioinaaDoor.M
set_option linter.unusedVariables false
set_option linter.unusedSimpArgs false
set_option maxRecDepth 100000 in
theorem pair_of {H : Type} {enc : TypeId × Value → H} {w : World} {base : Nat} {sp : Nat → Bool} {held : Bool} {fuel : Nat} {cs : List Value} {A B : ByteArray} {p : List MemPlace}
    (h : DataW.trod enc Tryd.prog w base sp held fuel 101 cs = some (.agg [.lit (.string A.data.toList), .lit (.string B.data.toList)], p)) : cs = [.string A, .string B] := by
  obtain ⟨xs, n, rfl, hx, hl, hxl, hall⟩ := DataW.trod_struct Tryd.underlying101 h
  have h0 := hall 0 _ rfl
  have h1 := hall 1 _ rfl
  have c9 : Tryd.prog.cellsOf 9 = 1 := by kernel_rfl
  have c73 : Tryd.prog.cellsOf 101 = 2 := by kernel_rfl
  rw [c73] at hl
  obtain ⟨u, v, rfl⟩ : ∃ u v, cs = [u, v] := by
    match cs, hl with
    | [a, b], _ => exact ⟨a, b, rfl⟩
  obtain ⟨y0, y1, rfl⟩ : ∃ u v, xs = [u, v] := by
    match xs, hxl with
    | [a, b], _ => exact ⟨a, b, rfl⟩
  have h0' : DataW.trod enc Tryd.prog w base sp held n 9 [u] = some y0 := by simpa [c9] using h0
  have h1' : DataW.trod enc Tryd.prog w base sp held n 9 [v] = some y1 := by simpa [c9] using h1
  obtain ⟨z0, e0, f0, _⟩ := DataW.trod_string Tryd.underlying9 h0'
  obtain ⟨z1, e1, f1, _⟩ := DataW.trod_string Tryd.underlying9 h1'
  subst f0; subst f1
  have hx := (Prod.mk.inj hx).1
  simp only [List.map_cons, List.map_nil, DataW.agg.injEq, List.cons.injEq, DataW.lit.injEq, Lit.string.injEq, and_true] at hx
  have a0 : A = z0 := congrArg ByteArray.mk (Array.toList_inj.1 hx.1)
  have a1 : B = z1 := congrArg ByteArray.mk (Array.toList_inj.1 hx.2)
  rw [a0, a1]
  simp only [List.cons.injEq, and_true] at e0 e1
  rw [e0, e1]
theorem ES.of_reads {W : World} {l : List (String × DataW Unit)} (h : laidMet Tryd.prog l W) (me : ("copperplate/quote.escapes", Rows.laid_copperplate_quote_escapes) ∈ l) : ES W := by
  have re := Lib.laidMet.reads h me
  obtain ⟨g, t, cs, fuel, p, hg, hty, hvar, hd⟩ := re
  obtain rfl := Option.some.inj ((show Tryd.prog.globalNamed "copperplate/quote.escapes" = some 1 by kernel_rfl).symm.trans hg)
  obtain rfl := Option.some.inj ((show (Tryd.prog.globals[1]?).map (·.type) = some 102 by kernel_rfl).symm.trans hty)
  have c73 : Tryd.prog.cellsOf 101 = 2 := by kernel_rfl
  rw [escapes_data] at hd
  refine ⟨fun k hk => ?_⟩
  obtain ⟨f2, d, q, hds, ht⟩ := Lib.array_elem Tryd.underlying102 hd (k / 2) (by omega)
  rw [c73] at ht
  rw [List.getElem?_map, List.getElem?_range (by omega)] at hds
  obtain rfl := (Option.some.inj hds)
  have hp := pair_of ht
  rw [World.var?_cell hg hvar k]
  have e : cs.toList[k]? = some (.string (escB.getD k ⟨#[]⟩)) := by
    have h0 : ((cs.toList.drop (k / 2 * 2)).take 2)[k % 2]? = ([.string (escB.getD (2 * (k / 2)) ⟨#[]⟩), .string (escB.getD (2 * (k / 2) + 1) ⟨#[]⟩)] : List Value)[k % 2]? := by rw [hp]
    rw [List.getElem?_take_of_lt (by omega), List.getElem?_drop, show k / 2 * 2 + k % 2 = k by omega] at h0
    rw [h0]
    rcases (show k % 2 = 0 ∨ k % 2 = 1 by omega) with h | h
    · rw [h, show 2 * (k / 2) = k by omega]; rfl
    · rw [h, show 2 * (k / 2) + 1 = k by omega]; rfl
  simpa using e
theorem LQ.of_reads {W : World} {l : List (String × DataW Unit)} (h : laidMet Tryd.prog l W) (ma : ("unicode/utf8.acceptRanges", Rows.laid_unicode_utf8_acceptRanges) ∈ l) (me : ("copperplate/quote.escapes", Rows.laid_copperplate_quote_escapes) ∈ l)
    (mf : ("unicode/utf8.first", Rows.laid_unicode_utf8_first) ∈ l) : LQ W := ⟨U8.of_reads h ma mf, ES.of_reads h me⟩
abbrev laidQuote : List (String × DataW Unit) := [("unicode/utf8.acceptRanges", Rows.laid_unicode_utf8_acceptRanges), ("copperplate/quote.escapes", Rows.laid_copperplate_quote_escapes), ("unicode/utf8.first", Rows.laid_unicode_utf8_first)]
abbrev laidBoth : List (String × DataW Unit) := [("unicode/utf8.acceptRanges", Rows.laid_unicode_utf8_acceptRanges), ("copperplate/quote.escapes", Rows.laid_copperplate_quote_escapes), ("unicode.CaseRanges", Rows.laid_unicode_CaseRanges), ("unicode/utf8.first", Rows.laid_unicode_utf8_first)]
theorem LQ.of {W : World} (h : laidMetH Tryd.prog laidQuote W) : LQ W := by
  rw [MakeChecks.laidMetH_plain _ _ _ (by kernel_rfl)] at h
  exact LQ.of_reads h (by simp) (by simp) (by simp)
structure LA (w : World) : Prop where
  te : LW w
  lq : LQ w
theorem LA.low {w W : World} (h : LA w) (hb : Below w.heap.size w W) : LA W := ⟨h.te.low hb, h.lq.low hb⟩
theorem LA.of {W : World} (h : laidMetH Tryd.prog laidBoth W) : LA W := by
  rw [MakeChecks.laidMetH_plain _ _ _ (by kernel_rfl)] at h
  exact ⟨LW.of_reads h (by simp) (by simp) (by simp), LQ.of_reads h (by simp) (by simp) (by simp)⟩
end Go.Proofs.YtjgpmfjkcioinaaDoor.G
