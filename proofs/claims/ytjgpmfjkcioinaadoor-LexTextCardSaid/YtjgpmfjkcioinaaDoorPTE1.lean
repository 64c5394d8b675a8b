/-
  'text.Hex', 'text.has': the walks; the world holds the library's tables.
-/
import Derived.Test.YtjgpmfjkcioinaaDoorPTL1
import Derived.Shelf.Strings.CaseAny
import Derived.Lib.ConvBytes
import Derived.Lib.SmallJoins
namespace Go.Proofs.YtjgpmfjkcioinaaDoor.G
open Go.RowKit Go.Proofs.YtjgpmfjkcioinaaDoorW.PrintWords Go.Proofs.YtjgpmfjkcioinaaDoor.M
set_option linter.unusedVariables false
set_option linter.unusedSimpArgs false
structure TE (w : World) : Prop where
  u8 : Lib.Utf8Tabs 3 4 w
  cv : Lib.CaseVar 5 Lib.caseA w
theorem TE.low {w W : World} (h : TE w) (hb : Below w.heap.size w W) : TE W := ⟨Utf8Tabs_below h.u8 hb, Lib.CaseVar_below h.cv hb⟩
def hexAt (s : ByteArray) (i : Int) : Int := if i < 0 then -1 else hex4 (at_ s i)
def hexN (s : ByteArray) (i : Int) : Int := if 0 ≤ hexAt s i then hexAt s i else 0
def hexOk (s : ByteArray) (i : Int) : Bool := decide (0 ≤ hexAt s i)
theorem hex4_short {l : List Int} (h : l.length < 4) : hex4 l = -1 := by
  unfold hex4
  split
  · simp at h; omega
  · rfl
theorem hexAt_out (s : ByteArray) (i : Int) (h : i < 0 ∨ (s.size : Int) - 4 < i) : hexAt s i = -1 := by
  unfold hexAt
  split
  · rfl
  · apply hex4_short
    by_cases h1 : i ≤ s.size
    · have := at_length s i (by omega) h1; omega
    · rw [at_nil s i (by omega)]; simp
theorem four_at (s : ByteArray) (n : Nat) (h : n + 4 ≤ s.size) : ∃ a b c d : UInt8, (s.extract n (n + 4)).data.toList = [a, b, c, d] ∧ hexAt s n = hex4 [(a.toNat : Int), b.toNat, c.toNat, d.toNat] := by
  have hl : (s.extract n (n + 4)).data.toList.length = 4 := by simp; omega
  match hE : (s.extract n (n + 4)).data.toList, hl with
  | [a, b, c, d], _ =>
    refine ⟨a, b, c, d, rfl, ?_⟩
    have hb : by_ (s.extract n (n + 4)) = [(a.toNat : Int), b.toNat, c.toNat, d.toNat] := by unfold by_; rw [hE]; rfl
    rw [by_extract, List.drop_take, Nat.add_sub_cancel_left] at hb
    have h4 := hex4_take (l := (by_ s).drop n) (k := 4) (Nat.le_refl _)
    rw [hb] at h4
    unfold hexAt at_
    rw [if_neg (by omega), Int.toNat_natCast]
    exact h4.symm
set_option maxHeartbeats 400000 in
theorem hex_out (s : ByteArray) (i : Int) (w : World) (h : i < 0 ∨ (s.size : Int) - 4 < i) (hs : s.size ≤ 140737488351232) :
    Calls Tryd.prog 88 #[.string s, .int .i64 i] w fun e w' => e = .returned (.tuple #[.int .i64 0, .bool false]) ∧ Below w.heap.size w w' := by
  by_cases h0 : i < 0
  · clear h
    go_enter Tryd.func88, Tryd.ntmps88
    go_wp2
    go_ret2
    exact ⟨rfl, Below.refl _ _⟩
  · have h1 : (s.size : Int) - 4 < i := by omega
    clear h
    go_enter Tryd.func88, Tryd.ntmps88
    go_wp2
    go_ret2
    exact ⟨rfl, Below.refl _ _⟩
theorem hex_byte (c : Int) (W : World) (h0 : 0 ≤ c) (h1 : c ≤ 255) :
    Calls Tryd.prog 25 #[.string ⟨#[48, 49, 50, 51, 52, 53, 54, 55, 56, 57, 97, 98, 99, 100, 101, 102]⟩, .int .u8 c] W fun e w' => e = .returned (.int .i64 (dv c)) ∧ w' = W :=
  (Tryd.strings_IndexByte ⟨#[48, 49, 50, 51, 52, 53, 54, 55, 56, 57, 97, 98, 99, 100, 101, 102]⟩ c W).mono fun e w' ⟨he, hw⟩ => ⟨by rw [he]; exact ret_int (hex_index c h0 h1), hw⟩
def hres (H : Int) : Int := if 0 ≤ H then H else 0
def hok (H : Int) : Bool := decide (0 ≤ H)
theorem hres_yes {H : Int} (h : 0 ≤ H) : hres H = H ∧ hok H = true := ⟨if_pos h, decide_eq_true h⟩
theorem hres_no {H : Int} (h : H < 0) : hres H = 0 ∧ hok H = false := ⟨if_neg (by omega), decide_eq_false (by omega)⟩
theorem bt_getD (S : ByteArray) (j : Nat) (h : j < S.size) : bt S j = ((S.data.toList.getD j 0).toNat : Int) := by
  have h1 := bt_by S j (by simpa using h)
  rw [Int.toNat_natCast] at h1
  unfold by_ at h1
  rw [List.getElem?_map] at h1
  rw [List.getD_eq_getElem?_getD]
  cases hx : S.data.toList[j]? with
  | none => rw [hx] at h1; cases h1
  | some x => rw [hx] at h1; simpa using h1.symm
set_option maxHeartbeats 2000000 in
set_option maxRecDepth 100000 in
theorem hex_in (s : ByteArray) (n : Nat) (S : ByteArray) (H : Int) (w : World) (hn : n + 4 ≤ s.size) (hs : s.size ≤ 140737488351232)
    (hC : ∀ W, Below w.heap.size w W → Calls Tryd.prog 98 #[.string (s.extract n (n + 4))] W fun e w' => e = .returned (.string S) ∧ Below W.heap.size W w')
    (hS : S.size ≤ 16) (hH : Hid (hfold (by_ S) 0 = H)) (hH4 : Hid (0 ≤ H → S.size = 4)) (hstop : Hid (S.size = 4 ∨ ∃ p, p < 4 ∧ p < S.size ∧ dv (bt S p) = -1)) :
    Calls Tryd.prog 88 #[.string s, .int .i64 n] w fun e w' => e = .returned (.tuple #[.int .i64 (hres H), .bool (hok H)]) ∧ Below w.heap.size w w' := by
  have hcv := fun (W : World) => Lib.run_convert_string_bytes (P := Tryd.prog) W 9 58 5 S Tryd.underlying9 Tryd.underlying58 Tryd.underlying5
  have HC := Lib.hid hC
  clear hC
  go_enter Tryd.func88, Tryd.ntmps88
  go_wp2_with (go_at_call 98; refine (HC.out _ (Below.refl _ _)).mono ?_; rintro e w1 ⟨rfl, hb1⟩)
  have hcell : ∀ j, j < S.size → (Lib.bytesWorld w1 5 S).cell? ⟨w1.heap.size, j, none⟩ = some (.int .u8 (bt S j)) := fun j hj => by rw [bt_getD S j hj]; exact Lib.bytesWorld_cell w1 5 S j hj
  have hbW : Below w.heap.size w (Lib.bytesWorld w1 5 S) := hb1.trans (Joins.below_bytesWorld w.heap.size w1 5 S hb1.size)
  obtain ⟨W, hW⟩ : ∃ W, Lib.bytesWorld w1 5 S = W := ⟨_, rfl⟩
  rw [hW] at hcell hbW ⊢
  have HX := Lib.hid hcell
  clear hW hcv hcell
  go_loop [6, 27] (fun nv jv => ∃ (j : Nat) (m : Int), jv = .int .i64 j ∧ nv = .int .i64 m ∧ j ≤ S.size ∧ j ≤ 4 ∧ 0 ≤ m ∧ m < 65536 ∧ Hid (m < (16 : Int) ^ j) ∧ Hid (hfold (at_ S j) m = H) ∧ Hid (∀ q : Nat, q < j → 0 ≤ dv (bt S q)))
    (fun _ jv => S.size - (intOf jv).toNat)
  case atStart => exact ⟨0, 0, rfl, rfl, Nat.zero_le _, by omega, by omega, by omega, Lib.hid (by decide), Lib.hid (by rw [show ((0 : Nat) : Int) = 0 from rfl, at_zero]; exact hH.out), Lib.hid (fun q hq => by omega)⟩
  case round =>
    obtain ⟨j, m, rfl, rfl, hj, hj4, hm0, hm1, hmp, hfo, hall⟩ := hrel
    by_cases hlt : j < S.size
    · have hbr := bt_range S j
      have hx := HX.out j hlt
      have hcons := Lib.hid (at_cons S j (by omega) (by omega))
      obtain ⟨c, hc⟩ : ∃ c, bt S j = c := ⟨_, rfl⟩
      have HCc := Lib.hid hc
      rw [hc] at hx hbr hcons
      clear hc
      have hIc := fun (W : World) => hex_byte c W hbr.1 hbr.2
      have hdl := dv_le c
      by_cases hd : dv c < 0
      · have hH1 : H = -1 := by
          rw [← hfo.out, hcons.out]
          unfold hfold; rw [if_pos hd]
        obtain ⟨k, hk⟩ : ∃ k, dv c = k := ⟨_, rfl⟩
        rw [hk] at hIc hd hdl
        clear hk hcons HCc
        have HH := Lib.hid hH1
        clear hH1
        go_wp2_with (go_at_call 25; refine (hIc _).mono ?_; rintro e w' ⟨rfl, rfl⟩)
        go_ret2
        rw [(hres_no (show H < 0 by have := HH.out; omega)).1, (hres_no (show H < 0 by have := HH.out; omega)).2]
        exact ⟨rfl, hbW⟩
      · have hfo2 : hfold (at_ S ((j + 1 : Nat) : Int)) (m * 16 + dv c) = H := by
          have := hfo.out
          rw [hcons.out] at this
          unfold hfold at this
          rw [if_neg hd] at this
          exact this
        have hj5 : j + 1 ≤ 4 := by
          rcases hstop.out with h | ⟨p, h1, h2, h3⟩
          · omega
          · have : j < p := by
              rcases Nat.lt_trichotomy j p with q | q | q
              · exact q
              · subst q; rw [HCc.out] at h3; omega
              · have := hall.out p q; omega
            omega
        have hp2 : m * 16 + dv c < (16 : Int) ^ (j + 1) := by
          have := hmp.out
          rw [Int.pow_succ]; omega
        have hall2 : ∀ q : Nat, q < j + 1 → 0 ≤ dv (bt S q) := fun q hq => by
          rcases (show q < j ∨ q = j by omega) with h | rfl
          · exact hall.out q h
          · rw [HCc.out]; omega
        obtain ⟨k, hk⟩ : ∃ k, dv c = k := ⟨_, rfl⟩
        rw [hk] at hIc hd hdl hfo2 hp2
        have hm2 : m * 16 + k < 65536 := by
          have : (16 : Int) ^ (j + 1) ≤ 65536 := by
            rcases (show j = 0 ∨ j = 1 ∨ j = 2 ∨ j = 3 by omega) with rfl | rfl | rfl | rfl <;> decide
          omega
        have F1 := Lib.hid hfo2
        have F2 := Lib.hid hp2
        have F3 := Lib.hid hall2
        clear hk hcons HCc hfo2 hp2 hall2
        go_wp2_with (go_at_call 25; refine (hIc _).mono ?_; rintro e w' ⟨rfl, rfl⟩)
        go_round
        case rel => exact ⟨j + 1, m * 16 + k, by go_num, rfl, by omega, hj5, by omega, hm2, F2, F1, F3⟩
        case measure => simp [intOf]; omega
    · obtain rfl : j = S.size := by omega
      have hHm : H = m := by rw [← hfo.out, at_nil S _ (by omega)]; rfl
      have hs4 : S.size = 4 := hH4.out (by omega)
      have he4 : ((S.size : Int) == 4) = true := by rw [beq_iff_eq]; omega
      have HH := Lib.hid hHm
      have H4 := Lib.hid hs4
      clear hHm hs4
      go_wp2_with (go_at_call 98; refine (HC.out _ hbW).mono ?_; rintro e w2 ⟨rfl, hb2⟩)
      go_ret2
      rw [HH.out, (hres_yes hm0).1, (hres_yes hm0).2]
      exact ⟨rfl, hbW.trans (hb2.mono hbW.size)⟩
theorem hex_any (s : ByteArray) (i : Int) (w : World) (hs : s.size ≤ 140737488351232) (hT : TE w) :
    Calls Tryd.prog 88 #[.string s, .int .i64 i] w fun e w' => e = .returned (.tuple #[.int .i64 (hexN s i), .bool (hexOk s i)]) ∧ Below w.heap.size w w' := by
  by_cases ho : i < 0 ∨ (s.size : Int) - 4 < i
  · have h := hexAt_out s i ho
    have e1 : hexN s i = 0 := by unfold hexN; rw [h]; rfl
    have e2 : hexOk s i = false := by unfold hexOk; rw [h]; rfl
    rw [e1, e2]
    exact hex_out s i w ho hs
  · obtain ⟨n, rfl⟩ : ∃ n : Nat, i = n := ⟨i.toNat, by omega⟩
    obtain ⟨a, b, c, d, e, h4⟩ := four_at s n (by omega)
    obtain ⟨f1, f2⟩ := lower_four a b c d
    rw [← h4] at f1 f2
    have hby : by_ ⟨(Lib.toLowerD [a, b, c, d]).toArray⟩ = (Lib.toLowerD [a, b, c, d]).map fun x => (x.toNat : Int) := by simp [by_]
    have hsz : (⟨(Lib.toLowerD [a, b, c, d]).toArray⟩ : ByteArray).size = (Lib.toLowerD [a, b, c, d]).length := by simp [ByteArray.size]
    have hlen : (Lib.toLowerD [a, b, c, d]).length ≤ 16 := by
      have := mapD_len Lib.toLowerU 4 [a, b, c, d] (by simp)
      exact this
    refine hex_in s n ⟨(Lib.toLowerD [a, b, c, d]).toArray⟩ (hexAt s n) w (by omega) hs ?_ (by omega) (Lib.hid (by rw [hby]; exact f1)) (Lib.hid (by rw [hsz]; exact f2)) (Lib.hid ?_)
    · intro W hb
      have hT' := hT.low hb
      have := Tryd.strings_ToLower_any (s.extract n (n + 4)) W (by simp; omega) hT'.cv hT'.u8
      rw [e] at this
      exact this
    · rw [hsz]
      rcases lower_stops a b c d with h | ⟨p, h1, h2, h3⟩
      · exact .inl h
      · refine .inr ⟨p, h1, h2, ?_⟩
        rw [bt_getD _ _ (by rw [hsz]; exact h2)]
        exact h3
end Go.Proofs.YtjgpmfjkcioinaaDoor.G
