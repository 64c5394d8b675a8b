/-
  fold: 'Indent'.
-/
import Derived.Test.YtjgpmfjkcioinaaDoorPTF5
import Derived.Test.YtjgpmfjkcioinaaDoorPTWWords
namespace Go.Proofs.YtjgpmfjkcioinaaDoor.G
open Go.RowKit Go.Shelf Go.Proofs.YtjgpmfjkcioinaaDoorW.PrintWords Go.Proofs.YtjgpmfjkcioinaaDoor.M
set_option linter.unusedVariables false
set_option linter.unusedSimpArgs false
attribute [local irreducible] Utf8.encode Utf8.decode
theorem ind_one (a : Int) (x : List Int) (r : List (List Int)) : ind a (x :: r) = if blk x = true then ind a r else if a < 0 ∨ (marg x : Int) < a then ind (marg x) r else ind a r := by
  rw [ind]
  cases h : blk x with
  | true => rw [if_neg (by simp), if_pos rfl]
  | false =>
    rw [if_neg (show ¬ (false = true) by decide)]
    by_cases q : a < 0 ∨ (marg x : Int) < a
    · rw [if_pos ⟨rfl, q⟩, if_pos q]
    · rw [if_neg (fun z => q z.2), if_neg q]
set_option maxHeartbeats 4000000 in
theorem Indent_any (A : Option Addr) (c : Nat) (L : List ByteArray) (w : World) (hC : Kd.C Kd.string w A L.length L) (hn : L.length ≤ 10000000) (hz : ∀ x ∈ L, x.size ≤ 1000000) :
    Calls Tryd.prog 61 #[.slice A L.length c] w fun e w' => e = .returned (.int .i64 (indent (L.map by_))) ∧ Below w.heap.size w w' := by
  go_enter Tryd.func61, Tryd.ntmps61
  go_wp2
  go_loopw [3, 8] (fun m i wr => ∃ (a : Int) (k : Nat), m = .int .i64 a ∧ i = .int .i64 (k : Int) ∧ k ≤ L.length ∧ -1 ≤ a ∧ a ≤ 1000000 ∧ Hid (ind a ((L.map by_).drop (max 1 k)) = indent (L.map by_)) ∧ Below w.heap.size w wr) (fun _ i _ => L.length - (intOf i).toNat)
  case atStart => exact ⟨-1, 0, rfl, rfl, Nat.zero_le _, Int.le_refl _, by omega, Lib.hid (by unfold indent; rw [show max 1 0 = 1 from rfl, List.drop_one]), Below.refl _ _⟩
  case round =>
    obtain ⟨a, k, rfl, rfl, hk, ha0, ha1, hi, hb⟩ := hrel
    have hsize := hb.size
    by_cases hlt : k < L.length
    · have hCw : Kd.C Kd.string wr A L.length L := Kd.C_below hC hb
      obtain ⟨ad, rfl, hcell⟩ := Kd.at_string hCw (k : Int) (by omega) (by omega)
      obtain ⟨x, hx⟩ : ∃ x, L[k]? = some x := ⟨L[k], List.getElem?_eq_getElem hlt⟩
      have hxe : rdOf ByteArray.empty L (k : Int) = x := by unfold rdOf; rw [Int.toNat_natCast, List.getD_eq_getElem?_getD, hx]; rfl
      rw [Int.toNat_natCast, hxe] at hcell
      have hxz := hz x (List.mem_of_getElem? hx)
      by_cases hk0 : k < 1
      · have h2 : Hid (ind a ((L.map by_).drop (max 1 (k + 1))) = indent (L.map by_)) := by
          rw [show max 1 (k + 1) = max 1 k by omega]; exact hi
        clear hi hCw hC hx hxe
        go_wp2
        go_roundw
        case rel => exact ⟨a, k + 1, rfl, by go_num, by omega, ha0, ha1, h2, hb⟩
        case measure => simp [intOf]; omega
      · have hk1 : 0 < k := by omega
        have hd : (L.map by_).drop (max 1 k) = by_ x :: (L.map by_).drop (max 1 (k + 1)) := by
          rw [show max 1 k = k by omega, show max 1 (k + 1) = k + 1 by omega, List.drop_eq_getElem_cons (by rw [List.length_map]; exact hlt), List.getElem_map]
          rw [List.getElem?_eq_getElem hlt] at hx
          rw [Option.some.inj hx]
        have hi2 : ind a (by_ x :: (L.map by_).drop (max 1 (k + 1))) = indent (L.map by_) := by rw [← hd]; exact hi.out
        rw [ind_one] at hi2
        have hB := fun (W : World) => fblank_any x W (by omega)
        have hN := fun (W : World) => indent_any x W (by omega)
        have hml : marg (by_ x) ≤ x.size := by have := marg_le (by_ x); rw [by_length] at this; exact this
        obtain ⟨m, hm⟩ : ∃ m, marg (by_ x) = m := ⟨_, rfl⟩
        obtain ⟨R, hR⟩ : ∃ R, (L.map by_).drop (max 1 (k + 1)) = R := ⟨_, rfl⟩
        rw [hm] at hN hml hi2
        rw [hR] at hi2
        have fin : ∀ a', ind a' R = indent (L.map by_) → Hid (ind a' ((L.map by_).drop (max 1 (k + 1))) = indent (L.map by_)) := fun a' h => Lib.hid (by rw [hR]; exact h)
        have FIN := Lib.hid fin
        have HI := Lib.hid hi2
        have HD := Lib.hid hm
        clear hi hi2 hCw hC hx hxe hd hm hR fin
        cases hbx : blk (by_ x) with
        | true =>
          rw [hbx] at hB
          have h2 := FIN.out a (by have := HI.out; rw [hbx, if_pos rfl] at this; exact this)
          clear hbx
          go_wp2_with (go_at_call 63; refine (hB _).mono ?_; rintro e w1 ⟨rfl, hbn⟩; have hb := hb.trans (hbn.mono hb.size))
          go_roundw
          case rel => exact ⟨a, k + 1, rfl, by go_num, by omega, ha0, ha1, h2, hb⟩
          case measure => simp [intOf]; omega
        | false =>
          rw [hbx] at hB
          have HI2 : Hid ((if a < 0 ∨ (m : Int) < a then ind m R else ind a R) = indent (L.map by_)) := Lib.hid (by have := HI.out; rw [hbx, if_neg (by decide)] at this; exact this)
          clear hbx HI
          by_cases ha : a < 0
          · have h2 := FIN.out m (by have := HI2.out; rw [if_pos (.inl ha)] at this; exact this)
            go_wp2_with (first
              | (go_at_call 63; refine (hB _).mono ?_; rintro e w1 ⟨rfl, hbn⟩; have hb := hb.trans (hbn.mono hb.size))
              | (go_at_call 84; refine (hN _).mono ?_; rintro e w1 ⟨rfl, hbn⟩; have hb := hb.trans (hbn.mono hb.size)))
            go_roundw
            case rel => exact ⟨m, k + 1, rfl, by go_num, by omega, by omega, by omega, h2, hb⟩
            case measure => simp [intOf]; omega
          · by_cases hma : (m : Int) < a
            · have h2 := FIN.out m (by have := HI2.out; rw [if_pos (.inr hma)] at this; exact this)
              go_wp2_with (first
                | (go_at_call 63; refine (hB _).mono ?_; rintro e w1 ⟨rfl, hbn⟩; have hb := hb.trans (hbn.mono hb.size))
                | (go_at_call 84; refine (hN _).mono ?_; rintro e w1 ⟨rfl, hbn⟩; have hb := hb.trans (hbn.mono hb.size)))
              go_roundw
              case rel => exact ⟨m, k + 1, rfl, by go_num, by omega, by omega, by omega, h2, hb⟩
              case measure => simp [intOf]; omega
            · have h2 := FIN.out a (by have := HI2.out; rw [if_neg (by omega)] at this; exact this)
              go_wp2_with (first
                | (go_at_call 63; refine (hB _).mono ?_; rintro e w1 ⟨rfl, hbn⟩; have hb := hb.trans (hbn.mono hb.size))
                | (go_at_call 84; refine (hN _).mono ?_; rintro e w1 ⟨rfl, hbn⟩; have hb := hb.trans (hbn.mono hb.size)))
              go_roundw
              case rel => exact ⟨a, k + 1, rfl, by go_num, by omega, ha0, ha1, h2, hb⟩
              case measure => simp [intOf]; omega
    · have hk2 : (L.map by_).drop (max 1 k) = [] := List.drop_eq_nil_iff.2 (by rw [List.length_map]; omega)
      have hr : a = indent (L.map by_) := by rw [← hi.out, hk2]; rfl
      have HR := Lib.hid hr
      clear hr hk2 hi
      go_wp2
      go_ret
      exact ⟨ret_int HR.out, hb⟩
end Go.Proofs.YtjgpmfjkcioinaaDoor.G
