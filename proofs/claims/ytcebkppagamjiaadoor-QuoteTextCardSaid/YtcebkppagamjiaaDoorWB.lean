/-
  The law QuoteByte, walked by hand: one theorem for each case.
-/
import Derived.Test.YtcebkppagamjiaaDoorYP2
import Derived.Test.YtcebkppagamjiaaDoorY1
namespace Go.Proofs.YtcebkppagamjiaaDoor.G
open Go.RowKit Go.Shelf Go.Proofs.YtcebkppagamjiaaDoorW.PrintWords Go.Proofs.YtcebkppagamjiaaDoor.M
set_option linter.unusedVariables false
set_option linter.unusedSimpArgs false
attribute [local irreducible] Utf8.encode Utf8.decode

theorem awake8_any (w : World) (hL : LQ w) : Calls Tryd.prog 25 #[] w fun e w' => e = .returned (.bool true) ∧ Below w.heap.size w w' := Y.copperplatelaw08_awake.calls true w awake8 hL
theorem one_byte_conv (W : World) (X : UInt8) : (convert 33 9 (.slice (some ⟨W.heap.size, 0, none⟩) 1 1)).run Tryd.prog (W.alloc (.cells #[.int .u8 (X.toNat : Int)] 5)) = .ok (.string ⟨#[X]⟩) (W.alloc (.cells #[.int .u8 (X.toNat : Int)] 5)) :=
  run_convert_bytes_back _ _ _ _ ⟨W.heap.size, 0, none⟩ 1 [X] Tryd.underlying33 Tryd.underlying5 Tryd.underlying9 (fun j hj => by
    have hj2 : j < 1 := hj
    obtain rfl : j = 0 := by omega
    rw [show (⟨W.heap.size, 0, none⟩ : Addr).add 0 = ⟨W.heap.size, 0, none⟩ by unfold Addr.add; rfl]
    show (W.alloc _).cell? _ = _
    rw [cell_of_row _ _ 0 _ _ _ (World.alloc_heap_new W _)]
    rfl)
/-- What 'Long' tells of one byte. -/
def lng (c : Int) : Int := if 128 ≤ c then 0 else if c = 34 ∨ c = 92 ∨ c = 8 ∨ c = 9 ∨ c = 10 ∨ c = 12 ∨ c = 13 then 4 else if c < 32 then 8 else 3
theorem lng_it (X : UInt8) : ((quo (by_ ⟨#[X]⟩)).length : Int) = lng (X.toNat : Int) := by
  have e : by_ (⟨#[X]⟩ : ByteArray) = [(X.toNat : Int)] := rfl
  have hX := X.toNat_lt
  rw [e]
  obtain ⟨c, hc⟩ : ∃ c : Int, (X.toNat : Int) = c := ⟨_, rfl⟩
  rw [hc]
  have h0 : 0 ≤ c := by omega
  unfold lng
  by_cases h : 128 ≤ c
  · rw [if_pos h, quo_no (mayv_alone h)]; rfl
  · rw [if_neg h, quo_one h0 (by omega)]
    have hl : ((34 :: (oneQ c ++ [34]) : List Int).length : Int) = (oneQ c).length + 2 := by simp; omega
    rw [hl]
    unfold oneQ
    repeat' split
    all_goals first
      | rfl
      | omega
      | (rw [enc_low (by omega)]; rfl)
theorem long_byte (X : UInt8) (w : World) (hL : LQ w) :
    Calls Tryd.prog 30 #[.string ⟨#[X]⟩] w fun e w' => e = .returned (.int .i64 (lng (X.toNat : Int))) ∧ Below w.heap.size w w' := by
  have := long_any ⟨#[X]⟩ w (by show 1 ≤ _; omega) hL
  rw [lng_it] at this
  exact this
theorem qbyte_high (X : UInt8) (c : Int) (w : World) (hL : LQ w) (hc : (X.toNat : Int) = c) (hn : lng c = 0) (h : decide (128 ≤ c) = true) :
    Calls Tryd.prog 13 #[.int .u8 c] w fun e w' => e = .returned (.bool true) ∧ Below w.heap.size w w' := by
  have hA := awake8_any w hL
  have hC := fun (W : World) => one_byte_conv W X
  have hG := fun (W : World) (hb : Below w.heap.size w W) => long_byte X W (hL.low hb)
  simp only [hc, hn] at hC hG
  have HG := Lib.hid hG
  clear hG hc hn hL
  go_enter Tryd.func13, Tryd.ntmps13
  go_wp2_with (first
    | (go_at_call 25; refine hA.mono ?_; rintro e w1 ⟨rfl, hb1⟩; have hcv := hC w1)
    | (go_at_call 30; refine (HG.out _ (hb1.alloc hb1.size _)).mono ?_; rintro e w2 ⟨rfl, hb2⟩))
  go_ret
  exact ⟨rfl, (hb1.alloc hb1.size _).trans (hb2.mono (by have := hb1.size; simp; omega))⟩
theorem qbyte_34 (X : UInt8) (w : World) (hL : LQ w) (hc : (X.toNat : Int) = 34) (hn : lng 34 = 4) :
    Calls Tryd.prog 13 #[.int .u8 34] w fun e w' => e = .returned (.bool true) ∧ Below w.heap.size w w' := by
  have hA := awake8_any w hL
  have hC := fun (W : World) => one_byte_conv W X
  have hG := fun (W : World) (hb : Below w.heap.size w W) => long_byte X W (hL.low hb)
  simp only [hc, hn] at hC hG
  have HG := Lib.hid hG
  clear hG hc hn hL
  go_enter Tryd.func13, Tryd.ntmps13
  go_wp2_with (first
    | (go_at_call 25; refine hA.mono ?_; rintro e w1 ⟨rfl, hb1⟩; have hcv := hC w1)
    | (go_at_call 30; refine (HG.out _ (hb1.alloc hb1.size _)).mono ?_; rintro e w2 ⟨rfl, hb2⟩))
  go_ret
  exact ⟨rfl, (hb1.alloc hb1.size _).trans (hb2.mono (by have := hb1.size; simp; omega))⟩
theorem qbyte_92 (X : UInt8) (w : World) (hL : LQ w) (hc : (X.toNat : Int) = 92) (hn : lng 92 = 4) :
    Calls Tryd.prog 13 #[.int .u8 92] w fun e w' => e = .returned (.bool true) ∧ Below w.heap.size w w' := by
  have hA := awake8_any w hL
  have hC := fun (W : World) => one_byte_conv W X
  have hG := fun (W : World) (hb : Below w.heap.size w W) => long_byte X W (hL.low hb)
  simp only [hc, hn] at hC hG
  have HG := Lib.hid hG
  clear hG hc hn hL
  go_enter Tryd.func13, Tryd.ntmps13
  go_wp2_with (first
    | (go_at_call 25; refine hA.mono ?_; rintro e w1 ⟨rfl, hb1⟩; have hcv := hC w1)
    | (go_at_call 30; refine (HG.out _ (hb1.alloc hb1.size _)).mono ?_; rintro e w2 ⟨rfl, hb2⟩))
  go_ret
  exact ⟨rfl, (hb1.alloc hb1.size _).trans (hb2.mono (by have := hb1.size; simp; omega))⟩
theorem qbyte_8 (X : UInt8) (w : World) (hL : LQ w) (hc : (X.toNat : Int) = 8) (hn : lng 8 = 4) :
    Calls Tryd.prog 13 #[.int .u8 8] w fun e w' => e = .returned (.bool true) ∧ Below w.heap.size w w' := by
  have hA := awake8_any w hL
  have hC := fun (W : World) => one_byte_conv W X
  have hG := fun (W : World) (hb : Below w.heap.size w W) => long_byte X W (hL.low hb)
  simp only [hc, hn] at hC hG
  have HG := Lib.hid hG
  clear hG hc hn hL
  go_enter Tryd.func13, Tryd.ntmps13
  go_wp2_with (first
    | (go_at_call 25; refine hA.mono ?_; rintro e w1 ⟨rfl, hb1⟩; have hcv := hC w1)
    | (go_at_call 30; refine (HG.out _ (hb1.alloc hb1.size _)).mono ?_; rintro e w2 ⟨rfl, hb2⟩))
  go_ret
  exact ⟨rfl, (hb1.alloc hb1.size _).trans (hb2.mono (by have := hb1.size; simp; omega))⟩
theorem qbyte_9 (X : UInt8) (w : World) (hL : LQ w) (hc : (X.toNat : Int) = 9) (hn : lng 9 = 4) :
    Calls Tryd.prog 13 #[.int .u8 9] w fun e w' => e = .returned (.bool true) ∧ Below w.heap.size w w' := by
  have hA := awake8_any w hL
  have hC := fun (W : World) => one_byte_conv W X
  have hG := fun (W : World) (hb : Below w.heap.size w W) => long_byte X W (hL.low hb)
  simp only [hc, hn] at hC hG
  have HG := Lib.hid hG
  clear hG hc hn hL
  go_enter Tryd.func13, Tryd.ntmps13
  go_wp2_with (first
    | (go_at_call 25; refine hA.mono ?_; rintro e w1 ⟨rfl, hb1⟩; have hcv := hC w1)
    | (go_at_call 30; refine (HG.out _ (hb1.alloc hb1.size _)).mono ?_; rintro e w2 ⟨rfl, hb2⟩))
  go_ret
  exact ⟨rfl, (hb1.alloc hb1.size _).trans (hb2.mono (by have := hb1.size; simp; omega))⟩
theorem qbyte_10 (X : UInt8) (w : World) (hL : LQ w) (hc : (X.toNat : Int) = 10) (hn : lng 10 = 4) :
    Calls Tryd.prog 13 #[.int .u8 10] w fun e w' => e = .returned (.bool true) ∧ Below w.heap.size w w' := by
  have hA := awake8_any w hL
  have hC := fun (W : World) => one_byte_conv W X
  have hG := fun (W : World) (hb : Below w.heap.size w W) => long_byte X W (hL.low hb)
  simp only [hc, hn] at hC hG
  have HG := Lib.hid hG
  clear hG hc hn hL
  go_enter Tryd.func13, Tryd.ntmps13
  go_wp2_with (first
    | (go_at_call 25; refine hA.mono ?_; rintro e w1 ⟨rfl, hb1⟩; have hcv := hC w1)
    | (go_at_call 30; refine (HG.out _ (hb1.alloc hb1.size _)).mono ?_; rintro e w2 ⟨rfl, hb2⟩))
  go_ret
  exact ⟨rfl, (hb1.alloc hb1.size _).trans (hb2.mono (by have := hb1.size; simp; omega))⟩
theorem qbyte_12 (X : UInt8) (w : World) (hL : LQ w) (hc : (X.toNat : Int) = 12) (hn : lng 12 = 4) :
    Calls Tryd.prog 13 #[.int .u8 12] w fun e w' => e = .returned (.bool true) ∧ Below w.heap.size w w' := by
  have hA := awake8_any w hL
  have hC := fun (W : World) => one_byte_conv W X
  have hG := fun (W : World) (hb : Below w.heap.size w W) => long_byte X W (hL.low hb)
  simp only [hc, hn] at hC hG
  have HG := Lib.hid hG
  clear hG hc hn hL
  go_enter Tryd.func13, Tryd.ntmps13
  go_wp2_with (first
    | (go_at_call 25; refine hA.mono ?_; rintro e w1 ⟨rfl, hb1⟩; have hcv := hC w1)
    | (go_at_call 30; refine (HG.out _ (hb1.alloc hb1.size _)).mono ?_; rintro e w2 ⟨rfl, hb2⟩))
  go_ret
  exact ⟨rfl, (hb1.alloc hb1.size _).trans (hb2.mono (by have := hb1.size; simp; omega))⟩
theorem qbyte_13 (X : UInt8) (w : World) (hL : LQ w) (hc : (X.toNat : Int) = 13) (hn : lng 13 = 4) :
    Calls Tryd.prog 13 #[.int .u8 13] w fun e w' => e = .returned (.bool true) ∧ Below w.heap.size w w' := by
  have hA := awake8_any w hL
  have hC := fun (W : World) => one_byte_conv W X
  have hG := fun (W : World) (hb : Below w.heap.size w W) => long_byte X W (hL.low hb)
  simp only [hc, hn] at hC hG
  have HG := Lib.hid hG
  clear hG hc hn hL
  go_enter Tryd.func13, Tryd.ntmps13
  go_wp2_with (first
    | (go_at_call 25; refine hA.mono ?_; rintro e w1 ⟨rfl, hb1⟩; have hcv := hC w1)
    | (go_at_call 30; refine (HG.out _ (hb1.alloc hb1.size _)).mono ?_; rintro e w2 ⟨rfl, hb2⟩))
  go_ret
  exact ⟨rfl, (hb1.alloc hb1.size _).trans (hb2.mono (by have := hb1.size; simp; omega))⟩
theorem qbyte_low (X : UInt8) (c : Int) (w : World) (hL : LQ w) (hc : (X.toNat : Int) = c) (hn : lng c = 8) (e34 : (c == 34) = false) (e92 : (c == 92) = false) (e8 : (c == 8) = false) (e9 : (c == 9) = false) (e10 : (c == 10) = false) (e12 : (c == 12) = false) (e13 : (c == 13) = false) (h : decide (128 ≤ c) = false) (h1 : decide (c < 32) = true) (h2 : decide (32 ≤ c) = false) :
    Calls Tryd.prog 13 #[.int .u8 c] w fun e w' => e = .returned (.bool true) ∧ Below w.heap.size w w' := by
  have hA := awake8_any w hL
  have hC := fun (W : World) => one_byte_conv W X
  have hG := fun (W : World) (hb : Below w.heap.size w W) => long_byte X W (hL.low hb)
  simp only [hc, hn] at hC hG
  have HG := Lib.hid hG
  clear hG hc hn hL
  go_enter Tryd.func13, Tryd.ntmps13
  go_wp2_with (first
    | (go_at_call 25; refine hA.mono ?_; rintro e w1 ⟨rfl, hb1⟩; have hcv := hC w1)
    | (go_at_call 30; refine (HG.out _ (hb1.alloc hb1.size _)).mono ?_; rintro e w2 ⟨rfl, hb2⟩))
  go_ret
  exact ⟨rfl, (hb1.alloc hb1.size _).trans (hb2.mono (by have := hb1.size; simp; omega))⟩
theorem qbyte_plain (X : UInt8) (c : Int) (w : World) (hL : LQ w) (hc : (X.toNat : Int) = c) (hn : lng c = 3) (e34 : (c == 34) = false) (e92 : (c == 92) = false) (e8 : (c == 8) = false) (e9 : (c == 9) = false) (e10 : (c == 10) = false) (e12 : (c == 12) = false) (e13 : (c == 13) = false) (h : decide (128 ≤ c) = false) (h1 : decide (c < 32) = false) (h2 : decide (32 ≤ c) = true) :
    Calls Tryd.prog 13 #[.int .u8 c] w fun e w' => e = .returned (.bool true) ∧ Below w.heap.size w w' := by
  have hA := awake8_any w hL
  have hC := fun (W : World) => one_byte_conv W X
  have hG := fun (W : World) (hb : Below w.heap.size w W) => long_byte X W (hL.low hb)
  simp only [hc, hn] at hC hG
  have HG := Lib.hid hG
  clear hG hc hn hL
  go_enter Tryd.func13, Tryd.ntmps13
  go_wp2_with (first
    | (go_at_call 25; refine hA.mono ?_; rintro e w1 ⟨rfl, hb1⟩; have hcv := hC w1)
    | (go_at_call 30; refine (HG.out _ (hb1.alloc hb1.size _)).mono ?_; rintro e w2 ⟨rfl, hb2⟩))
  go_ret
  exact ⟨rfl, (hb1.alloc hb1.size _).trans (hb2.mono (by have := hb1.size; simp; omega))⟩
theorem quoteByte_walk (c : Int) (h0 : 0 ≤ c) (h1 : c ≤ 255) (w : World) (hL : LQ w) :
    Calls Tryd.prog 13 #[.int .u8 c] w fun e w' => e = .returned (.bool true) ∧ Below w.heap.size w w' := by
  obtain ⟨X, hX⟩ : ∃ X : UInt8, (X.toNat : Int) = c := ⟨c.toNat.toUInt8, by rw [UInt8.toNat_ofNat']; omega⟩
  by_cases hh : 128 ≤ c
  · exact qbyte_high X c w hL hX (if_pos hh) (decide_eq_true hh)
  by_cases n34 : c = 34
  · subst n34; exact qbyte_34 X w hL hX (by decide)
  by_cases n92 : c = 92
  · subst n92; exact qbyte_92 X w hL hX (by decide)
  by_cases n8 : c = 8
  · subst n8; exact qbyte_8 X w hL hX (by decide)
  by_cases n9 : c = 9
  · subst n9; exact qbyte_9 X w hL hX (by decide)
  by_cases n10 : c = 10
  · subst n10; exact qbyte_10 X w hL hX (by decide)
  by_cases n12 : c = 12
  · subst n12; exact qbyte_12 X w hL hX (by decide)
  by_cases n13 : c = 13
  · subst n13; exact qbyte_13 X w hL hX (by decide)
  by_cases hl : c < 32
  · exact qbyte_low X c w hL hX (by unfold lng; rw [if_neg hh, if_neg (by omega), if_pos hl]) (by simpa using n34) (by simpa using n92) (by simpa using n8) (by simpa using n9) (by simpa using n10) (by simpa using n12) (by simpa using n13) (decide_eq_false hh) (decide_eq_true hl) (decide_eq_false (by omega))
  · exact qbyte_plain X c w hL hX (by unfold lng; rw [if_neg hh, if_neg (by omega), if_neg hl]) (by simpa using n34) (by simpa using n92) (by simpa using n8) (by simpa using n9) (by simpa using n10) (by simpa using n12) (by simpa using n13) (decide_eq_false hh) (decide_eq_false hl) (decide_eq_true (by omega))
theorem u8_bounds {n : Int} (h : (Lit.int .u8 n).wf = true) : 0 ≤ n ∧ n ≤ 255 := by
  simp [Lit.wf, IntKind.min, IntKind.max, IntKind.signed, IntKind.bits] at h
  omega
theorem copperplatelaw08_QuoteByte.walk (a0 : Int) (w : World) (w0 : (Lit.int .u8 a0).wf = true) (hL : LQ w) :
    Calls Tryd.prog 13 #[.int .u8 a0] w fun e w' => e = .returned (.bool true) ∧ Below w.heap.size w w' := quoteByte_walk a0 (u8_bounds w0).1 (u8_bounds w0).2 w hL
end Go.Proofs.YtcebkppagamjiaaDoor.G
