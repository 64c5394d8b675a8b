/-
  The document's escape of a character, by hand.
-/
import Derived.Test.YtcebkppagamjiaaDoorW9
import Derived.RegionTactic
import Derived.ChangeAlike
import Derived.Laws.IdiomStrings
namespace Go.Proofs.YtcebkppagamjiaaDoor.G
open Go.RowKit Go.Shelf Go.Proofs.YtcebkppagamjiaaDoorW.PrintWords Go.Proofs.YtcebkppagamjiaaDoor.M
set_option linter.unusedVariables false
set_option linter.unusedSimpArgs false
attribute [local irreducible] Utf8.encode Utf8.decode

/-- What stands for the character that a text is. -/
def one8 (s : ByteArray) : ByteArray :=
  if bt s 0 = 34 then ⟨#[92, 34]⟩ else if bt s 0 = 92 then ⟨#[92, 92]⟩ else if bt s 0 = 8 then ⟨#[92, 98]⟩ else if bt s 0 = 12 then ⟨#[92, 102]⟩ else if bt s 0 = 10 then ⟨#[92, 110]⟩ else if bt s 0 = 13 then ⟨#[92, 114]⟩ else if bt s 0 = 9 then ⟨#[92, 116]⟩ else if bt s 0 < 32 then ba [92, 117, 48, 48, hexd (bt s 0 / 16), hexd (bt s 0 % 16)] else s
set_option maxHeartbeats 800000 in
theorem one8_34 (s : ByteArray) (w : World) (h0 : 0 < s.size) (hb : ∀ h : 0 < s.size, (((s[0]'h).toNat : Nat) : Int) = 34) :
    Calls Tryd.prog 51 #[.string s] w fun e w' => e = .returned (.string ⟨#[92, 34]⟩) ∧ Below w.heap.size w w' := by
  go_enter Tryd.func51, Tryd.ntmps51
  go_wp2
  go_ret
  exact ⟨rfl, Below.refl _ _⟩
set_option maxHeartbeats 800000 in
theorem one8_92 (s : ByteArray) (w : World) (h0 : 0 < s.size) (hb : ∀ h : 0 < s.size, (((s[0]'h).toNat : Nat) : Int) = 92) :
    Calls Tryd.prog 51 #[.string s] w fun e w' => e = .returned (.string ⟨#[92, 92]⟩) ∧ Below w.heap.size w w' := by
  go_enter Tryd.func51, Tryd.ntmps51
  go_wp2
  go_ret
  exact ⟨rfl, Below.refl _ _⟩
set_option maxHeartbeats 800000 in
theorem one8_8 (s : ByteArray) (w : World) (h0 : 0 < s.size) (hb : ∀ h : 0 < s.size, (((s[0]'h).toNat : Nat) : Int) = 8) :
    Calls Tryd.prog 51 #[.string s] w fun e w' => e = .returned (.string ⟨#[92, 98]⟩) ∧ Below w.heap.size w w' := by
  go_enter Tryd.func51, Tryd.ntmps51
  go_wp2
  go_ret
  exact ⟨rfl, Below.refl _ _⟩
set_option maxHeartbeats 800000 in
theorem one8_12 (s : ByteArray) (w : World) (h0 : 0 < s.size) (hb : ∀ h : 0 < s.size, (((s[0]'h).toNat : Nat) : Int) = 12) :
    Calls Tryd.prog 51 #[.string s] w fun e w' => e = .returned (.string ⟨#[92, 102]⟩) ∧ Below w.heap.size w w' := by
  go_enter Tryd.func51, Tryd.ntmps51
  go_wp2
  go_ret
  exact ⟨rfl, Below.refl _ _⟩
set_option maxHeartbeats 800000 in
theorem one8_10 (s : ByteArray) (w : World) (h0 : 0 < s.size) (hb : ∀ h : 0 < s.size, (((s[0]'h).toNat : Nat) : Int) = 10) :
    Calls Tryd.prog 51 #[.string s] w fun e w' => e = .returned (.string ⟨#[92, 110]⟩) ∧ Below w.heap.size w w' := by
  go_enter Tryd.func51, Tryd.ntmps51
  go_wp2
  go_ret
  exact ⟨rfl, Below.refl _ _⟩
set_option maxHeartbeats 800000 in
theorem one8_13 (s : ByteArray) (w : World) (h0 : 0 < s.size) (hb : ∀ h : 0 < s.size, (((s[0]'h).toNat : Nat) : Int) = 13) :
    Calls Tryd.prog 51 #[.string s] w fun e w' => e = .returned (.string ⟨#[92, 114]⟩) ∧ Below w.heap.size w w' := by
  go_enter Tryd.func51, Tryd.ntmps51
  go_wp2
  go_ret
  exact ⟨rfl, Below.refl _ _⟩
set_option maxHeartbeats 800000 in
theorem one8_9 (s : ByteArray) (w : World) (h0 : 0 < s.size) (hb : ∀ h : 0 < s.size, (((s[0]'h).toNat : Nat) : Int) = 9) :
    Calls Tryd.prog 51 #[.string s] w fun e w' => e = .returned (.string ⟨#[92, 116]⟩) ∧ Below w.heap.size w w' := by
  go_enter Tryd.func51, Tryd.ntmps51
  go_wp2
  go_ret
  exact ⟨rfl, Below.refl _ _⟩
set_option maxHeartbeats 800000 in
theorem one8_p (s : ByteArray) (b : Int) (w : World) (h0 : 0 < s.size) (hb : ∀ h : 0 < s.size, (((s[0]'h).toNat : Nat) : Int) = b) (e34 : (b == 34) = false) (e92 : (b == 92) = false) (e8 : (b == 8) = false) (e12 : (b == 12) = false) (e10 : (b == 10) = false) (e13 : (b == 13) = false) (e9 : (b == 9) = false) (e : decide (b < 32) = false) :
    Calls Tryd.prog 51 #[.string s] w fun e w' => e = .returned (.string s) ∧ Below w.heap.size w w' := by
  go_enter Tryd.func51, Tryd.ntmps51
  go_wp2
  go_ret
  exact ⟨rfl, Below.refl _ _⟩
theorem two_bytes (W : World) (X Y : UInt8) : (convert 33 9 (.slice (some ⟨W.heap.size, 0, none⟩) 2 2)).run Tryd.prog (W.alloc (.cells #[.int .u8 (X.toNat : Int), .int .u8 (Y.toNat : Int)] 5)).drew = .ok (.string ⟨#[X, Y]⟩) (W.alloc (.cells #[.int .u8 (X.toNat : Int), .int .u8 (Y.toNat : Int)] 5)).drew :=
  run_convert_bytes_back _ _ _ _ ⟨W.heap.size, 0, none⟩ 2 [X, Y] Tryd.underlying33 Tryd.underlying5 Tryd.underlying9 (fun j hj => by
    have hj2 : j < 2 := hj
    rw [show (⟨W.heap.size, 0, none⟩ : Addr).add j = ⟨W.heap.size, j, none⟩ by unfold Addr.add; split <;> simp_all]
    show (W.alloc _).cell? _ = _
    rw [cell_of_row _ _ j _ _ _ (World.alloc_heap_new W _)]
    rcases (show j = 0 ∨ j = 1 by omega) with rfl | rfl <;> rfl)
set_option maxHeartbeats 1600000 in
set_option maxRecDepth 100000 in
theorem one8_low (s : ByteArray) (b : Int) (w : World) (h0 : 0 < s.size) (hb : ∀ h : 0 < s.size, (((s[0]'h).toNat : Nat) : Int) = b) (e34 : (b == 34) = false) (e92 : (b == 92) = false) (e8 : (b == 8) = false) (e12 : (b == 12) = false) (e10 : (b == 10) = false) (e13 : (b == 13) = false) (e9 : (b == 9) = false) (e : decide (b < 32) = true) (q m : Nat) (X Y : UInt8) (hq : Int.tdiv b 16 = (q : Int)) (hm : Int.tmod b 16 = (m : Int)) (hq1 : q < 16) (hm1 : m < 16)
    (hX : ∀ h : q < 16, ((((⟨#[48, 49, 50, 51, 52, 53, 54, 55, 56, 57, 97, 98, 99, 100, 101, 102]⟩ : ByteArray)[q]'h).toNat : Nat) : Int) = (X.toNat : Int)) (hY : ∀ h : m < 16, ((((⟨#[48, 49, 50, 51, 52, 53, 54, 55, 56, 57, 97, 98, 99, 100, 101, 102]⟩ : ByteArray)[m]'h).toNat : Nat) : Int) = (Y.toNat : Int)) :
    Calls Tryd.prog 51 #[.string s] w fun e w' => e = .returned (.string (⟨#[92, 117, 48, 48]⟩ ++ ⟨#[X, Y]⟩)) ∧ Below w.heap.size w w' := by
  have wq : IntKind.u8.wrap (q : Int) = (q : Int) := by simp [IntKind.wrap, IntKind.bits]; omega
  have wm : IntKind.u8.wrap (m : Int) = (m : Int) := by simp [IntKind.wrap, IntKind.bits]; omega
  have hcv := two_bytes w X Y
  go_enter Tryd.func51, Tryd.ntmps51
  go_wp2
  go_region
  all_goals go_wp2
  all_goals go_ret
  all_goals exact ⟨rfl, by repeat (first | exact Below.refl _ _ | apply below_alloc | apply below_drawn | apply below_drew)⟩
theorem hex_at (q : Nat) (hq : q < 16) : ∃ X : UInt8, (X.toNat : Int) = hexd q ∧ ∀ h : q < 16, ((((⟨#[48, 49, 50, 51, 52, 53, 54, 55, 56, 57, 97, 98, 99, 100, 101, 102]⟩ : ByteArray)[q]'h).toNat : Nat) : Int) = (X.toNat : Int) := by
  rcases (show q = 0 ∨ q = 1 ∨ q = 2 ∨ q = 3 ∨ q = 4 ∨ q = 5 ∨ q = 6 ∨ q = 7 ∨ q = 8 ∨ q = 9 ∨ q = 10 ∨ q = 11 ∨ q = 12 ∨ q = 13 ∨ q = 14 ∨ q = 15 by omega) with rfl | rfl | rfl | rfl | rfl | rfl | rfl | rfl | rfl | rfl | rfl | rfl | rfl | rfl | rfl | rfl
  · exact ⟨48, by decide, fun _ => rfl⟩
  · exact ⟨49, by decide, fun _ => rfl⟩
  · exact ⟨50, by decide, fun _ => rfl⟩
  · exact ⟨51, by decide, fun _ => rfl⟩
  · exact ⟨52, by decide, fun _ => rfl⟩
  · exact ⟨53, by decide, fun _ => rfl⟩
  · exact ⟨54, by decide, fun _ => rfl⟩
  · exact ⟨55, by decide, fun _ => rfl⟩
  · exact ⟨56, by decide, fun _ => rfl⟩
  · exact ⟨57, by decide, fun _ => rfl⟩
  · exact ⟨97, by decide, fun _ => rfl⟩
  · exact ⟨98, by decide, fun _ => rfl⟩
  · exact ⟨99, by decide, fun _ => rfl⟩
  · exact ⟨100, by decide, fun _ => rfl⟩
  · exact ⟨101, by decide, fun _ => rfl⟩
  · exact ⟨102, by decide, fun _ => rfl⟩
theorem one8_any (s : ByteArray) (w : World) (h0 : 0 < s.size) :
    Calls Tryd.prog 51 #[.string s] w fun e w' => e = .returned (.string (one8 s)) ∧ Below w.heap.size w w' := by
  have hb : ∀ h : 0 < s.size, (((s[0]'h).toNat : Nat) : Int) = bt s 0 := fun h => bt_at s 0 h
  have hr : 0 ≤ bt s 0 ∧ bt s 0 ≤ 255 := bt_range' s 0 h0
  unfold one8
  by_cases n34 : bt s 0 = 34
  · rw [if_pos n34]; exact one8_34 s w h0 (fun h => by rw [hb h, n34])
  rw [if_neg n34]
  by_cases n92 : bt s 0 = 92
  · rw [if_pos n92]; exact one8_92 s w h0 (fun h => by rw [hb h, n92])
  rw [if_neg n92]
  by_cases n8 : bt s 0 = 8
  · rw [if_pos n8]; exact one8_8 s w h0 (fun h => by rw [hb h, n8])
  rw [if_neg n8]
  by_cases n12 : bt s 0 = 12
  · rw [if_pos n12]; exact one8_12 s w h0 (fun h => by rw [hb h, n12])
  rw [if_neg n12]
  by_cases n10 : bt s 0 = 10
  · rw [if_pos n10]; exact one8_10 s w h0 (fun h => by rw [hb h, n10])
  rw [if_neg n10]
  by_cases n13 : bt s 0 = 13
  · rw [if_pos n13]; exact one8_13 s w h0 (fun h => by rw [hb h, n13])
  rw [if_neg n13]
  by_cases n9 : bt s 0 = 9
  · rw [if_pos n9]; exact one8_9 s w h0 (fun h => by rw [hb h, n9])
  rw [if_neg n9]
  have h8 : ∀ x : Int, bt s 0 ≠ x → (bt s 0 == x) = false := fun x h => by simpa using h
  by_cases hl : bt s 0 < 32
  · rw [if_pos hl]
    obtain ⟨q, hq⟩ : ∃ q : Nat, bt s 0 / 16 = q := ⟨(bt s 0 / 16).toNat, by omega⟩
    obtain ⟨m, hm⟩ : ∃ q : Nat, bt s 0 % 16 = q := ⟨(bt s 0 % 16).toNat, by omega⟩
    obtain ⟨X, hX, hX2⟩ := hex_at q (by omega)
    obtain ⟨Y, hY, hY2⟩ := hex_at m (by omega)
    have e : ba [92, 117, 48, 48, hexd (bt s 0 / 16), hexd (bt s 0 % 16)] = ⟨#[92, 117, 48, 48]⟩ ++ ⟨#[X, Y]⟩ := by
      rw [hq, hm, ← hX, ← hY]
      have hu : ∀ X : UInt8, ((X.toNat : Int).toNat).toUInt8 = X := fun X => by simp
      unfold ba
      simp only [List.map_cons, List.map_nil, hu]
      rfl
    rw [e]
    exact one8_low s (bt s 0) w h0 hb (h8 _ n34) (h8 _ n92) (h8 _ n8) (h8 _ n12) (h8 _ n10) (h8 _ n13) (h8 _ n9) (decide_eq_true hl) q m X Y (by rw [Int.tdiv_eq_ediv_of_nonneg hr.1, hq]) (by rw [Int.tmod_eq_emod_of_nonneg hr.1, hm]) (by omega) (by omega) hX2 hY2
  · rw [if_neg hl]
    exact one8_p s (bt s 0) w h0 hb (h8 _ n34) (h8 _ n92) (h8 _ n8) (h8 _ n12) (h8 _ n10) (h8 _ n13) (h8 _ n9) (decide_eq_false hl)
def copperplateref08_one.f (s : ByteArray) : Option ByteArray := if 0 < s.size then some (one8 s) else none
theorem copperplateref08_one.calls (a0 : ByteArray) (r : ByteArray) (w : World) (h : copperplateref08_one.f a0 = some r) :
    Calls Tryd.prog 51 #[.string a0] w fun e w' => e = .returned (.string r) ∧ Below w.heap.size w w' := by
  unfold copperplateref08_one.f at h
  split at h
  · rename_i h0; cases h; exact one8_any a0 w h0
  · cases h
end Go.Proofs.YtcebkppagamjiaaDoor.G
