/-
  'upto', 'Name' and 'Digits': a row of bytes ends where the first one that is not so stands. By the library's IndexFunc.
-/
import Derived.Test.YtjgpmfjkcioinaaDoorPTG1
namespace Go.Proofs.YtjgpmfjkcioinaaDoor.G
open Go.RowKit Go.Proofs.YtjgpmfjkcioinaaDoorW.PrintWords Go.Proofs.YtjgpmfjkcioinaaDoor.M
set_option linter.unusedVariables false
set_option linter.unusedSimpArgs false
def Says (g : Nat) (q : Int → Bool) : Prop := ∀ (c : Int) (w : World), 0 ≤ c → c ≤ 255 → Calls Tryd.prog g #[.int .u8 c] w fun e w' => e = .returned (.bool (q c)) ∧ w = w'
theorem says_digit : Says 58 isDig := fun c w _ _ => digit_any c w
theorem says_word : Says 57 isWord := fun c w h0 h1 => word_any c w h0 h1
def stops (q : Int → Bool) (r : Nat) : Bool := decide (128 ≤ r) || !q r
set_option maxHeartbeats 1000000 in
theorem upto_lit (g : Nat) (eg : ∀ args w, (callFunc g args).run Tryd.prog w = .ok (.enter g args) w) (q : Int → Bool) (hq : Says g q) (w : World) (B : Nat) (hB : B < w.heap.size) (hc : w.cell? ⟨B, 0, none⟩ = some (.func (.func g) #[] #[])) :
    PredAt Tryd.prog 81 #[.pointer (some ⟨B, 0, none⟩)] encR (stops q) w := fun W r hb => by
  have hc' : W.cell? ⟨B, 0, none⟩ = some (.func (.func g) #[] #[]) := (hb.cell (p := ⟨B, 0, none⟩) hB).trans hc
  unfold FnGives
  clear hb hc
  by_cases h : 128 ≤ r
  · have h2 : (128 : Int) ≤ (r : Int) := by omega
    have hs : stops q r = true := by simp [stops, h]
    have HS := Lib.hid hs; clear hs
    go_enter Tryd.func81, Tryd.ntmps81
    go_wp2
    go_ret
    exact ⟨ret_bool HS.out.symm, 0, rfl⟩
  · have h2 : (r : Int) < 128 := by omega
    have hw : IntKind.u8.wrap (r : Int) = r := by simp [IntKind.wrap, IntKind.bits]; omega
    have hs : stops q r = !q r := by simp [stops, h]
    have HS := Lib.hid hs; clear hs
    go_enter Tryd.func81, Tryd.ntmps81
    go_wp2_with (go_at_fn g; refine (hq _ _ (by omega) (by omega)).mono ?_; rintro e w' ⟨rfl, rfl⟩)
    go_ret
    exact ⟨ret_bool (by rw [HS.out, decide_eq_false (by omega)]; rfl), 0, rfl⟩
theorem get_bt (s : ByteArray) (pos : Nat) (h : pos < s.size) : ((s.get! (pos + 0)).toNat : Int) = bt s pos := by
  have e : s.get! (pos + 0) = s[pos]'h := by
    rw [Nat.add_zero]
    show s.data[pos]! = s.data[pos]
    rw [getElem!_pos s.data pos h]
  rw [e]
  exact bt_at s (pos : Int) h
theorem decode_low (s : ByteArray) (pos : Nat) (h : pos < s.size) (hb : bt s pos < 128) : Utf8.decode s pos = ((bt s pos).toNat, 1) := by
  have hg := get_bt s pos h
  have h1 : (s.get! (pos + 0)).toNat < 128 := by omega
  unfold Utf8.decode
  simp only []
  rw [if_pos h1]
  congr 1
  omega
theorem decode_high (s : ByteArray) (pos : Nat) (h : pos < s.size) (hb : ¬ bt s pos < 128) : 128 ≤ (Utf8.decode s pos).1 := by
  have hg := get_bt s pos h
  have h1 : ¬ (s.get! (pos + 0)).toNat < 128 := by omega
  unfold Utf8.decode
  simp only []
  rw [if_neg h1]
  split
  · split
    · simpa using ‹_›
    · simp [Utf8.runeError]
  · split
    · split
      · rename_i h3; simp at h3; simp; omega
      · simp [Utf8.runeError]
    · split
      · split
        · rename_i h3; simp at h3; simp; omega
        · simp [Utf8.runeError]
      · simp [Utf8.runeError]
theorem stops_low (q : Int → Bool) (c : Int) (h0 : 0 ≤ c) (h : c < 128) : stops q c.toNat = !q c := by
  unfold stops
  rw [decide_eq_false (by omega), show ((c.toNat : Nat) : Int) = c by omega]
  rfl
theorem stops_high (q : Int → Bool) (n : Nat) (h : 128 ≤ n) : stops q n = true := by simp [stops, h]
def Low (q : Int → Bool) : Prop := ∀ c, q c = true → c < 128
theorem low_dig : Low isDig := fun c h => by simp [isDig] at h; omega
theorem low_word : Low isWord := fun c h => by simp [isWord, isLet, isDig] at h; omega
theorem idx_cnt (q : Int → Bool) (hq : Low q) (s : ByteArray) : ∀ (f pos : Nat), pos ≤ s.size → s.size ≤ pos + f →
    Lib.idxFuncFrom (stops q) true s f pos = if pos + cnt q (at_ s pos) < s.size then ((pos + cnt q (at_ s pos) : Nat) : Int) else -1
  | 0, pos, h1, h2 => by
    have : at_ s (pos : Int) = [] := at_nil s _ (by omega)
    rw [this]
    simp [Lib.idxFuncFrom, cnt]; omega
  | f + 1, pos, h1, h2 => by
    unfold Lib.idxFuncFrom
    by_cases h : pos < s.size
    · rw [if_pos h, at_cons s pos (by omega) (by omega)]
      have hr := bt_range s pos
      by_cases hb : bt s pos < 128
      · rw [decode_low s pos h hb]
        simp only []
        rw [stops_low q _ hr.1 hb]
        by_cases hy : q (bt s pos) = true
        · rw [if_neg (by simp [hy]), idx_cnt q hq s f (pos + 1) (by omega) (by omega), cnt_yes _ hy]
          have e : ((pos : Int) + 1) = ((pos + 1 : Nat) : Int) := by omega
          rw [e, show pos + (cnt q (at_ s ((pos + 1 : Nat) : Int)) + 1) = pos + 1 + cnt q (at_ s ((pos + 1 : Nat) : Int)) by omega]
        · rw [Bool.not_eq_true] at hy
          rw [if_pos (by simp [hy]), cnt_no _ hy, if_pos (by omega)]; rfl
      · have hd := decode_high s pos h hb
        have hy : q (bt s pos) = false := by
          cases e : q (bt s pos) with
          | false => rfl
          | true => exact absurd (hq _ e) hb
        rw [stops_high q _ hd, if_pos rfl, cnt_no _ hy, if_pos (by omega)]; rfl
    · have : at_ s (pos : Int) = [] := at_nil s _ (by omega)
      rw [if_neg h, this]
      simp [cnt]; omega
def upto (q : Int → Bool) (s : ByteArray) (i : Int) : Int := if 0 ≤ i ∧ i ≤ s.size then i + cnt q (at_ s i) else i
theorem by_tail (s : ByteArray) (i : Int) (h0 : 0 ≤ i) : by_ (s.extract i.toNat s.size) = at_ s i := by
  rw [by_extract, List.take_of_length_le (by rw [by_length]; exact Nat.le_refl _)]; rfl
theorem upto_idx (q : Int → Bool) (hq : Low q) (s : ByteArray) (i : Int) (h0 : 0 ≤ i) (h1 : i ≤ s.size) :
    Lib.idxFunc (stops q) true (s.extract i.toNat s.size) = if i + cnt q (at_ s i) < s.size then (cnt q (at_ s i) : Int) else -1 := by
  have hz : (s.extract i.toNat s.size).size = s.size - i.toNat := by simp
  unfold Lib.idxFunc
  rw [idx_cnt q hq _ _ 0 (by omega) (by omega), show ((0 : Nat) : Int) = 0 from rfl, at_zero, by_tail s i h0, hz]
  by_cases h : i + (cnt q (at_ s i) : Int) < s.size
  · rw [if_pos h, if_pos (by omega)]; simp
  · rw [if_neg h, if_neg (by omega)]
set_option maxHeartbeats 1000000 in
theorem upto_any (g : Nat) (eg : ∀ args w, (callFunc g args).run Tryd.prog w = .ok (.enter g args) w) (q : Int → Bool) (hg : Says g q) (hq : Low q) (s : ByteArray) (i : Int) (w : World) (hs : s.size ≤ 140737488351232) :
    Calls Tryd.prog 56 #[.string s, .int .i64 i, .func (.func g) #[] #[]] w fun e w' => e = .returned (.int .i64 (upto q s i)) ∧ Below w.heap.size w w' := by
  have hC := fun (t : ByteArray) (W : World) (hB : w.heap.size < W.heap.size) (hc : W.cell? ⟨w.heap.size, 0, none⟩ = some (.func (.func g) #[] #[])) =>
    Tryd.strings_IndexFunc 81 #[.pointer (some ⟨w.heap.size, 0, none⟩)] (enters_of Tryd.func81 (by kernel_rfl) rfl) _ t W (upto_lit g eg q hg W w.heap.size hB hc)
  by_cases h0 : 0 ≤ i
  · by_cases h1 : i ≤ s.size
    · have hu : upto q s i = i + cnt q (at_ s i) := by unfold upto; rw [if_pos ⟨h0, h1⟩]
      have hI := upto_idx q hq s i h0 h1
      have hl : (cnt q (at_ s i) : Int) ≤ s.size - i := by have := cnt_le q (at_ s i); have := at_length s i h0 h1; omega
      rw [hu]
      obtain ⟨k, hk⟩ : ∃ k : Nat, cnt q (at_ s i) = k := ⟨_, rfl⟩
      rw [hk] at hI hl ⊢
      have HI := Lib.hid hI
      clear hI hu hk
      by_cases hlt : i + (k : Int) < s.size
      · have e : Lib.idxFunc (stops q) true (s.extract i.toNat s.size) = (k : Int) := by rw [HI.out, if_pos hlt]
        have HE := Lib.hid e; clear e
        go_enter Tryd.func56, Tryd.ntmps56
        go_wp2_with (go_at_call 80; refine (hC _ _ (by simp) (by simp)).mono ?_; rintro e w' ⟨rfl, hb⟩; rw [HE.out])
        go_ret
        exact ⟨rfl, ((Below.refl _ w).alloc (Nat.le_refl _) _).trans (hb.mono (by simp))⟩
      · have e : Lib.idxFunc (stops q) true (s.extract i.toNat s.size) = -1 := by rw [HI.out, if_neg hlt]
        have HE := Lib.hid e; clear e
        go_enter Tryd.func56, Tryd.ntmps56
        go_wp2_with (go_at_call 80; refine (hC _ _ (by simp) (by simp)).mono ?_; rintro e w' ⟨rfl, hb⟩; rw [HE.out])
        go_ret
        exact ⟨ret_int (by omega), ((Below.refl _ w).alloc (Nat.le_refl _) _).trans (hb.mono (by simp))⟩
    · have hu : upto q s i = i := by unfold upto; rw [if_neg (by omega)]
      rw [hu]
      clear hu hC
      go_enter Tryd.func56, Tryd.ntmps56
      go_wp2
      go_ret
      exact ⟨rfl, (Below.refl _ w).alloc (Nat.le_refl _) _⟩
  · have hu : upto q s i = i := by unfold upto; rw [if_neg (by omega)]
    rw [hu]
    clear hu hC
    go_enter Tryd.func56, Tryd.ntmps56
    go_wp2
    go_ret
    exact ⟨rfl, (Below.refl _ w).alloc (Nat.le_refl _) _⟩
end Go.Proofs.YtjgpmfjkcioinaaDoor.G
