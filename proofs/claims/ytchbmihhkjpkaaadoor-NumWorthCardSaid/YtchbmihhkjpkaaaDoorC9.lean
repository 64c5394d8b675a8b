/-
  The law RealMinus: all its cases.
-/
import Derived.Test.YtchbmihhkjpkaaaDoorC8
namespace Go.Proofs.YtchbmihhkjpkaaaDoor.G
open Go.RowKit Go.Proofs.YtchbmihhkjpkaaaDoorW.PrintWords Go.Proofs.YtchbmihhkjpkaaaDoor.M
set_option linter.unusedVariables false
set_option linter.unusedSimpArgs false

theorem flip_lt {f : Nat} (h : f < 18446744073709551616) : flip f < 18446744073709551616 := by
  have h1 := flip_div f
  have h2 : f / 9223372036854775808 < 2 := by omega
  have h3 : f / 9223372036854775808 ^^^ 1 < 2 := by
    rcases (show f / 9223372036854775808 = 0 ∨ f / 9223372036854775808 = 1 by omega) with e | e <;> rw [e] <;> decide
  omega
theorem minus_all (s : ByteArray) (w : World) : Calls Tryd.prog 4 #[.string s] w fun e w' => e = .returned (.bool true) ∧ Below w.heap.size w w' := by
  by_cases h : 600 < s.size
  · exact minus_long s w h
  have h : s.size ≤ 600 := by omega
  have rf := fun W : World => real_any s W (by omega)
  have rg := fun W : World => real_any (⟨#[45]⟩ ++ s) W (by rw [ByteArray.size_append]; show 1 + s.size ≤ _; omega)
  have rh := fun W : World => real_any (⟨#[45, 45]⟩ ++ s) W (by rw [ByteArray.size_append]; show 2 + s.size ≤ _; omega)
  have rz := fun W : World => real_any (⟨#[48]⟩ ++ s) W (by rw [ByteArray.size_append]; show 1 + s.size ≤ _; omega)
  have eg : by_ (⟨#[45]⟩ ++ s) = 45 :: by_ s := by_append _ _
  have eh : by_ (⟨#[45, 45]⟩ ++ s) = 45 :: 45 :: by_ s := by_append _ _
  have ez : by_ (⟨#[48]⟩ ++ s) = 48 :: by_ s := by_append _ _
  rw [eg] at rg
  rw [eh] at rh
  rw [ez] at rz
  have hlen := by_length s
  have hbt := bt_by s 0
  obtain ⟨l, hl⟩ : ∃ l, by_ s = l := ⟨_, rfl⟩
  rw [hl] at rf rg rh rz hlen hbt
  have lf := realF_lt l
  have lg := realF_lt (45 :: l)
  have lh := realF_lt (45 :: 45 :: l)
  have lz := realF_lt (48 :: l)
  by_cases h0 : s.size = 0
  · have hd : l.head? ≠ some 45 := by
      cases l with
      | nil => intro q; cases q
      | cons a r => rw [h0] at hlen; cases hlen
    obtain ⟨m1, sh, nn⟩ := law_minus hd
    have M1 := fun W : World => same_any (realF (45 :: l)) (flip (realF l)) W lg (flip_lt lf)
    have SH := fun W : World => sort_any (realF (45 :: 45 :: l)) W lh
    have SF := fun W : World => sort_any (realF l) W lf
    rw [m1] at M1
    rw [sh] at SH
    by_cases hk : sortF (realF l) = 0
    · rw [hk] at SF
      exact minus_nil_no s w h _ _ _ _ h0 rf rg rh rz M1 SH SF
    · obtain ⟨n1, n2⟩ := nn.resolve_left hk
      have NG := fun W : World => neg_any (realF (45 :: l)) W lg
      have NF := fun W : World => neg_any (realF l) W lf
      rw [n1] at NG
      rw [n2] at NF
      exact minus_nil_val s w h _ _ _ _ _ (beq_eq_false_iff_ne.2 hk) h0 rf rg rh rz M1 SH SF NG NF
  have h1 : 0 < s.size := by omega
  have hb := hbt (by simpa using h1)
  obtain ⟨b, hbb⟩ : ∃ b, bt s 0 = b := ⟨_, rfl⟩
  have hat : ∀ h : 0 < s.size, (((s[0]'h).toNat : Nat) : Int) = b := by
    intro h
    rw [← hbb]
    unfold bt
    rw [dif_pos (by simpa using h)]
    rfl
  rw [hbb] at hb
  cases l with
  | nil => simp at hb
  | cons c r =>
  have hc : c = b := by simpa using hb
  subst hc
  by_cases h45 : c = 45
  · subst h45; exact minus_lead s w h h1 hat
  have hd : (c :: r).head? ≠ some 45 := fun q => h45 (Option.some.inj q)
  obtain ⟨m1, sh, nn⟩ := law_minus hd
  have M1 := fun W : World => same_any (realF (45 :: c :: r)) (flip (realF (c :: r))) W lg (flip_lt lf)
  have SH := fun W : World => sort_any (realF (45 :: 45 :: c :: r)) W lh
  have SF := fun W : World => sort_any (realF (c :: r)) W lf
  rw [m1] at M1
  rw [sh] at SH
  have t0 : (c == 45) = false := beq_eq_false_iff_ne.2 h45
  by_cases c1 : 48 ≤ c
  · by_cases c2 : c ≤ 57
    · have ezf : realF (48 :: c :: r) = realF (c :: r) := by
        rw [real_plain (show (48 :: c :: r).head? ≠ some 45 by intro q; cases q), real_plain hd, rval_zero (decide_eq_true ⟨c1, c2⟩)]
      have MZ := fun W : World => same_any (realF (48 :: c :: r)) (realF (c :: r)) W lz lf
      rw [show sameF (realF (48 :: c :: r)) (realF (c :: r)) = true by rw [ezf]; exact same_self _] at MZ
      by_cases hk : sortF (realF (c :: r)) = 0
      · rw [hk] at SF
        exact minus_dig_no s w h _ _ _ _ c h1 hat t0 (decide_eq_true c1) (decide_eq_true c2) MZ rf rg rh rz M1 SH SF
      · obtain ⟨n1, n2⟩ := nn.resolve_left hk
        have NG := fun W : World => neg_any (realF (45 :: c :: r)) W lg
        have NF := fun W : World => neg_any (realF (c :: r)) W lf
        rw [n1] at NG
        rw [n2] at NF
        exact minus_dig_val s w h _ _ _ _ _ (beq_eq_false_iff_ne.2 hk) c h1 hat t0 (decide_eq_true c1) (decide_eq_true c2) MZ rf rg rh rz M1 SH SF NG NF
    · by_cases hk : sortF (realF (c :: r)) = 0
      · rw [hk] at SF
        exact minus_high_no s w h _ _ _ _ c h1 hat t0 (decide_eq_true c1) (decide_eq_false c2) rf rg rh rz M1 SH SF
      · obtain ⟨n1, n2⟩ := nn.resolve_left hk
        have NG := fun W : World => neg_any (realF (45 :: c :: r)) W lg
        have NF := fun W : World => neg_any (realF (c :: r)) W lf
        rw [n1] at NG
        rw [n2] at NF
        exact minus_high_val s w h _ _ _ _ _ (beq_eq_false_iff_ne.2 hk) c h1 hat t0 (decide_eq_true c1) (decide_eq_false c2) rf rg rh rz M1 SH SF NG NF
  · by_cases hk : sortF (realF (c :: r)) = 0
    · rw [hk] at SF
      exact minus_low_no s w h _ _ _ _ c h1 hat t0 (decide_eq_false c1) rf rg rh rz M1 SH SF
    · obtain ⟨n1, n2⟩ := nn.resolve_left hk
      have NG := fun W : World => neg_any (realF (45 :: c :: r)) W lg
      have NF := fun W : World => neg_any (realF (c :: r)) W lf
      rw [n1] at NG
      rw [n2] at NF
      exact minus_low_val s w h _ _ _ _ _ (beq_eq_false_iff_ne.2 hk) c h1 hat t0 (decide_eq_false c1) rf rg rh rz M1 SH SF NG NF
end Go.Proofs.YtchbmihhkjpkaaaDoor.G
