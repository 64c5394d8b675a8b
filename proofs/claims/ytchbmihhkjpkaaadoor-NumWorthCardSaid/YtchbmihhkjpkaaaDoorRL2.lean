/-
  What a number's text is worth, in bits; the sign of it. Plain Lean.
-/
import Derived.Test.YtchbmihhkjpkaaaDoorRL1
import Derived.Test.YtchbmihhkjpkaaaDoorRF2
namespace Go.Proofs.YtchbmihhkjpkaaaDoor.M
open Ieee
set_option linter.unusedVariables false
set_option linter.unusedSimpArgs false

def TENF : Nat := 4621819117588971520
def ONEF : Nat := 4607182418800017408
def NANF : Nat := 9221120237041090561
def INFF : Nat := 9218868437227405312
def ofI (n : Int) : Nat := F64.write (.number (decide (n < 0)) n.natAbs 0)
def stepF (f : Nat) (c : Int) : Nat := (F64.add ((F64.mul TENF f).getD 0) (ofI (c - 48))).getD 0
def dv (m : List Int) : Nat := m.foldl stepF 0
def pw : Nat → Nat
  | 0 => ONEF
  | k + 1 => (F64.mul (pw k) TENF).getD 0
def Good (f : Nat) : Prop := isN f = false ∧ sgn f = false
theorem ten_nz : NumNZ TENF := ⟨5629499534213120, -49, by decide +kernel, by decide⟩
theorem ofI_good {c : Int} (h : 0 ≤ c) : Good (ofI c) := by
  have e : decide (c < 0) = false := decide_eq_false (by omega)
  unfold ofI
  rw [e]
  exact write_ok (.number false c.natAbs 0) rfl
theorem step_ok {f : Nat} (h : Good f) {c : Int} (hc : 48 ≤ c) : ∃ g, F64.mul TENF f = some g ∧ Good g ∧ F64.add g (ofI (c - 48)) = some (stepF f c) ∧ Good (stepF f c) := by
  obtain ⟨g, h1, h2, h3⟩ := mul_ok' ten_nz h.1
  have hg : Good g := ⟨h2, h3.trans h.2⟩
  have ho := ofI_good (c := c - 48) (by omega)
  obtain ⟨r, q1, q2, q3⟩ := add_ok hg.1 ho.1 hg.2 ho.2
  have e : stepF f c = r := by unfold stepF; rw [h1, Option.getD_some, q1, Option.getD_some]
  exact ⟨g, h1, hg, by rw [e]; exact q1, by rw [e]; exact ⟨q2, q3⟩⟩
theorem good_zero : Good 0 := ⟨by decide +kernel, by decide +kernel⟩
theorem dv_good' : ∀ (m : List Int) (f : Nat), Good f → (∀ c ∈ m, 48 ≤ c) → Good (m.foldl stepF f)
  | [], f, h, _ => h
  | c :: m, f, h, hc => by
    obtain ⟨g, _, _, _, h2⟩ := step_ok h (hc c (by simp))
    exact dv_good' m _ h2 (fun d hd => hc d (by simp [hd]))
theorem dv_good (m : List Int) (h : ∀ c ∈ m, 48 ≤ c) : Good (dv m) := dv_good' m 0 good_zero h
def nzB (b : Nat) : Bool := match F64.read b with | .number false m _ => m != 0 | _ => false
theorem nz_of {b : Nat} (h : nzB b = true) : NumNZ b := by
  unfold nzB at h
  split at h
  · rename_i m i q; exact ⟨m, i, q, by simpa using h⟩
  · cases h
theorem pw_all : ∀ k : Fin 23, nzB (pw k.val) = true := by decide +kernel
theorem pw_nz {k : Nat} (h : k ≤ 22) : NumNZ (pw k) := nz_of (pw_all ⟨k, by omega⟩)
theorem pw_step {k : Nat} (h : k < 22) : F64.mul (pw k) TENF = some (pw (k + 1)) := by
  obtain ⟨n, j, hb, hn⟩ := pw_nz (k := k) (by omega)
  obtain ⟨r, q, _⟩ := mul_ok (a := pw k) (b := TENF) (by unfold isN; rw [hb]; rfl) ten_nz
  rw [q]
  show some r = some ((F64.mul (pw k) TENF).getD 0)
  rw [q]; rfl
def valF : Val → Nat
  | .nan => NANF
  | .zero => 0
  | .inf => INFF
  | .fin m x => if x < 0 then (F64.div (dv m) (pw (-x).toNat)).getD 0 else (F64.mul (dv m) (pw x.toNat)).getD 0
def sgv (v : Val) (minus : Bool) : Nat := if v = .nan then NANF else if minus = true then flip (valF v) else valF v
def realF (l : List Int) : Nat := if l.head? = some 45 then sgv (rval l.tail) true else sgv (rval l) false
theorem real_minus (l : List Int) : realF (45 :: l) = sgv (rval l) true := if_pos rfl
theorem real_plain {l : List Int} (h : l.head? ≠ some 45) : realF l = sgv (rval l) false := by unfold realF; rw [if_neg h]
theorem nan_sort : sortF NANF = 0 := by decide +kernel
theorem nan_isN : isN NANF = true := by decide +kernel
theorem inf_good : Good INFF := ⟨by decide +kernel, by decide +kernel⟩
theorem same_nan {a b : Nat} (ha : isN a = true) (hb : isN b = true) : sameF a b = true := by unfold sameF; rw [ha, hb]; rfl
theorem digits_ge {l : List Int} (n : Nat) (h : n ≤ dig l) : ∀ c ∈ l.take n, 48 ≤ c ∧ c ≤ 57 := by
  intro c hc
  obtain ⟨k, hk⟩ := List.mem_iff_getElem?.1 hc
  have hkn : k < n := by
    have := (List.getElem?_eq_some_iff.1 hk).1
    rw [List.length_take] at this; omega
  rw [List.getElem?_take_of_lt hkn] at hk
  obtain ⟨d, q1, q2⟩ := cnt_get (p := isDig) (l := l) (k := k) (by show k < dig l; omega)
  rw [q1] at hk; cases hk
  exact of_decide_eq_true q2
theorem worth_digits {l m : List Int} {x : Int} (h : worth l = some (m, x)) : ∀ c ∈ m, 48 ≤ c ∧ c ≤ 57 := by
  unfold worth at h
  split at h
  · cases h
  split at h
  · split at h
    · cases h
    · obtain ⟨y, _, e⟩ := Option.map_eq_some_iff.1 h
      cases e
      intro c hc
      rcases List.mem_append.1 hc with hc | hc
      · exact digits_ge _ (Nat.le_refl _) c hc
      · exact digits_ge _ (Nat.le_refl _) c hc
  · obtain ⟨y, _, e⟩ := Option.map_eq_some_iff.1 h
    cases e
    exact fun c hc => digits_ge _ (Nat.le_refl _) c hc
theorem rval_fin {l m : List Int} {x : Int} (h : rval l = .fin m x) : (∀ c ∈ m, 48 ≤ c ∧ c ≤ 57) ∧ -22 ≤ x ∧ x ≤ 22 ∧ m.length ≤ 15 := by
  unfold rval at h
  split at h
  · cases h
  · rename_i m' x' q
    have hd := worth_digits q
    unfold valOf at h
    split at h
    · cases h
    split at h
    · cases h
    split at h
    · cases h
    split at h
    · cases h
    · cases h
      exact ⟨fun c hc => hd c ((List.dropWhile_suffix _).subset hc), by omega, by omega, by omega⟩
theorem val_good (l : List Int) (h : rval l ≠ .nan) : Good (valF (rval l)) := by
  cases q : rval l with
  | nan => exact absurd q h
  | zero => exact good_zero
  | inf => exact inf_good
  | fin m x =>
    obtain ⟨h1, h2, h3, h4⟩ := rval_fin q
    have hg := dv_good m (fun c hc => (h1 c hc).1)
    show Good (if x < 0 then (F64.div (dv m) (pw (-x).toNat)).getD 0 else (F64.mul (dv m) (pw x.toNat)).getD 0)
    split
    · obtain ⟨r, e, r1, r2⟩ := div_ok hg.1 (pw_nz (k := (-x).toNat) (by omega))
      rw [e]; exact ⟨r1, r2.trans hg.2⟩
    · obtain ⟨r, e, r1, r2⟩ := mul_ok hg.1 (pw_nz (k := x.toNat) (by omega))
      rw [e]; exact ⟨r1, r2.trans hg.2⟩
/-- The law RealMinus. -/
theorem law_minus {l : List Int} (h : l.head? ≠ some 45) :
    sameF (realF (45 :: l)) (flip (realF l)) = true ∧ sortF (realF (45 :: 45 :: l)) = 0 ∧ (sortF (realF l) = 0 ∨ negF (realF (45 :: l)) = true ∧ negF (realF l) = false) := by
  rw [real_minus, real_minus, real_plain h, rval_minus]
  refine ⟨?_, nan_sort, ?_⟩
  · by_cases c : rval l = .nan
    · unfold sgv; rw [if_pos c, if_pos c]; exact same_nan nan_isN (by rw [isN_flip]; exact nan_isN)
    · unfold sgv; rw [if_neg c, if_neg c, if_pos rfl, if_neg (by decide)]; exact same_self _
  · by_cases c : rval l = .nan
    · left; unfold sgv; rw [if_pos c]; exact nan_sort
    · right
      have hg := val_good l c
      have hn : negF (valF (rval l)) = false := by unfold negF; rw [hg.2]; rfl
      unfold sgv; rw [if_neg c, if_neg c, if_pos rfl, if_neg (by decide), neg_flip _ hg.1, hn]; exact ⟨rfl, rfl⟩
end Go.Proofs.YtchbmihhkjpkaaaDoor.M
