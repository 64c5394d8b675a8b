/-
  The document's characters: what its text computes is what the mathematics says.
-/
import Derived.Test.YtcebkppagamjiaaDoorPD7
import Derived.Test.YtcebkppagamjiaaDoorQ9
namespace Go.Proofs.YtcebkppagamjiaaDoor.G
open Go.RowKit Go.Proofs.YtcebkppagamjiaaDoor.Q Go.Proofs.YtcebkppagamjiaaDoorW.PrintWords Go.Proofs.YtcebkppagamjiaaDoor.M
set_option linter.unusedVariables false
set_option linter.unusedSimpArgs false

/-- What the first bytes would be, if the character had that many. -/
def gn (l : List Int) : Nat → Int
  | 1 => l.getD 0 0
  | 2 => 64 * (l.getD 0 0 % 32) + l.getD 1 0 % 64
  | 3 => 64 * (64 * (l.getD 0 0 % 16) + l.getD 1 0 % 64) + l.getD 2 0 % 64
  | _ => 64 * (64 * (64 * (l.getD 0 0 % 8) + l.getD 1 0 % 64) + l.getD 2 0 % 64) + l.getD 3 0 % 64
theorem bt_gd (x : ByteArray) (j : Nat) (h : j < x.size) : bt x j = (by_ x).getD j 0 ∧ 0 ≤ (by_ x).getD j 0 ∧ (by_ x).getD j 0 ≤ 255 := by
  have e : bt x j = (by_ x).getD j 0 := by
    have := bt_by x j (by omega)
    rw [Int.toNat_natCast] at this
    rw [List.getD_eq_getElem?_getD, this]; rfl
  have := bt_range' x j h
  rw [← e]; exact ⟨rfl, this⟩
theorem guess_step (k : Nat) (x : ByteArray) (n : Nat) (j : Nat) (v : Int) (hj : j < n) (hn : n ≤ x.size) (hx : x.size ≤ 1000000) (h0 : 0 ≤ v) (h1 : v ≤ 100000000) :
    copperplateref02_guess.l0 (k + 1) x n v (j : Int) = copperplateref02_guess.l0 k x n (64 * v + (by_ x).getD j 0 % 64) ((j + 1 : Nat) : Int) := by
  obtain ⟨e, e0, e1⟩ := bt_gd x j (by omega)
  rw [copperplateref02_guess.l0, if_pos (by omega), if_pos (by omega), if_pos (by omega), e, w64 (n := 64 * v) (by omega) (by omega), w64 (n := (by_ x).getD j 0) (by omega) (by omega), Int.tmod_eq_emod_of_nonneg e0, w64 (n := 64 * v + _) (by omega) (by omega), w64 (n := (j : Int) + 1) (by omega) (by omega), show (j : Int) + 1 = ((j + 1 : Nat) : Int) from rfl]
theorem guess_end (k : Nat) (x : ByteArray) (n : Nat) (v : Int) : copperplateref02_guess.l0 (k + 1) x n v ((n : Nat) : Int) = some v := by
  rw [copperplateref02_guess.l0, if_neg (by omega)]
theorem ref_guess (k : Nat) (x : ByteArray) (n : Nat) (h0 : 1 ≤ n) (h4 : n ≤ 4) (hn : n ≤ x.size) (hx : x.size ≤ 1000000) : copperplateref02_guess.f (k + 8) x n = some (gn (by_ x) n) := by
  obtain ⟨e, e0, e1⟩ := bt_gd x 0 (by omega)
  have e : bt x 0 = (by_ x).getD 0 0 := e
  have t : ∀ m : Int, Int.tmod (wrap64 (bt x 0)) m = (by_ x).getD 0 0 % m := fun m => by rw [e, w64 (by omega) (by omega), Int.tmod_eq_emod_of_nonneg e0]
  unfold copperplateref02_guess.f
  rw [t, t, copperplateref02_guess.j0, copperplateref02_guess.j0, copperplateref02_guess.j1, copperplateref02_guess.j1, copperplateref02_guess.j1, t]
  obtain ⟨c, hc⟩ : ∃ c, (by_ x).getD 0 0 = c := ⟨_, rfl⟩
  rw [hc] at e0 e1
  rcases (show n = 1 ∨ n = 2 ∨ n = 3 ∨ n = 4 by omega) with rfl | rfl | rfl | rfl
  · rw [if_pos (by rfl), if_pos (by omega), e, hc, w64 (by omega) (by omega)]
    show some c = some ((by_ x).getD 0 0)
    rw [hc]
  · rw [if_neg (by decide), if_pos (by omega), if_neg (by decide), if_neg (by decide), hc]
    have s1 := guess_step (k + 5) x 2 1 (c % 32) (by omega) hn hx (by omega) (by omega)
    have s2 := guess_end (k + 4) x 2 (64 * (c % 32) + (by_ x).getD 1 0 % 64)
    show copperplateref02_guess.l0 (k + 5 + 1) x ((2 : Nat) : Int) (c % 32) ((1 : Nat) : Int) = some (64 * ((by_ x).getD 0 0 % 32) + (by_ x).getD 1 0 % 64)
    rw [s1, hc]; exact s2
  · rw [if_neg (by decide), if_pos (by omega), if_pos (by rfl), if_neg (by decide), hc]
    have b1 := (bt_gd x 1 (by omega)).2
    have s1 := guess_step (k + 5) x 3 1 (c % 16) (by omega) hn hx (by omega) (by omega)
    have s2 := guess_step (k + 4) x 3 2 (64 * (c % 16) + (by_ x).getD 1 0 % 64) (by omega) hn hx (by omega) (by omega)
    have s3 := guess_end (k + 3) x 3 (64 * (64 * (c % 16) + (by_ x).getD 1 0 % 64) + (by_ x).getD 2 0 % 64)
    show copperplateref02_guess.l0 (k + 5 + 1) x ((3 : Nat) : Int) (c % 16) ((1 : Nat) : Int) = some (64 * (64 * ((by_ x).getD 0 0 % 16) + (by_ x).getD 1 0 % 64) + (by_ x).getD 2 0 % 64)
    rw [s1, hc]
    show copperplateref02_guess.l0 (k + 4 + 1) x ((3 : Nat) : Int) _ ((2 : Nat) : Int) = _
    rw [s2]; exact s3
  · rw [if_neg (by decide), if_pos (by omega), if_neg (by decide), if_pos (by rfl), if_pos (by omega), hc]
    have b1 := (bt_gd x 1 (by omega)).2
    have b2 := (bt_gd x 2 (by omega)).2
    have s1 := guess_step (k + 5) x 4 1 (c % 8) (by omega) hn hx (by omega) (by omega)
    have s2 := guess_step (k + 4) x 4 2 (64 * (c % 8) + (by_ x).getD 1 0 % 64) (by omega) hn hx (by omega) (by omega)
    have s3 := guess_step (k + 3) x 4 3 (64 * (64 * (c % 8) + (by_ x).getD 1 0 % 64) + (by_ x).getD 2 0 % 64) (by omega) hn hx (by omega) (by omega)
    have s4 := guess_end (k + 2) x 4 (64 * (64 * (64 * (c % 8) + (by_ x).getD 1 0 % 64) + (by_ x).getD 2 0 % 64) + (by_ x).getD 3 0 % 64)
    show copperplateref02_guess.l0 (k + 5 + 1) x ((4 : Nat) : Int) (c % 8) ((1 : Nat) : Int) = some (64 * (64 * (64 * ((by_ x).getD 0 0 % 8) + (by_ x).getD 1 0 % 64) + (by_ x).getD 2 0 % 64) + (by_ x).getD 3 0 % 64)
    rw [s1, hc]
    show copperplateref02_guess.l0 (k + 4 + 1) x ((4 : Nat) : Int) _ ((2 : Nat) : Int) = _
    rw [s2]
    show copperplateref02_guess.l0 (k + 3 + 1) x ((4 : Nat) : Int) _ ((3 : Nat) : Int) = _
    rw [s3]; exact s4
/-- Such a guess is right. -/
def Hit (l : List Int) (n : Nat) : Prop := isc (gn l n) = true ∧ enc (gn l n) = l.take n
theorem hit_nx {l : List Int} {n : Nat} (hn : n ≤ l.length) (h : Hit l n) : nxp isc l = (gn l n, n) := by
  have e : l = enc (gn l n) ++ l.drop n := by rw [h.2, List.take_append_drop]
  have hl : (enc (gn l n)).length = n := by rw [h.2, List.length_take]; omega
  conv => lhs; rw [e]
  rw [nxp_enc sort_isc h.1, hl]
theorem nx_hit {l : List Int} (h : (nxp isc l).2 ≠ 0) : Hit l (nxp isc l).2 ∧ gn l (nxp isc l).2 = (nxp isc l).1 := by
  obtain ⟨h1, h2, h3, h4⟩ := nxp_pos h
  obtain ⟨r, hr⟩ : ∃ r, (nxp isc l).1 = r := ⟨_, rfl⟩
  obtain ⟨K, hK⟩ : ∃ r, (nxp isc l).2 = r := ⟨_, rfl⟩
  rw [hr, hK] at h3
  rw [hr] at h1 h2 h4
  rw [hK] at h2 h4
  rw [hr, hK]
  have hv := isv_iff.1 (isv_of_isc h1)
  have g : gn l K = r := by
    rw [h3]
    unfold enc at h2 ⊢
    by_cases c1 : r < 128
    · rw [if_pos c1] at h2 ⊢
      subst h2; rfl
    by_cases c2 : r < 2048
    · rw [if_neg c1, if_pos c2] at h2 ⊢
      subst h2
      show 64 * ((192 + r / 64) % 32) + (128 + r % 64) % 64 = r
      omega
    by_cases c3 : r < 65536
    · rw [if_neg c1, if_neg c2, if_pos c3] at h2 ⊢
      subst h2
      show 64 * (64 * ((224 + r / 4096) % 16) + (128 + r / 64 % 64) % 64) + (128 + r % 64) % 64 = r
      omega
    · rw [if_neg c1, if_neg c2, if_neg c3] at h2 ⊢
      subst h2
      show 64 * (64 * (64 * ((240 + r / 262144) % 8) + (128 + r / 4096 % 64) % 64) + (128 + r / 64 % 64) % 64) + (128 + r % 64) % 64 = r
      omega
  refine ⟨⟨?_, ?_⟩, g⟩
  · rw [g]; exact h1
  · rw [g, h4]
end Go.Proofs.YtcebkppagamjiaaDoor.G
