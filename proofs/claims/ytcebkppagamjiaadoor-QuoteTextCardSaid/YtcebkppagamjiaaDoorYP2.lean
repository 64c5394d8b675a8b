/-
  The document's characters: what its text computes is what the mathematics says.
  The laws over quote, over what their texts compute: what they share, QuoteTells. Plain Lean, no program's walk in sight.
  The laws QuoteApart, QuotePlain, over what their texts compute.
-/
import Derived.Test.YtcebkppagamjiaaDoorW9
import Derived.IntWalk
import Derived.Test.YtcebkppagamjiaaDoorY1
import Derived.Test.YtcebkppagamjiaaDoorY2
import Derived.Test.YtcebkppagamjiaaDoorY3
namespace Go.Proofs.YtcebkppagamjiaaDoor.G
open Go.RowKit Go.Proofs.YtcebkppagamjiaaDoor.Y Go.Proofs.YtcebkppagamjiaaDoorW.PrintWords Go.Proofs.YtcebkppagamjiaaDoor.M
set_option linter.unusedVariables false
set_option linter.unusedSimpArgs false

theorem own_by (s : ByteArray) (n K : Nat) : by_ (s.extract n (n + K)) = (at_ s n).take K := by
  rw [by_extract]
  unfold at_
  rw [Int.toNat_natCast, List.drop_take, Nat.add_sub_cancel_left]
theorem w64 {n : Int} (h0 : -9223372036854775808 ≤ n) (h1 : n ≤ 9223372036854775807) : wrap64 n = n := IntWalk.wrap64_in n ⟨h0, h1⟩
theorem bt_in (s : ByteArray) (n : Nat) (h : n < s.size) : 0 ≤ bt s n ∧ bt s n ≤ 255 := bt_range' s n h
theorem ref_is (r : Int) : copperplateref02_is.f r = some (isc r) := by
  unfold copperplateref02_is.f
  repeat' split
  all_goals
    congr 1
    symm
    first
      | (rw [isc_iff]; omega)
      | (rw [← Bool.not_eq_true, isc_iff]; omega)
      | (rw [Bool.eq_iff_iff, isc_iff, decide_eq_true_eq]; omega)
theorem ref_Put (r : Int) : copperplateref02_Put.f r = some (if isc r = true then ba (enc r) else ⟨#[]⟩) := by
  unfold copperplateref02_Put.f
  rw [ref_is]
  simp only [Option.bind_some]
  cases h : isc r with
  | false => rfl
  | true =>
    have hv := isv_iff.1 (isv_of_isc h)
    simp only [if_true]
    unfold enc
    have t1 : ∀ m : Int, 0 < m → Int.tdiv r m = r / m := fun m hm => Int.tdiv_eq_ediv_of_nonneg (by omega)
    have t2 : ∀ q m : Int, 0 ≤ q → Int.tmod q m = q % m := fun q m hq => Int.tmod_eq_emod_of_nonneg hq
    by_cases c1 : r < 128
    · rw [if_pos c1, if_pos c1, show r % 256 = r by omega]; rfl
    by_cases c2 : r < 2048
    · rw [if_neg c1, if_pos c2, if_neg c1, if_pos c2, t1 64 (by omega), t2 r 64 (by omega), w64 (n := r / 64) (by omega) (by omega), w64 (n := 192 + r / 64) (by omega) (by omega), w64 (n := 128 + r % 64) (by omega) (by omega),
        show (192 + r / 64) % 256 = 192 + r / 64 by omega, show (128 + r % 64) % 256 = 128 + r % 64 by omega]; rfl
    by_cases c3 : r < 65536
    · rw [if_neg c1, if_neg c2, if_pos c3, if_neg c1, if_neg c2, if_pos c3, t1 64 (by omega), t1 4096 (by omega), w64 (n := r / 64) (by omega) (by omega), w64 (n := r / 4096) (by omega) (by omega), t2 r 64 (by omega), t2 (r / 64) 64 (by omega),
        w64 (n := 224 + r / 4096) (by omega) (by omega), w64 (n := 128 + r / 64 % 64) (by omega) (by omega), w64 (n := 128 + r % 64) (by omega) (by omega),
        show (224 + r / 4096) % 256 = 224 + r / 4096 by omega, show (128 + r / 64 % 64) % 256 = 128 + r / 64 % 64 by omega, show (128 + r % 64) % 256 = 128 + r % 64 by omega]; rfl
    · rw [if_neg c1, if_neg c2, if_neg c3, if_neg c1, if_neg c2, if_neg c3, t1 64 (by omega), t1 4096 (by omega), t1 262144 (by omega), w64 (n := r / 64) (by omega) (by omega), w64 (n := r / 4096) (by omega) (by omega), w64 (n := r / 262144) (by omega) (by omega), t2 r 64 (by omega), t2 (r / 64) 64 (by omega), t2 (r / 4096) 64 (by omega),
        w64 (n := 240 + r / 262144) (by omega) (by omega), w64 (n := 128 + r / 4096 % 64) (by omega) (by omega), w64 (n := 128 + r / 64 % 64) (by omega) (by omega), w64 (n := 128 + r % 64) (by omega) (by omega),
        show (240 + r / 262144) % 256 = 240 + r / 262144 by omega, show (128 + r / 4096 % 64) % 256 = 128 + r / 4096 % 64 by omega, show (128 + r / 64 % 64) % 256 = 128 + r / 64 % 64 by omega, show (128 + r % 64) % 256 = 128 + r % 64 by omega]; rfl
/-- What the first bytes would be, if the character had that many. -/
def gn (l : List Int) : Nat → Int
  | 1 => l.getD 0 0
  | 2 => 64 * (l.getD 0 0 % 32) + l.getD 1 0 % 64
  | 3 => 64 * (64 * (l.getD 0 0 % 16) + l.getD 1 0 % 64) + l.getD 2 0 % 64
  | _ => 64 * (64 * (64 * (l.getD 0 0 % 8) + l.getD 1 0 % 64) + l.getD 2 0 % 64) + l.getD 3 0 % 64
theorem bt_gd (x : ByteArray) (j : Nat) (h : j < x.size) : bt x j = (by_ x).getD j 0 ∧ 0 ≤ (by_ x).getD j 0 ∧ (by_ x).getD j 0 ≤ 255 := by
  have e : bt x j = (by_ x).getD j 0 := by
    have := bt_by x j (by omega)
    rw [Int.toNat_natCast] at this
    rw [List.getD_eq_getElem?_getD, this]; rfl
  have := bt_range' x j h
  rw [← e]; exact ⟨rfl, this⟩
theorem guess_step (k : Nat) (x : ByteArray) (n : Nat) (j : Nat) (v : Int) (hj : j < n) (hn : n ≤ x.size) (hx : x.size ≤ 1000000) (h0 : 0 ≤ v) (h1 : v ≤ 100000000) :
    copperplateref02_guess.l0 (k + 1) x n v (j : Int) = copperplateref02_guess.l0 k x n (64 * v + (by_ x).getD j 0 % 64) ((j + 1 : Nat) : Int) := by
  obtain ⟨e, e0, e1⟩ := bt_gd x j (by omega)
  rw [copperplateref02_guess.l0, if_pos (by omega), if_pos (by omega), if_pos (by omega), e, w64 (n := 64 * v) (by omega) (by omega), w64 (n := (by_ x).getD j 0) (by omega) (by omega), Int.tmod_eq_emod_of_nonneg e0, w64 (n := 64 * v + _) (by omega) (by omega), w64 (n := (j : Int) + 1) (by omega) (by omega), show (j : Int) + 1 = ((j + 1 : Nat) : Int) from rfl]
theorem guess_end (k : Nat) (x : ByteArray) (n : Nat) (v : Int) : copperplateref02_guess.l0 (k + 1) x n v ((n : Nat) : Int) = some v := by
  rw [copperplateref02_guess.l0, if_neg (by omega)]
theorem ref_guess (k : Nat) (x : ByteArray) (n : Nat) (h0 : 1 ≤ n) (h4 : n ≤ 4) (hn : n ≤ x.size) (hx : x.size ≤ 1000000) : copperplateref02_guess.f (k + 8) x n = some (gn (by_ x) n) := by
  obtain ⟨e, e0, e1⟩ := bt_gd x 0 (by omega)
  have e : bt x 0 = (by_ x).getD 0 0 := e
  have t : ∀ m : Int, Int.tmod (wrap64 (bt x 0)) m = (by_ x).getD 0 0 % m := fun m => by rw [e, w64 (by omega) (by omega), Int.tmod_eq_emod_of_nonneg e0]
  unfold copperplateref02_guess.f
  rw [t, t, copperplateref02_guess.j0, copperplateref02_guess.j0, copperplateref02_guess.j1, copperplateref02_guess.j1, copperplateref02_guess.j1, t]
  obtain ⟨c, hc⟩ : ∃ c, (by_ x).getD 0 0 = c := ⟨_, rfl⟩
  rw [hc] at e0 e1
  rcases (show n = 1 ∨ n = 2 ∨ n = 3 ∨ n = 4 by omega) with rfl | rfl | rfl | rfl
  · rw [if_pos (by rfl), if_pos (by omega), e, hc, w64 (by omega) (by omega)]
    show some c = some ((by_ x).getD 0 0)
    rw [hc]
  · rw [if_neg (by decide), if_pos (by omega), if_neg (by decide), if_neg (by decide), hc]
    have s1 := guess_step (k + 5) x 2 1 (c % 32) (by omega) hn hx (by omega) (by omega)
    have s2 := guess_end (k + 4) x 2 (64 * (c % 32) + (by_ x).getD 1 0 % 64)
    show copperplateref02_guess.l0 (k + 5 + 1) x ((2 : Nat) : Int) (c % 32) ((1 : Nat) : Int) = some (64 * ((by_ x).getD 0 0 % 32) + (by_ x).getD 1 0 % 64)
    rw [s1, hc]; exact s2
  · rw [if_neg (by decide), if_pos (by omega), if_pos (by rfl), if_neg (by decide), hc]
    have b1 := (bt_gd x 1 (by omega)).2
    have s1 := guess_step (k + 5) x 3 1 (c % 16) (by omega) hn hx (by omega) (by omega)
    have s2 := guess_step (k + 4) x 3 2 (64 * (c % 16) + (by_ x).getD 1 0 % 64) (by omega) hn hx (by omega) (by omega)
    have s3 := guess_end (k + 3) x 3 (64 * (64 * (c % 16) + (by_ x).getD 1 0 % 64) + (by_ x).getD 2 0 % 64)
    show copperplateref02_guess.l0 (k + 5 + 1) x ((3 : Nat) : Int) (c % 16) ((1 : Nat) : Int) = some (64 * (64 * ((by_ x).getD 0 0 % 16) + (by_ x).getD 1 0 % 64) + (by_ x).getD 2 0 % 64)
    rw [s1, hc]
    show copperplateref02_guess.l0 (k + 4 + 1) x ((3 : Nat) : Int) _ ((2 : Nat) : Int) = _
    rw [s2]; exact s3
  · rw [if_neg (by decide), if_pos (by omega), if_neg (by decide), if_pos (by rfl), if_pos (by omega), hc]
    have b1 := (bt_gd x 1 (by omega)).2
    have b2 := (bt_gd x 2 (by omega)).2
    have s1 := guess_step (k + 5) x 4 1 (c % 8) (by omega) hn hx (by omega) (by omega)
    have s2 := guess_step (k + 4) x 4 2 (64 * (c % 8) + (by_ x).getD 1 0 % 64) (by omega) hn hx (by omega) (by omega)
    have s3 := guess_step (k + 3) x 4 3 (64 * (64 * (c % 8) + (by_ x).getD 1 0 % 64) + (by_ x).getD 2 0 % 64) (by omega) hn hx (by omega) (by omega)
    have s4 := guess_end (k + 2) x 4 (64 * (64 * (64 * (c % 8) + (by_ x).getD 1 0 % 64) + (by_ x).getD 2 0 % 64) + (by_ x).getD 3 0 % 64)
    show copperplateref02_guess.l0 (k + 5 + 1) x ((4 : Nat) : Int) (c % 8) ((1 : Nat) : Int) = some (64 * (64 * (64 * ((by_ x).getD 0 0 % 8) + (by_ x).getD 1 0 % 64) + (by_ x).getD 2 0 % 64) + (by_ x).getD 3 0 % 64)
    rw [s1, hc]
    show copperplateref02_guess.l0 (k + 4 + 1) x ((4 : Nat) : Int) _ ((2 : Nat) : Int) = _
    rw [s2]
    show copperplateref02_guess.l0 (k + 3 + 1) x ((4 : Nat) : Int) _ ((3 : Nat) : Int) = _
    rw [s3]; exact s4
/-- Such a guess is right. -/
def Hit (l : List Int) (n : Nat) : Prop := isc (gn l n) = true ∧ enc (gn l n) = l.take n
theorem hit_nx {l : List Int} {n : Nat} (hn : n ≤ l.length) (h : Hit l n) : nxp isc l = (gn l n, n) := by
  have e : l = enc (gn l n) ++ l.drop n := by rw [h.2, List.take_append_drop]
  have hl : (enc (gn l n)).length = n := by rw [h.2, List.length_take]; omega
  conv => lhs; rw [e]
  rw [nxp_enc sort_isc h.1, hl]
theorem nx_hit {l : List Int} (h : (nxp isc l).2 ≠ 0) : Hit l (nxp isc l).2 ∧ gn l (nxp isc l).2 = (nxp isc l).1 := by
  obtain ⟨h1, h2, h3, h4⟩ := nxp_pos h
  obtain ⟨r, hr⟩ : ∃ r, (nxp isc l).1 = r := ⟨_, rfl⟩
  obtain ⟨K, hK⟩ : ∃ r, (nxp isc l).2 = r := ⟨_, rfl⟩
  rw [hr, hK] at h3
  rw [hr] at h1 h2 h4
  rw [hK] at h2 h4
  rw [hr, hK]
  have hv := isv_iff.1 (isv_of_isc h1)
  have g : gn l K = r := by
    rw [h3]
    unfold enc at h2 ⊢
    by_cases c1 : r < 128
    · rw [if_pos c1] at h2 ⊢
      subst h2; rfl
    by_cases c2 : r < 2048
    · rw [if_neg c1, if_pos c2] at h2 ⊢
      subst h2
      show 64 * ((192 + r / 64) % 32) + (128 + r % 64) % 64 = r
      omega
    by_cases c3 : r < 65536
    · rw [if_neg c1, if_neg c2, if_pos c3] at h2 ⊢
      subst h2
      show 64 * (64 * ((224 + r / 4096) % 16) + (128 + r / 64 % 64) % 64) + (128 + r % 64) % 64 = r
      omega
    · rw [if_neg c1, if_neg c2, if_neg c3] at h2 ⊢
      subst h2
      show 64 * (64 * (64 * ((240 + r / 262144) % 8) + (128 + r / 4096 % 64) % 64) + (128 + r / 64 % 64) % 64) + (128 + r % 64) % 64 = r
      omega
  refine ⟨⟨?_, ?_⟩, g⟩
  · rw [g]; exact h1
  · rw [g, h4]
theorem next_key (k : Nat) (s : ByteArray) (i n : Nat) (hs : s.size ≤ 1000000) (h0 : 1 ≤ n) (h4 : n ≤ 4) (hn : i + n ≤ s.size) (hx : by_ (s.extract i s.size) = at_ s i) (hsz : (s.extract i s.size).size = s.size - i) (P : ByteArray) (hP : copperplateref02_Put.f (gn (at_ s i) n) = some P) :
    copperplateref02_Next.l0 (k + 10) s i n = if P.toList = (s.extract i (i + n)).toList then some (gn (at_ s i) n, (n : Int)) else copperplateref02_Next.l0 (k + 8) s i ((n + 1 : Nat) : Int) := by
  rw [copperplateref02_Next.l0, if_pos (by omega), w64 (n := (s.size : Int) - (i : Int)) (by omega) (by omega), decide_eq_true (by omega), copperplateref02_Next.j2, if_pos rfl, if_pos (by omega), if_pos (by omega), Int.toNat_natCast, ref_guess k _ n h0 h4 (by omega) (by omega), hx]
  simp only [Option.bind_some]
  rw [hP, Option.bind_some]
  rw [w64 (n := (i : Int) + (n : Int)) (by omega) (by omega), if_pos (by omega), if_pos (by omega), show ((i : Int) + (n : Int)).toNat = i + n by omega, w64 (n := (n : Int) + 1) (by omega) (by omega), show (n : Int) + 1 = ((n + 1 : Nat) : Int) from rfl]
theorem next_step (k : Nat) (s : ByteArray) (i n : Nat) (hs : s.size ≤ 1000000) (h0 : 1 ≤ n) (h4 : n ≤ 4) (hn : i + n ≤ s.size) :
    (Hit (at_ s i) n → copperplateref02_Next.l0 (k + 10) s i n = some (gn (at_ s i) n, (n : Int))) ∧ (¬ Hit (at_ s i) n → copperplateref02_Next.l0 (k + 10) s i n = copperplateref02_Next.l0 (k + 8) s i ((n + 1 : Nat) : Int)) := by
  have hx : by_ (s.extract i s.size) = at_ s i := by
    have := own_by s i (s.size - i)
    rw [show i + (s.size - i) = s.size by omega] at this
    rw [this, List.take_of_length_le]
    have := at_length s i (by omega) (by omega)
    omega
  have hsz : (s.extract i s.size).size = s.size - i := by rw [ByteArray.size_extract]; omega
  have hT := own_by s i n
  have hlen := at_length s i (by omega) (by omega)
  rw [next_key k s i n hs h0 h4 hn hx hsz _ (ref_Put _)]
  constructor
  · intro h
    rw [if_pos]
    rw [if_pos h.1]
    congr 1
    refine by_inj ?_
    rw [by_ba (enc_range (isv_of_isc h.1)), h.2, hT]
  · intro h
    rw [if_neg]
    intro q
    apply h
    rw [Lib.toList_data, Lib.toList_data] at q
    have q := congrArg (fun l : List UInt8 => l.map fun b => (b.toNat : Int)) q
    have q : by_ (if isc (gn (at_ s i) n) = true then ba (enc (gn (at_ s i) n)) else ⟨#[]⟩) = by_ (s.extract i (i + n)) := q
    by_cases c : isc (gn (at_ s i) n) = true
    · rw [if_pos c, by_ba (enc_range (isv_of_isc c)), hT] at q
      exact ⟨c, q⟩
    · rw [if_neg c, hT] at q
      have := congrArg List.length q
      rw [List.length_take] at this
      have e : (by_ (⟨#[]⟩ : ByteArray)).length = 0 := rfl
      omega
theorem next_stop (k : Nat) (s : ByteArray) (i n : Nat) (hs : s.size ≤ 1000000) (hi : i ≤ s.size) (hn : n ≤ 1000) (h : 4 < n ∨ s.size < i + n) : copperplateref02_Next.l0 (k + 2) s i n = some (0, 0) := by
  rw [copperplateref02_Next.l0]
  by_cases q : (n : Int) ≤ 4
  · rw [if_pos q, w64 (n := (s.size : Int) - (i : Int)) (by omega) (by omega), decide_eq_false (by omega), copperplateref02_Next.j2, if_neg (by decide)]
  · rw [if_neg q, copperplateref02_Next.j2, if_neg (by decide)]
theorem next_loop (s : ByteArray) (i : Nat) (hs : s.size ≤ 1000000) (hi : i < s.size) : ∀ (j n k : Nat), n + j = 5 → 1 ≤ n → ((nxp isc (at_ s i)).2 = 0 ∨ n ≤ (nxp isc (at_ s i)).2) → copperplateref02_Next.l0 (k + 2 * j + 10) s i n = some ((nxp isc (at_ s i)).1, ((nxp isc (at_ s i)).2 : Int))
  | 0, n, k, h, h1, hK => by
    have := nxp_le isc (at_ s i)
    have h0 : (nxp isc (at_ s i)).2 = 0 := by omega
    have hz := nxp_zero h0
    rw [hz]
    exact next_stop (k + 8) s i n hs (by omega) (by omega) (.inl (by omega))
  | j + 1, n, k, h, h1, hK => by
    have hle := nxp_le isc (at_ s i)
    have hlen := at_length s i (by omega) (by omega)
    by_cases q : i + n ≤ s.size
    · have hst := next_step (k + 2 * (j + 1)) s i n hs h1 (by omega) q
      by_cases hh : Hit (at_ s i) n
      · rw [hst.1 hh, hit_nx (by omega) hh]
      · rw [hst.2 hh, show k + 2 * (j + 1) + 8 = k + 2 * j + 10 by omega]
        refine next_loop s i hs hi j (n + 1) k (by omega) (by omega) ?_
        by_cases h0 : (nxp isc (at_ s i)).2 = 0
        · exact .inl h0
        · have hx := nx_hit h0
          have : n ≠ (nxp isc (at_ s i)).2 := fun e => hh (by rw [e]; exact hx.1)
          omega
    · have h0 : (nxp isc (at_ s i)).2 = 0 := by omega
      have hz := nxp_zero h0
      rw [hz]
      exact next_stop (k + 2 * (j + 1) + 8) s i n hs (by omega) (by omega) (.inr (by omega))
theorem ref_Next (K : Nat) (hK : 20 ≤ K) (s : ByteArray) (i : Int) (hs : s.size ≤ 1000000) : copperplateref02_Next.f K s i = some (nxr s i, nxn s i) := by
  obtain ⟨k, rfl⟩ : ∃ k, K = k + 20 := ⟨K - 20, by omega⟩
  unfold copperplateref02_Next.f
  by_cases q1 : i < 0
  · rw [if_pos q1, copperplateref02_Next.j0, if_pos rfl, (nxn_out s i (.inl q1)).1, (nxn_out s i (.inl q1)).2]
  rw [if_neg q1]
  by_cases q2 : i ≥ (s.size : Int)
  · rw [decide_eq_true q2, copperplateref02_Next.j0, if_pos rfl, (nxn_out s i (.inr q2)).1, (nxn_out s i (.inr q2)).2]
  obtain ⟨n, rfl⟩ : ∃ n : Nat, i = n := ⟨i.toNat, by omega⟩
  rw [decide_eq_false q2, copperplateref02_Next.j0, if_neg (by decide)]
  have := next_loop s n hs (by omega) 4 1 (k + 1) (by omega) (by omega) (by omega)
  unfold nxr nxn
  rw [if_neg q1, if_neg q1]
  exact this
end Go.Proofs.YtcebkppagamjiaaDoor.G
namespace Go.Proofs.YtcebkppagamjiaaDoor.G
open Go.RowKit Go.Proofs.YtcebkppagamjiaaDoor.Y Go.Proofs.YtcebkppagamjiaaDoorW.PrintWords Go.Proofs.YtcebkppagamjiaaDoor.M
set_option linter.unusedVariables false
set_option linter.unusedSimpArgs false

theorem fq_Quote {s : ByteArray} (h : s.size ≤ 1000000) : quote_Quote.f s = some (ba (quo (by_ s)), mayp isv (by_ s)) := if_pos h
theorem fq_May {s : ByteArray} (h : s.size ≤ 1000000) : quote_May.f s = some (mayp isv (by_ s)) := if_pos h
theorem fq_Long {s : ByteArray} (h : s.size ≤ 1000000) : quote_Long.f s = some ((quo (by_ s)).length : Int) := if_pos h
theorem fu_May {s : ByteArray} (h : s.size ≤ 1000000) : utf_May.f s = some (mayp isc (by_ s)) := if_pos h
theorem mayv_one {c : Int} (h0 : 0 ≤ c) (h : c < 128) (l : List Int) : mayp isv (c :: l) = mayp isv l := by
  have := mayp_enc sort_isv (r := c) (isv_iff.2 (by omega)) l
  rw [enc_low h] at this
  exact this
theorem qb_one {c : Int} (h0 : 0 ≤ c) (h : c < 128) (l : List Int) : qb (c :: l) = oneQ c ++ qb l := by
  have := qb_enc (r := c) (isv_iff.2 (by omega)) l
  rw [enc_low h] at this
  exact this
theorem quo_yes {l : List Int} (h : mayp isv l = true) : quo l = 34 :: (qb l ++ [34]) := if_pos h
theorem quo_no {l : List Int} (h : mayp isv l = false) : quo l = [] := if_neg (by simp [h])
theorem quo_one {c : Int} (h0 : 0 ≤ c) (h : c < 128) : quo [c] = 34 :: (oneQ c ++ [34]) := by
  rw [quo_yes (by rw [mayv_one h0 h, mayp_nil]), qb_one h0 h, qb_nil, List.append_nil]
theorem mayv_alone {c : Int} (h : 128 ≤ c) : mayp isv [c] = false := by
  refine mayp_not (by simp) ?_
  by_cases q : (nxp isv [c]).2 = 0
  · exact q
  · exfalso
    have hh := (nxp_head q).2 (by omega)
    obtain ⟨k1, k2, k3, k4⟩ := nxp_pos q
    have hle := (nxp_le isv [c]).1
    have : 2 ≤ (enc (nxp isv [c]).1).length := by
      unfold enc
      rw [if_neg (by omega)]
      repeat' split
      all_goals simp
    simp at hle
    omega
theorem awake8 : copperplatelaw08_awake.f = some true := by
  have a1 : by_ (⟨#[97, 10, 34]⟩ : ByteArray) = [97, 10, 34] := rfl
  have a2 : by_ (⟨#[1]⟩ : ByteArray) = [1] := rfl
  have a3 : by_ (⟨#[255]⟩ : ByteArray) = [255] := rfl
  have a4 : by_ (⟨#[97]⟩ : ByteArray) = [97] := rfl
  have m1 : mayp isv [97, 10, 34] = true := by rw [mayv_one (by decide) (by decide), mayv_one (by decide) (by decide), mayv_one (by decide) (by decide), mayp_nil]
  have q1 : quo [97, 10, 34] = [34, 97, 92, 110, 92, 34, 34] := by
    rw [quo_yes m1, qb_one (by decide) (by decide), qb_one (by decide) (by decide), qb_one (by decide) (by decide), qb_nil]; decide
  have m2 : mayp isv [1] = true := by rw [mayv_one (by decide) (by decide), mayp_nil]
  have m3 : mayp isv [255] = false := mayv_alone (by decide)
  have q4 : (quo [97]).length = 3 := by rw [quo_one (by decide) (by decide)]; decide
  unfold copperplatelaw08_awake.f
  rw [fq_Quote (by decide), fq_May (by decide), fq_May (by decide), fq_Long (by decide), a1, a2, a3, a4, q1, m1, m2, m3, q4]
  simp only [Option.bind_some, Lib.toList_data]
  rfl
theorem qb_range {l : List Int} (h : mayp isv l = true) : ∀ c ∈ qb l, 0 ≤ c ∧ c ≤ 255 := by
  obtain ⟨rs, h1, h2⟩ := mayp_runes h
  rw [h2, qb_flat h1]
  intro c hc
  obtain ⟨r, hr, hcr⟩ := List.mem_flatMap.1 hc
  exact oneQ_range (h1 r hr) c hcr
theorem quo_range (l : List Int) : ∀ c ∈ quo l, 0 ≤ c ∧ c ≤ 255 := by
  intro c hc
  cases h : mayp isv l with
  | false => rw [quo_no h] at hc; cases hc
  | true =>
    rw [quo_yes h] at hc
    rcases List.mem_cons.1 hc with rfl | hc
    · omega
    · rcases List.mem_append.1 hc with hc | hc
      · exact qb_range h c hc
      · rw [List.mem_singleton.1 hc]; omega
/-- The document's length of a character. -/
theorem len_isv (l : List Int) (hl : l ≠ []) (h0 : ∀ c ∈ l, 0 ≤ c) : (nxp isv l).2 = if l.getD 0 0 < 32 then 1 else (nxp isc l).2 := by
  match l, hl with
  | c :: m, _ =>
    have hc := h0 c (by simp)
    show _ = if c < 32 then 1 else _
    by_cases h : c < 32
    · rw [if_pos h, nxp_low (by omega), if_pos (isv_iff.2 (by omega))]
    · rw [if_neg h, nx_of_nv]
      by_cases q : (nxp isv (c :: m)).2 = 0
      · rw [nxp_zero q, if_neg (by decide)]
      · obtain ⟨k1, _⟩ := nxp_pos q
        have hh := nxp_head q
        have hv := isv_iff.1 k1
        rw [if_pos (isc_iff.2 (by omega))]
theorem ref_length (K : Nat) (hK : 20 ≤ K) (s : ByteArray) (k : Nat) (hs : s.size ≤ 1000000) (hk : k < s.size) : copperplateref08_length.f K s k = some (((nxp isv (at_ s k)).2 : Nat) : Int) := by
  have hc := at_cons s k (by omega) (by omega)
  have e := len_isv (at_ s k) (by rw [hc]; simp) (fun c h => (at_range s k c h).1)
  rw [show (at_ s k).getD 0 0 = bt s k by rw [hc]; rfl] at e
  unfold copperplateref08_length.f
  rw [if_pos (by omega), if_pos (by omega)]
  by_cases h : bt s k < 32
  · rw [if_pos h]
    rw [if_pos h] at e
    rw [e]; rfl
  · rw [if_neg h] at e
    rw [if_neg h, ref_Next K hK s k hs, Option.bind_some, e]
    show some (nxn s k) = _
    unfold nxn
    rw [if_neg (by omega)]
theorem ref_May8 (s : ByteArray) (hs : s.size ≤ 1000000) : ∀ (r k K : Nat), k + r = s.size → r + 30 ≤ K → copperplateref08_May.l0 K s k = some (mayp isv (at_ s k)) := by
  intro r
  induction r using Nat.strongRecOn with
  | _ r ih =>
    intro k K h hK
    obtain ⟨j, rfl⟩ : ∃ j, K = j + 1 := ⟨K - 1, by omega⟩
    rw [copperplateref08_May.l0]
    by_cases h0 : k = s.size
    · rw [if_neg (by omega), at_nil s k (by omega), mayp_nil]
    have hk : k < s.size := by omega
    have hne : at_ s k ≠ [] := by rw [at_cons s k (by omega) (by omega)]; simp
    rw [if_pos (by omega), ref_length j (by omega) s k hs hk, Option.bind_some]
    by_cases q : (nxp isv (at_ s k)).2 = 0
    · rw [if_pos (by omega), mayp_not hne q]
    · have hle := (nxp_le isv (at_ s k)).1
      have hl := at_length s k (by omega) (by omega)
      rw [if_neg (by omega), mayp_step q, ← at_add s k _ (by omega), w64 (by omega) (by omega)]
      exact ih (r - (nxp isv (at_ s k)).2) (by omega) (k + (nxp isv (at_ s k)).2) j (by omega) (by omega)
theorem one8_oneQ (x : ByteArray) (r : Int) (hr : isv r = true) (h : by_ x = enc r) : one8 x = ba (oneQ r) := by
  have hv := isv_iff.1 hr
  have hx : x = ba (enc r) := by rw [← h, ba_by]
  have hb : ∀ c m, enc r = c :: m → bt x 0 = c := fun c m e => by
    have := bt_by x 0 (by have := by_length x; rw [h, e] at this; simp at this; show 0 < x.size; omega)
    rw [h, e] at this
    exact (Option.some.inj this).symm
  unfold one8 oneQ
  by_cases q : r < 128
  · have e := hb r [] (enc_low q)
    rw [e]
    repeat' split
    all_goals first
      | rfl
      | omega
      | exact hx
  · have hh : 128 ≤ bt x 0 := by
      cases he : enc r with
      | nil => exact absurd he (enc_ne r)
      | cons c m =>
        rw [hb c m he]
        exact (enc_high hr q c (by rw [he]; simp)).1
    rw [if_neg (by omega), if_neg (by omega), if_neg (by omega), if_neg (by omega), if_neg (by omega), if_neg (by omega), if_neg (by omega), if_neg (by omega),
      if_neg (by omega), if_neg (by omega), if_neg (by omega), if_neg (by omega), if_neg (by omega), if_neg (by omega), if_neg (by omega), if_neg (by omega)]
    exact hx
theorem ref_Quote8 (s : ByteArray) (hs : s.size ≤ 1000000) : ∀ (r k K : Nat) (x : ByteArray), k + r = s.size → r + 30 ≤ K → x.size + 6 * r ≤ 10000000 → mayp isv (at_ s k) = true →
    copperplateref08_Quote.l0 K s x k = some (x ++ ba (qb (at_ s k)) ++ ⟨#[34]⟩, true) := by
  intro r
  induction r using Nat.strongRecOn with
  | _ r ih =>
    intro k K x h hK hx hm
    obtain ⟨j, rfl⟩ : ∃ j, K = j + 1 := ⟨K - 1, by omega⟩
    rw [copperplateref08_Quote.l0]
    by_cases h0 : k = s.size
    · rw [if_neg (by omega), if_pos (by omega), at_nil s k (by omega), qb_nil, ba_nil, show x ++ (⟨#[]⟩ : ByteArray) = x from ByteArray.append_empty]
    have hk : k < s.size := by omega
    have hne : at_ s k ≠ [] := by rw [at_cons s k (by omega) (by omega)]; simp
    have hn := mayp_take hm hne
    obtain ⟨k1, k2, k3, k4⟩ := nxp_pos hn
    have hle := nxp_le isv (at_ s k)
    have hl := at_length s k (by omega) (by omega)
    have hst := mayp_step hn
    have hq := qb_step hn
    obtain ⟨R, hR⟩ : ∃ R, (nxp isv (at_ s k)).1 = R := ⟨_, rfl⟩
    obtain ⟨n, hN⟩ : ∃ R, (nxp isv (at_ s k)).2 = R := ⟨_, rfl⟩
    rw [hR] at k1 k2 k3 k4 hq
    rw [hN] at hn hle hst k2 k3 k4 hq
    have hown : by_ (s.extract k (k + n)) = enc R := by rw [own_by, k4]
    have h1 := one8_oneQ (s.extract k (k + n)) R k1 hown
    have hlen := oneQ_len R
    rw [if_pos (by omega), ref_length j (by omega) s k hs hk, hN, Option.bind_some, w64 (by omega) (by omega), if_pos (by omega), if_pos (by omega), if_pos (by omega), Int.toNat_natCast, show ((k : Int) + (n : Int)).toNat = k + n by omega]
    have hf : copperplateref08_one.f (s.extract k (k + n)) = some (ba (oneQ R)) := by
      unfold copperplateref08_one.f
      rw [if_pos (by rw [ByteArray.size_extract]; omega), h1]
    rw [hf, Option.bind_some, if_pos (by rw [ba_size]; omega), show (k : Int) + (n : Int) = ((k + n : Nat) : Int) by omega]
    have hat : at_ s ((k + n : Nat) : Int) = (at_ s k).drop n := by rw [← at_add s k n (by omega)]; rfl
    rw [ih (r - n) (by omega) (k + n) j (x ++ ba (oneQ R)) (by omega) (by omega) (by rw [ByteArray.size_append, ba_size]; omega) (by rw [hat, ← hst]; exact hm), hat, hq, ba_append]
    simp only [ByteArray.append_assoc]
theorem ref_Quote (K : Nat) (s : ByteArray) (hs : s.size ≤ 1000000) (hK : s.size + 40 ≤ K) : copperplateref08_Quote.f K s = some (ba (quo (by_ s)), mayp isv (by_ s)) := by
  unfold copperplateref08_Quote.f copperplateref08_May.f
  have hM := ref_May8 s hs s.size 0 K (by omega) (by omega)
  rw [show ((0 : Nat) : Int) = 0 from rfl, at_zero] at hM
  rw [hM, Option.bind_some]
  cases h : mayp isv (by_ s) with
  | false => rw [if_neg (by decide), quo_no h]; rfl
  | true =>
    have hQ := ref_Quote8 s hs s.size 0 K ⟨#[34]⟩ (by omega) (by omega) (by show 1 + _ ≤ _; omega) (by rw [show ((0 : Nat) : Int) = 0 from rfl, at_zero]; exact h)
    rw [show ((0 : Nat) : Int) = 0 from rfl, at_zero] at hQ
    rw [if_pos rfl, hQ, quo_yes h]
    congr 2
    refine by_inj ?_
    rw [by_append, by_append, by_ba (qb_range h), by_ba (by rw [← quo_yes h]; exact quo_range _)]
    rfl
theorem quoteTells_pure : copperplatelaw08_QuoteTells.Pure := by
  intro s hs
  refine ⟨s.size + 41, ?_⟩
  unfold copperplatelaw08_QuoteTells.f
  rw [awake8]
  simp only [Option.bind_some, if_true]
  rw [copperplatelaw08_QuoteTells.j0]
  by_cases h1 : (s.size : Int) > 600
  · rw [decide_eq_true h1, if_pos rfl]
  have hsz : s.size ≤ 1000000 := by omega
  have a1 := fq_Quote hsz
  have a2 := ref_Quote (s.size + 40) s hsz (by omega)
  have a3 := ref_May8 s hsz s.size 0 (s.size + 40) (by omega) (by omega)
  rw [show ((0 : Nat) : Int) = 0 from rfl, at_zero] at a3
  have a4 := fq_May hsz
  have a5 := fq_Long hsz
  rw [decide_eq_false h1, if_neg (by decide), a1, a2]
  unfold copperplateref08_May.f copperplateref08_Long.f
  rw [a3, a4, a5, a2]
  simp only [Option.bind_some, if_true, beq_self_eq_true, ba_size]
end Go.Proofs.YtcebkppagamjiaaDoor.G
namespace Go.Proofs.YtcebkppagamjiaaDoor.G
open Go.RowKit Go.Proofs.YtcebkppagamjiaaDoor.Y Go.Proofs.YtcebkppagamjiaaDoorW.PrintWords Go.Proofs.YtcebkppagamjiaaDoor.M
set_option linter.unusedVariables false
set_option linter.unusedSimpArgs false

theorem toList_eq (a b : ByteArray) : (a.toList == b.toList) = decide (a = b) := by
  rw [Bool.eq_iff_iff, beq_iff_eq, decide_eq_true_eq]
  constructor
  · intro h
    rw [Lib.toList_data, Lib.toList_data] at h
    refine by_inj ?_
    unfold by_; rw [h]
  · rintro rfl; rfl
theorem quoteApart_pure : copperplatelaw08_QuoteApart.Pure := by
  intro a b ha hb
  refine ⟨1, ?_⟩
  unfold copperplatelaw08_QuoteApart.f
  rw [awake8]
  simp only [Option.bind_some, if_true]
  by_cases h1 : (a.size : Int) > 300
  · rw [if_pos h1, copperplatelaw08_QuoteApart.j0, if_pos rfl]
  rw [if_neg h1]
  by_cases h2 : (b.size : Int) > 300
  · rw [decide_eq_true h2, copperplatelaw08_QuoteApart.j0, if_pos rfl]
  rw [decide_eq_false h2, copperplatelaw08_QuoteApart.j0, if_neg (by decide), fq_Quote (s := a) (by omega), fq_Quote (s := b) (by omega)]
  simp only [Option.bind_some]
  cases ma : mayp isv (by_ a) with
  | false => rw [if_neg (by decide)]
  | true =>
    cases mb : mayp isv (by_ b) with
    | false => rw [if_pos rfl, if_neg (by decide)]; rfl
    | true =>
      have la : (quo (by_ a)).length = (qb (by_ a)).length + 2 := by rw [quo_yes ma]; simp
      have lb : (quo (by_ b)).length = (qb (by_ b)).length + 2 := by rw [quo_yes mb]; simp
      have za := (qb_len ma).2
      have zb := (qb_len mb).2
      rw [by_length] at za zb
      have mab : mayp isv (by_ (a ++ b)) = true := by rw [by_append]; exact mayv_append ma mb
      have hq : quo (by_ (a ++ b)) = 34 :: (qb (by_ a) ++ (qb (by_ b) ++ [34])) := by
        rw [quo_yes mab, by_append, qb_append ma, List.append_assoc]
      rw [if_pos rfl, if_pos rfl, if_neg (by rw [ba_size]; omega), if_neg (by rw [ba_size]; omega), if_pos (by omega), fq_Quote (s := a ++ b) (by rw [ByteArray.size_append]; omega), mab]
      simp only [Option.bind_some]
      have e1 : ((ba (quo (by_ a))).toList == (ba (quo (by_ b))).toList) = (a.toList == b.toList) := by
        rw [toList_eq, toList_eq, decide_eq_decide]
        constructor
        · intro h
          have h := congrArg by_ h
          rw [by_ba (quo_range _), by_ba (quo_range _), quo_yes ma, quo_yes mb] at h
          simp only [List.cons.injEq, true_and] at h
          have h := List.append_inj_left' h rfl
          exact by_inj (qb_inj ma mb h)
        · rintro rfl; rfl
      rw [e1]
      have w1 : wrap64 ((((ba (quo (by_ a))).size : Nat) : Int) - 1) = (((qb (by_ a)).length + 1 : Nat) : Int) := by rw [ba_size, la, w64 (by omega) (by omega)]; omega
      rw [w1, if_pos (by simp), if_pos trivial, if_pos (by omega), if_pos (by rw [ba_size]; omega), if_pos (by rw [ba_size]; omega)]
      have xa : by_ ((ba (quo (by_ a))).extract 0 ((((qb (by_ a)).length + 1 : Nat) : Int)).toNat) = 34 :: qb (by_ a) := by
        rw [by_extract, by_ba (quo_range _), quo_yes ma, Int.toNat_natCast, List.drop_zero, List.take_succ_cons, List.take_left]
      have xb : by_ ((ba (quo (by_ b))).extract 1 (ba (quo (by_ b))).size) = qb (by_ b) ++ [34] := by
        rw [by_extract, by_ba (quo_range _), ba_size, List.take_length, quo_yes mb]; rfl
      rw [if_pos (by rw [← by_length, ← by_length, xa, xb]; simp; omega)]
      congr 1
      rw [beq_iff_eq]
      congr 1
      refine by_inj ?_
      rw [by_ba (quo_range _), hq, by_append, xa, xb]
      rfl
theorem plain_loop (s : ByteArray) (hs : s.size ≤ 600) : ∀ (r k K : Nat), k + r = s.size → r + 2 ≤ K → (∀ c ∈ (by_ s).take k, 32 ≤ c ∧ c ≠ 34 ∧ c ≠ 92) → copperplatelaw08_QuotePlain.l0 K s k = some true := by
  intro r
  induction r with
  | zero =>
    intro k K h hK hp
    obtain ⟨j, rfl⟩ : ∃ j, K = j + 1 := ⟨K - 1, by omega⟩
    have hall : ∀ c ∈ by_ s, 32 ≤ c ∧ c ≠ 34 ∧ c ≠ 92 := by
      rw [List.take_of_length_le (by rw [by_length]; omega)] at hp; exact hp
    have hm := mayv_low (by_ s) (fun c hc => (hall c hc).1)
    rw [copperplatelaw08_QuotePlain.l0, if_neg (by omega), fq_Quote (s := s) (by omega), fu_May (s := s) (by omega), fq_May (s := s) (by omega), ← hm]
    simp only [Option.bind_some, beq_self_eq_true, if_true]
    cases ma : mayp isv (by_ s) with
    | false => rw [if_neg (by decide)]
    | true =>
      rw [if_pos rfl, if_pos (by omega), if_pos (by rw [ByteArray.size_append]; show 1 + s.size + 1 ≤ _; omega)]
      congr 1
      rw [beq_iff_eq]
      congr 1
      refine by_inj ?_
      rw [by_ba (quo_range _), quo_yes ma, qb_plain hall ma, by_append, by_append]
      rfl
  | succ r ih =>
    intro k K h hK hp
    obtain ⟨j, rfl⟩ : ∃ j, K = j + 1 := ⟨K - 1, by omega⟩
    rw [copperplatelaw08_QuotePlain.l0, if_pos (by omega), if_pos (by omega)]
    by_cases c1 : bt s k < 32
    · rw [if_pos c1]
    rw [if_neg c1]
    by_cases c2 : bt s k = 34
    · rw [if_pos c2]
    rw [if_neg c2]
    by_cases c3 : bt s k = 92
    · rw [if_pos c3]
    rw [if_neg c3, w64 (by omega) (by omega)]
    refine ih (k + 1) j (by omega) (by omega) ?_
    intro c hc
    have hg := bt_by s k (by omega)
    rw [Int.toNat_natCast] at hg
    rw [List.take_add_one, hg] at hc
    rcases List.mem_append.1 hc with hc | hc
    · exact hp c hc
    · simp only [Option.toList_some, List.mem_singleton] at hc
      subst hc
      exact ⟨by omega, c2, c3⟩
theorem quotePlain_pure : copperplatelaw08_QuotePlain.Pure := by
  intro s hs
  refine ⟨s.size + 3, ?_⟩
  unfold copperplatelaw08_QuotePlain.f
  rw [awake8]
  simp only [Option.bind_some, if_true]
  rw [copperplatelaw08_QuotePlain.j0]
  by_cases h1 : (s.size : Int) > 600
  · rw [decide_eq_true h1, if_pos rfl]
  rw [decide_eq_false h1, if_neg (by decide)]
  exact plain_loop s (by omega) s.size 0 (s.size + 2) (by omega) (by omega) (fun c hc => by rw [List.take_zero] at hc; cases hc)
end Go.Proofs.YtcebkppagamjiaaDoor.G
