/-
  The document's layer 2, over what its text computes.
-/
import Derived.Test.YtjgpmfjkcioinaaGreatDoorPLGG10
import Derived.Test.YtjgpmfjkcioinaaGreatDoorPLV3
import Derived.IntWalk
import Derived.Test.YtjgpmfjkcioinaaGreatDoorPLQ4
import Derived.Test.YtjgpmfjkcioinaaGreatDoorPLQ5
import Derived.Test.YtjgpmfjkcioinaaGreatDoorPLQ12
namespace Go.Proofs.YtjgpmfjkcioinaaGreatDoor.G
open Go.RowKit Go.Proofs.YtjgpmfjkcioinaaGreatDoor.Q Go.Proofs.YtjgpmfjkcioinaaGreatDoorW.PrintWords Go.Proofs.YtjgpmfjkcioinaaGreatDoor.M
set_option linter.unusedVariables false
set_option linter.unusedSimpArgs false
theorem bt_range' (s : ByteArray) (n : Nat) (h : n < s.size) : 0 ≤ bt s n ∧ bt s n ≤ 255 := bt_range s n
theorem own_by (s : ByteArray) (n K : Nat) : by_ (s.extract n (n + K)) = (at_ s n).take K := by
  rw [by_extract]
  unfold at_
  rw [Int.toNat_natCast, List.drop_take, Nat.add_sub_cancel_left]
theorem w64 {n : Int} (h0 : -9223372036854775808 ≤ n) (h1 : n ≤ 9223372036854775807) : wrap64 n = n := IntWalk.wrap64_in n ⟨h0, h1⟩
theorem bt_in (s : ByteArray) (n : Nat) (h : n < s.size) : 0 ≤ bt s n ∧ bt s n ≤ 255 := bt_range' s n h
theorem ref_is (r : Int) : copperplateref02_is.f r = some (isc r) := by
  unfold copperplateref02_is.f
  repeat' split
  all_goals
    congr 1
    symm
    first
      | (rw [isc_iff]; omega)
      | (rw [← Bool.not_eq_true, isc_iff]; omega)
      | (rw [Bool.eq_iff_iff, isc_iff, decide_eq_true_eq]; omega)
theorem ref_Put (r : Int) : copperplateref02_Put.f r = some (if isc r = true then ba (enc r) else ⟨#[]⟩) := by
  unfold copperplateref02_Put.f
  rw [ref_is]
  simp only [Option.bind_some]
  cases h : isc r with
  | false => rfl
  | true =>
    have hv := isv_iff.1 (isv_of_isc h)
    simp only [if_true]
    unfold enc
    have t1 : ∀ m : Int, 0 < m → Int.tdiv r m = r / m := fun m hm => Int.tdiv_eq_ediv_of_nonneg (by omega)
    have t2 : ∀ q m : Int, 0 ≤ q → Int.tmod q m = q % m := fun q m hq => Int.tmod_eq_emod_of_nonneg hq
    by_cases c1 : r < 128
    · rw [if_pos c1, if_pos c1, show r % 256 = r by omega]; rfl
    by_cases c2 : r < 2048
    · rw [if_neg c1, if_pos c2, if_neg c1, if_pos c2, t1 64 (by omega), t2 r 64 (by omega), w64 (n := r / 64) (by omega) (by omega), w64 (n := 192 + r / 64) (by omega) (by omega), w64 (n := 128 + r % 64) (by omega) (by omega),
        show (192 + r / 64) % 256 = 192 + r / 64 by omega, show (128 + r % 64) % 256 = 128 + r % 64 by omega]; rfl
    by_cases c3 : r < 65536
    · rw [if_neg c1, if_neg c2, if_pos c3, if_neg c1, if_neg c2, if_pos c3, t1 64 (by omega), t1 4096 (by omega), w64 (n := r / 64) (by omega) (by omega), w64 (n := r / 4096) (by omega) (by omega), t2 r 64 (by omega), t2 (r / 64) 64 (by omega),
        w64 (n := 224 + r / 4096) (by omega) (by omega), w64 (n := 128 + r / 64 % 64) (by omega) (by omega), w64 (n := 128 + r % 64) (by omega) (by omega),
        show (224 + r / 4096) % 256 = 224 + r / 4096 by omega, show (128 + r / 64 % 64) % 256 = 128 + r / 64 % 64 by omega, show (128 + r % 64) % 256 = 128 + r % 64 by omega]; rfl
    · rw [if_neg c1, if_neg c2, if_neg c3, if_neg c1, if_neg c2, if_neg c3, t1 64 (by omega), t1 4096 (by omega), t1 262144 (by omega), w64 (n := r / 64) (by omega) (by omega), w64 (n := r / 4096) (by omega) (by omega), w64 (n := r / 262144) (by omega) (by omega), t2 r 64 (by omega), t2 (r / 64) 64 (by omega), t2 (r / 4096) 64 (by omega),
        w64 (n := 240 + r / 262144) (by omega) (by omega), w64 (n := 128 + r / 4096 % 64) (by omega) (by omega), w64 (n := 128 + r / 64 % 64) (by omega) (by omega), w64 (n := 128 + r % 64) (by omega) (by omega),
        show (240 + r / 262144) % 256 = 240 + r / 262144 by omega, show (128 + r / 4096 % 64) % 256 = 128 + r / 4096 % 64 by omega, show (128 + r / 64 % 64) % 256 = 128 + r / 64 % 64 by omega, show (128 + r % 64) % 256 = 128 + r % 64 by omega]; rfl
def gn (l : List Int) : Nat → Int
  | 1 => l.getD 0 0
  | 2 => 64 * (l.getD 0 0 % 32) + l.getD 1 0 % 64
  | 3 => 64 * (64 * (l.getD 0 0 % 16) + l.getD 1 0 % 64) + l.getD 2 0 % 64
  | _ => 64 * (64 * (64 * (l.getD 0 0 % 8) + l.getD 1 0 % 64) + l.getD 2 0 % 64) + l.getD 3 0 % 64
theorem bt_gd (x : ByteArray) (j : Nat) (h : j < x.size) : bt x j = (by_ x).getD j 0 ∧ 0 ≤ (by_ x).getD j 0 ∧ (by_ x).getD j 0 ≤ 255 := by
  have e : bt x j = (by_ x).getD j 0 := by
    have := bt_by x j (by omega)
    rw [Int.toNat_natCast] at this
    rw [List.getD_eq_getElem?_getD, this]; rfl
  have := bt_range' x j h
  rw [← e]; exact ⟨rfl, this⟩
theorem guess_step (k : Nat) (x : ByteArray) (n : Nat) (j : Nat) (v : Int) (hj : j < n) (hn : n ≤ x.size) (hx : x.size ≤ 1000000) (h0 : 0 ≤ v) (h1 : v ≤ 100000000) :
    copperplateref02_guess.l0 (k + 1) x n v (j : Int) = copperplateref02_guess.l0 k x n (64 * v + (by_ x).getD j 0 % 64) ((j + 1 : Nat) : Int) := by
  obtain ⟨e, e0, e1⟩ := bt_gd x j (by omega)
  rw [copperplateref02_guess.l0, if_pos (by omega), if_pos (by omega), if_pos (by omega), e, w64 (n := 64 * v) (by omega) (by omega), w64 (n := (by_ x).getD j 0) (by omega) (by omega), Int.tmod_eq_emod_of_nonneg e0, w64 (n := 64 * v + _) (by omega) (by omega), w64 (n := (j : Int) + 1) (by omega) (by omega), show (j : Int) + 1 = ((j + 1 : Nat) : Int) from rfl]
theorem guess_end (k : Nat) (x : ByteArray) (n : Nat) (v : Int) : copperplateref02_guess.l0 (k + 1) x n v ((n : Nat) : Int) = some v := by
  rw [copperplateref02_guess.l0, if_neg (by omega)]
theorem ref_guess (k : Nat) (x : ByteArray) (n : Nat) (h0 : 1 ≤ n) (h4 : n ≤ 4) (hn : n ≤ x.size) (hx : x.size ≤ 1000000) : copperplateref02_guess.f (k + 8) x n = some (gn (by_ x) n) := by
  obtain ⟨e, e0, e1⟩ := bt_gd x 0 (by omega)
  have e : bt x 0 = (by_ x).getD 0 0 := e
  have t : ∀ m : Int, Int.tmod (wrap64 (bt x 0)) m = (by_ x).getD 0 0 % m := fun m => by rw [e, w64 (by omega) (by omega), Int.tmod_eq_emod_of_nonneg e0]
  unfold copperplateref02_guess.f
  rw [t, t, copperplateref02_guess.j0, copperplateref02_guess.j0, copperplateref02_guess.j1, copperplateref02_guess.j1, copperplateref02_guess.j1, t]
  obtain ⟨c, hc⟩ : ∃ c, (by_ x).getD 0 0 = c := ⟨_, rfl⟩
  rw [hc] at e0 e1
  rcases (show n = 1 ∨ n = 2 ∨ n = 3 ∨ n = 4 by omega) with rfl | rfl | rfl | rfl
  · rw [if_pos (by rfl), if_pos (by omega), e, hc, w64 (by omega) (by omega)]
    show some c = some ((by_ x).getD 0 0)
    rw [hc]
  · rw [if_neg (by decide), if_pos (by omega), if_neg (by decide), if_neg (by decide), hc]
    have s1 := guess_step (k + 5) x 2 1 (c % 32) (by omega) hn hx (by omega) (by omega)
    have s2 := guess_end (k + 4) x 2 (64 * (c % 32) + (by_ x).getD 1 0 % 64)
    show copperplateref02_guess.l0 (k + 5 + 1) x ((2 : Nat) : Int) (c % 32) ((1 : Nat) : Int) = some (64 * ((by_ x).getD 0 0 % 32) + (by_ x).getD 1 0 % 64)
    rw [s1, hc]; exact s2
  · rw [if_neg (by decide), if_pos (by omega), if_pos (by rfl), if_neg (by decide), hc]
    have b1 := (bt_gd x 1 (by omega)).2
    have s1 := guess_step (k + 5) x 3 1 (c % 16) (by omega) hn hx (by omega) (by omega)
    have s2 := guess_step (k + 4) x 3 2 (64 * (c % 16) + (by_ x).getD 1 0 % 64) (by omega) hn hx (by omega) (by omega)
    have s3 := guess_end (k + 3) x 3 (64 * (64 * (c % 16) + (by_ x).getD 1 0 % 64) + (by_ x).getD 2 0 % 64)
    show copperplateref02_guess.l0 (k + 5 + 1) x ((3 : Nat) : Int) (c % 16) ((1 : Nat) : Int) = some (64 * (64 * ((by_ x).getD 0 0 % 16) + (by_ x).getD 1 0 % 64) + (by_ x).getD 2 0 % 64)
    rw [s1, hc]
    show copperplateref02_guess.l0 (k + 4 + 1) x ((3 : Nat) : Int) _ ((2 : Nat) : Int) = _
    rw [s2]; exact s3
  · rw [if_neg (by decide), if_pos (by omega), if_neg (by decide), if_pos (by rfl), if_pos (by omega), hc]
    have b1 := (bt_gd x 1 (by omega)).2
    have b2 := (bt_gd x 2 (by omega)).2
    have s1 := guess_step (k + 5) x 4 1 (c % 8) (by omega) hn hx (by omega) (by omega)
    have s2 := guess_step (k + 4) x 4 2 (64 * (c % 8) + (by_ x).getD 1 0 % 64) (by omega) hn hx (by omega) (by omega)
    have s3 := guess_step (k + 3) x 4 3 (64 * (64 * (c % 8) + (by_ x).getD 1 0 % 64) + (by_ x).getD 2 0 % 64) (by omega) hn hx (by omega) (by omega)
    have s4 := guess_end (k + 2) x 4 (64 * (64 * (64 * (c % 8) + (by_ x).getD 1 0 % 64) + (by_ x).getD 2 0 % 64) + (by_ x).getD 3 0 % 64)
    show copperplateref02_guess.l0 (k + 5 + 1) x ((4 : Nat) : Int) (c % 8) ((1 : Nat) : Int) = some (64 * (64 * (64 * ((by_ x).getD 0 0 % 8) + (by_ x).getD 1 0 % 64) + (by_ x).getD 2 0 % 64) + (by_ x).getD 3 0 % 64)
    rw [s1, hc]
    show copperplateref02_guess.l0 (k + 4 + 1) x ((4 : Nat) : Int) _ ((2 : Nat) : Int) = _
    rw [s2]
    show copperplateref02_guess.l0 (k + 3 + 1) x ((4 : Nat) : Int) _ ((3 : Nat) : Int) = _
    rw [s3]; exact s4
def Hit (l : List Int) (n : Nat) : Prop := isc (gn l n) = true ∧ enc (gn l n) = l.take n
theorem hit_nx {l : List Int} {n : Nat} (hn : n ≤ l.length) (h : Hit l n) : nxp isc l = (gn l n, n) := by
  have e : l = enc (gn l n) ++ l.drop n := by rw [h.2, List.take_append_drop]
  have hl : (enc (gn l n)).length = n := by rw [h.2, List.length_take]; omega
  conv => lhs; rw [e]
  rw [nxp_enc sort_isc h.1, hl]
theorem nx_hit {l : List Int} (h : (nxp isc l).2 ≠ 0) : Hit l (nxp isc l).2 ∧ gn l (nxp isc l).2 = (nxp isc l).1 := by
  obtain ⟨h1, h2, h3, h4⟩ := nxp_pos h
  obtain ⟨r, hr⟩ : ∃ r, (nxp isc l).1 = r := ⟨_, rfl⟩
  obtain ⟨K, hK⟩ : ∃ r, (nxp isc l).2 = r := ⟨_, rfl⟩
  rw [hr, hK] at h3
  rw [hr] at h1 h2 h4
  rw [hK] at h2 h4
  rw [hr, hK]
  have hv := isv_iff.1 (isv_of_isc h1)
  have g : gn l K = r := by
    rw [h3]
    unfold enc at h2 ⊢
    by_cases c1 : r < 128
    · rw [if_pos c1] at h2 ⊢
      subst h2; rfl
    by_cases c2 : r < 2048
    · rw [if_neg c1, if_pos c2] at h2 ⊢
      subst h2
      show 64 * ((192 + r / 64) % 32) + (128 + r % 64) % 64 = r
      omega
    by_cases c3 : r < 65536
    · rw [if_neg c1, if_neg c2, if_pos c3] at h2 ⊢
      subst h2
      show 64 * (64 * ((224 + r / 4096) % 16) + (128 + r / 64 % 64) % 64) + (128 + r % 64) % 64 = r
      omega
    · rw [if_neg c1, if_neg c2, if_neg c3] at h2 ⊢
      subst h2
      show 64 * (64 * (64 * ((240 + r / 262144) % 8) + (128 + r / 4096 % 64) % 64) + (128 + r / 64 % 64) % 64) + (128 + r % 64) % 64 = r
      omega
  refine ⟨⟨?_, ?_⟩, g⟩
  · rw [g]; exact h1
  · rw [g, h4]
theorem next_key (k : Nat) (s : ByteArray) (i n : Nat) (hs : s.size ≤ 1000000) (h0 : 1 ≤ n) (h4 : n ≤ 4) (hn : i + n ≤ s.size) (hx : by_ (s.extract i s.size) = at_ s i) (hsz : (s.extract i s.size).size = s.size - i) (P : ByteArray) (hP : copperplateref02_Put.f (gn (at_ s i) n) = some P) :
    copperplateref02_Next.l0 (k + 10) s i n = if P.toList = (s.extract i (i + n)).toList then some (gn (at_ s i) n, (n : Int)) else copperplateref02_Next.l0 (k + 8) s i ((n + 1 : Nat) : Int) := by
  rw [copperplateref02_Next.l0, if_pos (by omega), w64 (n := (s.size : Int) - (i : Int)) (by omega) (by omega), decide_eq_true (by omega), copperplateref02_Next.j2, if_pos rfl, if_pos (by omega), if_pos (by omega), Int.toNat_natCast, ref_guess k _ n h0 h4 (by omega) (by omega), hx]
  simp only [Option.bind_some]
  rw [hP, Option.bind_some]
  rw [w64 (n := (i : Int) + (n : Int)) (by omega) (by omega), if_pos (by omega), if_pos (by omega), show ((i : Int) + (n : Int)).toNat = i + n by omega, w64 (n := (n : Int) + 1) (by omega) (by omega), show (n : Int) + 1 = ((n + 1 : Nat) : Int) from rfl]
theorem next_step (k : Nat) (s : ByteArray) (i n : Nat) (hs : s.size ≤ 1000000) (h0 : 1 ≤ n) (h4 : n ≤ 4) (hn : i + n ≤ s.size) :
    (Hit (at_ s i) n → copperplateref02_Next.l0 (k + 10) s i n = some (gn (at_ s i) n, (n : Int))) ∧ (¬ Hit (at_ s i) n → copperplateref02_Next.l0 (k + 10) s i n = copperplateref02_Next.l0 (k + 8) s i ((n + 1 : Nat) : Int)) := by
  have hx : by_ (s.extract i s.size) = at_ s i := by
    have := own_by s i (s.size - i)
    rw [show i + (s.size - i) = s.size by omega] at this
    rw [this, List.take_of_length_le]
    have := at_length s i (by omega) (by omega)
    omega
  have hsz : (s.extract i s.size).size = s.size - i := by rw [ByteArray.size_extract]; omega
  have hT := own_by s i n
  have hlen := at_length s i (by omega) (by omega)
  rw [next_key k s i n hs h0 h4 hn hx hsz _ (ref_Put _)]
  constructor
  · intro h
    rw [if_pos]
    rw [if_pos h.1]
    congr 1
    refine by_inj ?_
    rw [by_ba (enc_range (isv_of_isc h.1)), h.2, hT]
  · intro h
    rw [if_neg]
    intro q
    apply h
    rw [Lib.toList_data, Lib.toList_data] at q
    have q := congrArg (fun l : List UInt8 => l.map fun b => (b.toNat : Int)) q
    have q : by_ (if isc (gn (at_ s i) n) = true then ba (enc (gn (at_ s i) n)) else ⟨#[]⟩) = by_ (s.extract i (i + n)) := q
    by_cases c : isc (gn (at_ s i) n) = true
    · rw [if_pos c, by_ba (enc_range (isv_of_isc c)), hT] at q
      exact ⟨c, q⟩
    · rw [if_neg c, hT] at q
      have := congrArg List.length q
      rw [List.length_take] at this
      have e : (by_ (⟨#[]⟩ : ByteArray)).length = 0 := rfl
      omega
theorem next_stop (k : Nat) (s : ByteArray) (i n : Nat) (hs : s.size ≤ 1000000) (hi : i ≤ s.size) (hn : n ≤ 1000) (h : 4 < n ∨ s.size < i + n) : copperplateref02_Next.l0 (k + 2) s i n = some (0, 0) := by
  rw [copperplateref02_Next.l0]
  by_cases q : (n : Int) ≤ 4
  · rw [if_pos q, w64 (n := (s.size : Int) - (i : Int)) (by omega) (by omega), decide_eq_false (by omega), copperplateref02_Next.j2, if_neg (by decide)]
  · rw [if_neg q, copperplateref02_Next.j2, if_neg (by decide)]
theorem next_loop (s : ByteArray) (i : Nat) (hs : s.size ≤ 1000000) (hi : i < s.size) : ∀ (j n k : Nat), n + j = 5 → 1 ≤ n → ((nxp isc (at_ s i)).2 = 0 ∨ n ≤ (nxp isc (at_ s i)).2) → copperplateref02_Next.l0 (k + 2 * j + 10) s i n = some ((nxp isc (at_ s i)).1, ((nxp isc (at_ s i)).2 : Int))
  | 0, n, k, h, h1, hK => by
    have := nxp_le isc (at_ s i)
    have h0 : (nxp isc (at_ s i)).2 = 0 := by omega
    have hz := nxp_zero h0
    rw [hz]
    exact next_stop (k + 8) s i n hs (by omega) (by omega) (.inl (by omega))
  | j + 1, n, k, h, h1, hK => by
    have hle := nxp_le isc (at_ s i)
    have hlen := at_length s i (by omega) (by omega)
    by_cases q : i + n ≤ s.size
    · have hst := next_step (k + 2 * (j + 1)) s i n hs h1 (by omega) q
      by_cases hh : Hit (at_ s i) n
      · rw [hst.1 hh, hit_nx (by omega) hh]
      · rw [hst.2 hh, show k + 2 * (j + 1) + 8 = k + 2 * j + 10 by omega]
        refine next_loop s i hs hi j (n + 1) k (by omega) (by omega) ?_
        by_cases h0 : (nxp isc (at_ s i)).2 = 0
        · exact .inl h0
        · have hx := nx_hit h0
          have : n ≠ (nxp isc (at_ s i)).2 := fun e => hh (by rw [e]; exact hx.1)
          omega
    · have h0 : (nxp isc (at_ s i)).2 = 0 := by omega
      have hz := nxp_zero h0
      rw [hz]
      exact next_stop (k + 2 * (j + 1) + 8) s i n hs (by omega) (by omega) (.inr (by omega))
theorem ref_Next (K : Nat) (hK : 20 ≤ K) (s : ByteArray) (i : Int) (hs : s.size ≤ 1000000) : copperplateref02_Next.f K s i = some (nxr s i, nxn s i) := by
  obtain ⟨k, rfl⟩ : ∃ k, K = k + 20 := ⟨K - 20, by omega⟩
  unfold copperplateref02_Next.f
  by_cases q1 : i < 0
  · rw [if_pos q1, copperplateref02_Next.j0, if_pos rfl, (nxn_out s i (.inl q1)).1, (nxn_out s i (.inl q1)).2]
  rw [if_neg q1]
  by_cases q2 : i ≥ (s.size : Int)
  · rw [decide_eq_true q2, copperplateref02_Next.j0, if_pos rfl, (nxn_out s i (.inr q2)).1, (nxn_out s i (.inr q2)).2]
  obtain ⟨n, rfl⟩ : ∃ n : Nat, i = n := ⟨i.toNat, by omega⟩
  rw [decide_eq_false q2, copperplateref02_Next.j0, if_neg (by decide)]
  have := next_loop s n hs (by omega) 4 1 (k + 1) (by omega) (by omega) (by omega)
  unfold nxr nxn
  rw [if_neg q1, if_neg q1]
  exact this
theorem bad_loop (s : ByteArray) (hs : s.size ≤ 1000000) : ∀ (r n K : Nat), s.size - n ≤ r → n ≤ s.size → r + 30 ≤ K → copperplateref02_Bad.l0 K s (n : Int) = some (if bd (at_ s (n : Int)) < 0 then -1 else (n : Int) + bd (at_ s (n : Int))) := by
  intro r
  induction r with
  | zero =>
    intro n K h1 h2 h3
    obtain ⟨K, rfl⟩ : ∃ k, K = k + 1 := ⟨K - 1, by omega⟩
    have e : at_ s (n : Int) = [] := at_nil s _ (by omega)
    rw [copperplateref02_Bad.l0, if_neg (by omega), e, bd_nil, if_pos (by decide)]
  | succ r ih =>
    intro n K h1 h2 h3
    obtain ⟨K, rfl⟩ : ∃ k, K = k + 1 := ⟨K - 1, by omega⟩
    by_cases hn : n < s.size
    · have hl : at_ s (n : Int) ≠ [] := fun e => by
        have := congrArg List.length e
        have h4 := at_length s n (by omega) (by omega)
        rw [List.length_nil] at this; omega
      have hle := nxp_le isc (at_ s (n : Int))
      have h4 := at_length s n (by omega) (by omega)
      have hN : copperplateref02_Next.f K s (n : Int) = some ((nxp isc (at_ s (n : Int))).1, ((nxp isc (at_ s (n : Int))).2 : Int)) := by
        rw [ref_Next K (by omega) s n hs]
        unfold nxr nxn
        rw [if_neg (by omega), if_neg (by omega)]
      obtain ⟨k, hk⟩ : ∃ k, (nxp isc (at_ s (n : Int))).2 = k := ⟨_, rfl⟩
      rw [hk] at hN hle
      have hlt : (n : Int) < (s.size : Int) := by omega
      by_cases h0 : k = 0
      · have hb := bd_not hl (by rw [hk]; exact h0)
        have h00 : (k : Int) = 0 := by omega
        rw [copperplateref02_Bad.l0, if_pos hlt, hN, Option.bind_some, hb]
        dsimp only
        rw [if_pos h00, if_neg (by decide), Int.add_zero]
      · have hb := bd_step (l := at_ s (n : Int)) (by rw [hk]; exact h0)
        rw [hk, ← at_add s n k (by omega)] at hb
        have hw : wrap64 ((n : Int) + (k : Int)) = ((n + k : Nat) : Int) := by unfold wrap64; omega
        have ih := ih (n + k) K (by omega) (by omega) (by omega)
        have h00 : ¬ (k : Int) = 0 := by omega
        rw [copperplateref02_Bad.l0, if_pos hlt, hN, Option.bind_some]
        dsimp only
        rw [if_neg h00, hw, ih, hb]
        rw [show ((n : Int) + (k : Nat)) = ((n + k : Nat) : Int) by omega]
        by_cases hneg : bd (at_ s ((n + k : Nat) : Int)) < 0
        · rw [if_pos hneg, if_pos hneg, if_pos (by decide)]
        · rw [if_neg hneg, if_neg hneg, if_neg (by omega)]
          congr 1; omega
    · have e : at_ s (n : Int) = [] := at_nil s _ (by omega)
      rw [copperplateref02_Bad.l0, if_neg (by omega), e, bd_nil, if_pos (by decide)]
theorem ref_Bad (s : ByteArray) (hs : s.size ≤ 1000000) (K : Nat) (hK : s.size + 30 ≤ K) : copperplateref02_Bad.f K s = some (bd (by_ s)) := by
  unfold copperplateref02_Bad.f
  have := bad_loop s hs s.size 0 K (by omega) (by omega) hK
  rw [Int.natCast_zero, at_zero] at this
  rw [this]
  by_cases h : mayp isc (by_ s) = true
  · rw [(bd_may (by_ s)).1 h, if_pos (by decide)]
  · have := (bd_may (by_ s)).2 (by simpa using h)
    rw [if_neg (by omega), Int.zero_add]
end Go.Proofs.YtjgpmfjkcioinaaGreatDoor.G
