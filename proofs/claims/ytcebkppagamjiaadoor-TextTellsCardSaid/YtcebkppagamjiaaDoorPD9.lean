/-
  The document's characters: the loop.
-/
import Derived.Test.YtcebkppagamjiaaDoorPD8
namespace Go.Proofs.YtcebkppagamjiaaDoor.G
open Go.RowKit Go.Proofs.YtcebkppagamjiaaDoor.Q Go.Proofs.YtcebkppagamjiaaDoorW.PrintWords Go.Proofs.YtcebkppagamjiaaDoor.M
set_option linter.unusedVariables false
set_option linter.unusedSimpArgs false

theorem next_key (k : Nat) (s : ByteArray) (i n : Nat) (hs : s.size ≤ 1000000) (h0 : 1 ≤ n) (h4 : n ≤ 4) (hn : i + n ≤ s.size) (hx : by_ (s.extract i s.size) = at_ s i) (hsz : (s.extract i s.size).size = s.size - i) (P : ByteArray) (hP : copperplateref02_Put.f (gn (at_ s i) n) = some P) :
    copperplateref02_Next.l0 (k + 10) s i n = if P.toList = (s.extract i (i + n)).toList then some (gn (at_ s i) n, (n : Int)) else copperplateref02_Next.l0 (k + 8) s i ((n + 1 : Nat) : Int) := by
  rw [copperplateref02_Next.l0, if_pos (by omega), w64 (n := (s.size : Int) - (i : Int)) (by omega) (by omega), decide_eq_true (by omega), copperplateref02_Next.j2, if_pos rfl, if_pos (by omega), if_pos (by omega), Int.toNat_natCast, ref_guess k _ n h0 h4 (by omega) (by omega), hx]
  simp only [Option.bind_some]
  rw [hP, Option.bind_some]
  rw [w64 (n := (i : Int) + (n : Int)) (by omega) (by omega), if_pos (by omega), if_pos (by omega), show ((i : Int) + (n : Int)).toNat = i + n by omega, w64 (n := (n : Int) + 1) (by omega) (by omega), show (n : Int) + 1 = ((n + 1 : Nat) : Int) from rfl]
theorem next_step (k : Nat) (s : ByteArray) (i n : Nat) (hs : s.size ≤ 1000000) (h0 : 1 ≤ n) (h4 : n ≤ 4) (hn : i + n ≤ s.size) :
    (Hit (at_ s i) n → copperplateref02_Next.l0 (k + 10) s i n = some (gn (at_ s i) n, (n : Int))) ∧ (¬ Hit (at_ s i) n → copperplateref02_Next.l0 (k + 10) s i n = copperplateref02_Next.l0 (k + 8) s i ((n + 1 : Nat) : Int)) := by
  have hx : by_ (s.extract i s.size) = at_ s i := by
    have := own_by s i (s.size - i)
    rw [show i + (s.size - i) = s.size by omega] at this
    rw [this, List.take_of_length_le]
    have := at_length s i (by omega) (by omega)
    omega
  have hsz : (s.extract i s.size).size = s.size - i := by rw [ByteArray.size_extract]; omega
  have hT := own_by s i n
  have hlen := at_length s i (by omega) (by omega)
  rw [next_key k s i n hs h0 h4 hn hx hsz _ (ref_Put _)]
  constructor
  · intro h
    rw [if_pos]
    rw [if_pos h.1]
    congr 1
    refine by_inj ?_
    rw [by_ba (enc_range (isv_of_isc h.1)), h.2, hT]
  · intro h
    rw [if_neg]
    intro q
    apply h
    rw [Lib.toList_data, Lib.toList_data] at q
    have q := congrArg (fun l : List UInt8 => l.map fun b => (b.toNat : Int)) q
    have q : by_ (if isc (gn (at_ s i) n) = true then ba (enc (gn (at_ s i) n)) else ⟨#[]⟩) = by_ (s.extract i (i + n)) := q
    by_cases c : isc (gn (at_ s i) n) = true
    · rw [if_pos c, by_ba (enc_range (isv_of_isc c)), hT] at q
      exact ⟨c, q⟩
    · rw [if_neg c, hT] at q
      have := congrArg List.length q
      rw [List.length_take] at this
      have e : (by_ (⟨#[]⟩ : ByteArray)).length = 0 := rfl
      omega
theorem next_stop (k : Nat) (s : ByteArray) (i n : Nat) (hs : s.size ≤ 1000000) (hi : i ≤ s.size) (hn : n ≤ 1000) (h : 4 < n ∨ s.size < i + n) : copperplateref02_Next.l0 (k + 2) s i n = some (0, 0) := by
  rw [copperplateref02_Next.l0]
  by_cases q : (n : Int) ≤ 4
  · rw [if_pos q, w64 (n := (s.size : Int) - (i : Int)) (by omega) (by omega), decide_eq_false (by omega), copperplateref02_Next.j2, if_neg (by decide)]
  · rw [if_neg q, copperplateref02_Next.j2, if_neg (by decide)]
theorem next_loop (s : ByteArray) (i : Nat) (hs : s.size ≤ 1000000) (hi : i < s.size) : ∀ (j n k : Nat), n + j = 5 → 1 ≤ n → ((nxp isc (at_ s i)).2 = 0 ∨ n ≤ (nxp isc (at_ s i)).2) → copperplateref02_Next.l0 (k + 2 * j + 10) s i n = some ((nxp isc (at_ s i)).1, ((nxp isc (at_ s i)).2 : Int))
  | 0, n, k, h, h1, hK => by
    have := nxp_le isc (at_ s i)
    have h0 : (nxp isc (at_ s i)).2 = 0 := by omega
    have hz := nxp_zero h0
    rw [hz]
    exact next_stop (k + 8) s i n hs (by omega) (by omega) (.inl (by omega))
  | j + 1, n, k, h, h1, hK => by
    have hle := nxp_le isc (at_ s i)
    have hlen := at_length s i (by omega) (by omega)
    by_cases q : i + n ≤ s.size
    · have hst := next_step (k + 2 * (j + 1)) s i n hs h1 (by omega) q
      by_cases hh : Hit (at_ s i) n
      · rw [hst.1 hh, hit_nx (by omega) hh]
      · rw [hst.2 hh, show k + 2 * (j + 1) + 8 = k + 2 * j + 10 by omega]
        refine next_loop s i hs hi j (n + 1) k (by omega) (by omega) ?_
        by_cases h0 : (nxp isc (at_ s i)).2 = 0
        · exact .inl h0
        · have hx := nx_hit h0
          have : n ≠ (nxp isc (at_ s i)).2 := fun e => hh (by rw [e]; exact hx.1)
          omega
    · have h0 : (nxp isc (at_ s i)).2 = 0 := by omega
      have hz := nxp_zero h0
      rw [hz]
      exact next_stop (k + 2 * (j + 1) + 8) s i n hs (by omega) (by omega) (.inr (by omega))
theorem ref_Next (K : Nat) (hK : 20 ≤ K) (s : ByteArray) (i : Int) (hs : s.size ≤ 1000000) : copperplateref02_Next.f K s i = some (nxr s i, nxn s i) := by
  obtain ⟨k, rfl⟩ : ∃ k, K = k + 20 := ⟨K - 20, by omega⟩
  unfold copperplateref02_Next.f
  by_cases q1 : i < 0
  · rw [if_pos q1, copperplateref02_Next.j0, if_pos rfl, (nxn_out s i (.inl q1)).1, (nxn_out s i (.inl q1)).2]
  rw [if_neg q1]
  by_cases q2 : i ≥ (s.size : Int)
  · rw [decide_eq_true q2, copperplateref02_Next.j0, if_pos rfl, (nxn_out s i (.inr q2)).1, (nxn_out s i (.inr q2)).2]
  obtain ⟨n, rfl⟩ : ∃ n : Nat, i = n := ⟨i.toNat, by omega⟩
  rw [decide_eq_false q2, copperplateref02_Next.j0, if_neg (by decide)]
  have := next_loop s n hs (by omega) 4 1 (k + 1) (by omega) (by omega) (by omega)
  unfold nxr nxn
  rw [if_neg q1, if_neg q1]
  exact this
end Go.Proofs.YtcebkppagamjiaaDoor.G
