/-
  The law TextChars, over what its text computes.
-/
import Derived.Test.YtcebkppagamjiaaDoorPD1
import Derived.Test.YtcebkppagamjiaaDoorQU
import Derived.Test.YtcebkppagamjiaaDoorQ3
namespace Go.Proofs.YtcebkppagamjiaaDoor.G
open Go.RowKit Go.Proofs.YtcebkppagamjiaaDoor.Q Go.Proofs.YtcebkppagamjiaaDoorW.PrintWords Go.Proofs.YtcebkppagamjiaaDoor.M
set_option linter.unusedVariables false
set_option linter.unusedSimpArgs false

theorem mayv_range {t : List Int} (h : mayp isv t = true) : ∀ c ∈ t, 0 ≤ c ∧ c ≤ 255 := by
  obtain ⟨rs, h1, h2⟩ := mayp_runes h
  rw [h2]
  intro c hc
  obtain ⟨r, hr, hcr⟩ := List.mem_flatMap.1 hc
  exact enc_range (h1 r hr) c hcr
theorem str4 {b t : List Int} (h : Str b t) : t.length ≤ 4 * b.length := by
  induction h with
  | nil => simp
  | cons hi _ ih =>
    have : ∀ {e t : List Int}, It e t → t.length ≤ 4 * e.length := by
      intro e t h
      cases h with
      | esc _ h h0 =>
        have hp := List.length_pos_iff.2 h0
        obtain ⟨r, hr, e1, _⟩ := esc_some (l := e) (by omega)
        rw [e1]; have := enc_len r; omega
      | plain r h _ _ _ _ => omega
    have := this hi
    rw [List.length_append, List.length_append]; omega
theorem sL_mayv (l : List Int) : mayp isv (sL l).2.1 = true ∧ (sL l).2.1.length ≤ 4 * l.length := by
  cases h : (sL l).1 with
  | false => rw [sL_no h]; exact ⟨mayp_nil _, by simp⟩
  | true =>
    obtain ⟨b, m, hS, hl, _⟩ := sL_tells h
    refine ⟨str_mayv hS, ?_⟩
    have h4 := str4 hS
    have e := congrArg List.length hl
    simp only [List.length_cons, List.length_append] at e
    omega
theorem chars_loop (v : ByteArray) (hv : v.size ≤ 2400) : ∀ (n m k : Nat), m + n = v.size → 2 * n < k → mayp isv (at_ v m) = true → copperplatelaw06_TextChars.l0 k v (m : Int) = some true := by
  intro n
  induction n using Nat.strongRecOn with
  | _ n ih =>
    intro m k h hk hm
    obtain ⟨k, rfl⟩ : ∃ j, k = j + 1 := ⟨k - 1, by omega⟩
    by_cases h0 : n = 0
    · rw [copperplatelaw06_TextChars.l0, if_neg (by omega), show (m : Int) = (v.size : Int) by omega, beq_self_eq_true]
    rw [copperplatelaw06_TextChars.l0, if_pos (by omega), f_Next (by omega)]
    simp only [Option.bind_some]
    obtain ⟨k, rfl⟩ : ∃ j, k = j + 1 := ⟨k - 1, by omega⟩
    have hl := at_cons v m (by omega) (by omega)
    have hne : at_ v m ≠ [] := by rw [hl]; simp
    have h2 := mayp_take hm hne
    have h3 := nxp_pos h2
    have h4 := nxp_le isv (at_ v m)
    have h5 := at_length v m (by omega) (by omega)
    have hN : nxn v m = ((nxp isc (at_ v m)).2 : Int) := by unfold nxn; rw [if_neg (by omega)]
    have hx := nx_of_nv (at_ v m)
    have hs := hm
    rw [mayp_step h2] at hs
    cases hc : isc (nxp isv (at_ v m)).1 with
    | true =>
      rw [hc, if_pos rfl] at hx
      rw [hx] at hN
      obtain ⟨K, hK⟩ : ∃ K, (nxp isv (at_ v m)).2 = K := ⟨_, rfl⟩
      rw [hK] at hN h2 h4 hs
      rw [hN, if_neg (by omega), decide_eq_false (by omega), copperplatelaw06_TextChars.j2, if_neg (by decide), if_neg (by omega)]
      have w : wrap64 ((m : Int) + (K : Int)) = ((m + K : Nat) : Int) := by rw [IntWalk.wrap64_in _ (by omega)]; rfl
      rw [w]
      exact ih (n - K) (by omega) (m + K) k (by omega) (by omega) (by rw [← at_drop]; exact hs)
    | false =>
      rw [hc, if_neg (by decide)] at hx
      rw [hx] at hN
      have hb : bt v m < 32 ∧ (nxp isv (at_ v m)).2 = 1 := by
        rw [hl] at h2 h3 hc ⊢
        obtain ⟨q1, q2⟩ := nxp_head h2
        have hv := isv_iff.1 h3.1
        by_cases q : bt v m < 128
        · obtain ⟨q3, q4⟩ := q1 q
          refine ⟨?_, q4⟩
          rw [q3] at hc
          by_cases q5 : bt v m < 32
          · exact q5
          · have := isc_iff.2 (.inr (.inr (.inr (show 32 ≤ bt v m ∧ bt v m ≤ 1114111 ∧ (bt v m < 55296 ∨ 57343 < bt v m) by omega))))
            rw [this] at hc; cases hc
        · have q6 := q2 q
          have := isc_iff.2 (.inr (.inr (.inr (show 32 ≤ (nxp isv (bt v m :: at_ v (m + 1))).1 ∧ (nxp isv (bt v m :: at_ v (m + 1))).1 ≤ 1114111 ∧ ((nxp isv (bt v m :: at_ v (m + 1))).1 < 55296 ∨ 57343 < (nxp isv (bt v m :: at_ v (m + 1))).1) by omega))))
          rw [this] at hc; cases hc
      rw [hb.2] at hs
      have hN0 : nxn v m = 0 := hN
      rw [hN0, if_pos rfl, if_pos (by omega), if_neg (by omega), copperplatelaw06_TextChars.j2, if_neg (show ¬ (decide ((0 : Int) < 0) = true) by decide), if_pos rfl]
      have w : wrap64 ((m : Int) + 1) = ((m + 1 : Nat) : Int) := by rw [IntWalk.wrap64_in _ (by omega)]; rfl
      rw [w]
      exact ih (n - 1) (by omega) (m + 1) k (by omega) (by omega) (by rw [← at_drop]; exact hs)
theorem textChars_pure : copperplatelaw06_TextChars.Pure := by
  intro s hs
  obtain ⟨K, hK⟩ : ∃ K, K = 2 * (StT s 0).size + 1 := ⟨_, rfl⟩
  refine ⟨K + 1, ?_⟩
  unfold copperplatelaw06_TextChars.f
  rw [awake6]
  simp only [Option.bind_some, if_true]
  rw [copperplatelaw06_TextChars.j0]
  by_cases h1 : (s.size : Int) > 600
  · rw [decide_eq_true h1, if_pos rfl]
  rw [decide_eq_false h1, if_neg (by decide), f_String (by omega)]
  simp only [Option.bind_some]
  have hT : StT s 0 = ba (sL (by_ s)).2.1 := by unfold StT; rw [strAt_zero]
  obtain ⟨q1, q2⟩ := sL_mayv (by_ s)
  have hb := by_ba (mayv_range q1)
  rw [by_length] at q2
  rw [hT] at hK ⊢
  refine chars_loop _ (by rw [ba_size]; omega) _ 0 K (Nat.zero_add _) (by omega) ?_
  show mayp isv (at_ _ 0) = true
  rw [at_zero, hb]; exact q1
end Go.Proofs.YtcebkppagamjiaaDoor.G
