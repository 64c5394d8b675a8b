/-
  Plain mathematics for texts in quotes: what stands for each character, and that it tells it. No program in sight.
-/
import Derived.Test.YtcebkppagamjiaaDoorT1
namespace Go.Proofs.YtcebkppagamjiaaDoor.M
open Go.Proofs.YtcebkppagamjiaaDoorW.PrintWords
set_option linter.unusedVariables false
set_option linter.unusedSimpArgs false

/-- A sign of a code. -/
def hexd (k : Int) : Int := if k < 10 then 48 + k else 87 + k
theorem hexv_hexd {k : Int} (h0 : 0 ≤ k) (h1 : k < 16) : hexv (hexd k) = k := by
  unfold hexv hexd
  repeat' split
  all_goals omega
/-- What stands for a character. -/
def oneQ (r : Int) : List Int :=
  if r = 34 then [92, 34] else if r = 92 then [92, 92] else if r = 8 then [92, 98] else if r = 12 then [92, 102] else if r = 10 then [92, 110] else if r = 13 then [92, 114] else if r = 9 then [92, 116]
  else if r < 32 then [92, 117, 48, 48, hexd (r / 16), hexd (r % 16)] else enc r
theorem oneQ_it {r : Int} (h : isv r = true) : It (oneQ r) (enc r) := by
  have hr := isv_iff.1 h
  have two : ∀ c q : Int, short c = q → 0 ≤ q → q < 128 → It [92, c] (enc q) := by
    intro c q e h0 h1
    have e2 : esc [92, c] = ([q], 2) := by
      unfold esc
      simp only [List.getD_cons_zero, List.getD_cons_succ, List.length_cons, List.length_nil]
      rw [if_pos ⟨trivial, by omega⟩, e, if_pos h0]
    have := It.esc [92, c] (by rw [e2]; rfl) (by simp)
    rw [e2] at this
    rw [enc_low h1]; exact this
  unfold oneQ
  split
  · rename_i e; subst e; exact two 34 34 (by decide) (by omega) (by omega)
  split
  · rename_i e; subst e; exact two 92 92 (by decide) (by omega) (by omega)
  split
  · rename_i e; subst e; exact two 98 8 (by decide) (by omega) (by omega)
  split
  · rename_i e; subst e; exact two 102 12 (by decide) (by omega) (by omega)
  split
  · rename_i e; subst e; exact two 110 10 (by decide) (by omega) (by omega)
  split
  · rename_i e; subst e; exact two 114 13 (by decide) (by omega) (by omega)
  split
  · rename_i e; subst e; exact two 116 9 (by decide) (by omega) (by omega)
  split
  · rename_i h34 h92 _ _ _ _ _ hlt
    have ha := hexv_hexd (k := r / 16) (by omega) (by omega)
    have hb := hexv_hexd (k := r % 16) (by omega) (by omega)
    have e4 : hex4 [48, 48, hexd (r / 16), hexd (r % 16)] = r := by
      unfold hex4
      simp only []
      rw [ha, hb, show hexv 48 = 0 by decide, if_pos (by omega)]; omega
    have e2 : esc [92, 117, 48, 48, hexd (r / 16), hexd (r % 16)] = (enc r, 6) := by
      unfold esc
      simp only [List.getD_cons_zero, List.getD_cons_succ, List.length_cons, List.length_nil, List.drop_succ_cons, List.drop_zero]
      rw [if_pos ⟨trivial, by omega⟩, if_neg (by decide), e4, if_pos ⟨trivial, by omega⟩, if_pos (by omega)]
    have := It.esc [92, 117, 48, 48, hexd (r / 16), hexd (r % 16)] (by rw [e2]; rfl) (by simp)
    rw [e2] at this
    exact this
  · rename_i h34 h92 _ _ _ _ _ hlt
    exact .plain r (by rw [isc_iff]; omega) (by omega) (by omega) h34 h92
theorem oneQ_len (r : Int) : (enc r).length ≤ (oneQ r).length ∧ (oneQ r).length ≤ 6 ∧ 1 ≤ (oneQ r).length := by
  have := enc_len r
  unfold oneQ
  by_cases h : r < 128
  · rw [enc_low h] at this ⊢
    repeat' split
    all_goals simp only [List.length_cons, List.length_nil]
    all_goals omega
  · rw [if_neg (by omega), if_neg (by omega), if_neg (by omega), if_neg (by omega), if_neg (by omega), if_neg (by omega), if_neg (by omega), if_neg (by omega)]
    omega
theorem oneQ_isc {r : Int} (h : isv r = true) (m : List Int) : mayp isc (oneQ r ++ m) = mayp isc m := by
  have hr := isv_iff.1 h
  have one : ∀ (c : Int) (m : List Int), 32 ≤ c → c < 128 → mayp isc (c :: m) = mayp isc m := by
    intro c m h0 h1
    have := mayp_enc sort_isc (r := c) (by rw [isc_iff]; omega) m
    rw [enc_low h1] at this
    exact this
  have hd : ∀ k, 0 ≤ k → k < 16 → 32 ≤ hexd k ∧ hexd k < 128 := by intro k h0 h1; unfold hexd; split <;> omega
  have h1 := hd (r / 16)
  have h2 := hd (r % 16)
  unfold oneQ
  repeat' split
  all_goals first
    | (simp only [List.cons_append, List.nil_append]; repeat rw [one _ _ (by omega) (by omega)])
    | (refine mayp_enc sort_isc ?_ m; rw [isc_iff]; omega)
theorem oneQ_low {r : Int} (h : isv r = true) : ∀ c ∈ oneQ r, 32 ≤ c := by
  have hr := isv_iff.1 h
  have hd : ∀ k, 0 ≤ k → k < 16 → 32 ≤ hexd k ∧ hexd k < 128 := by intro k h0 h1; unfold hexd; split <;> omega
  have h1 := hd (r / 16)
  have h2 := hd (r % 16)
  intro c hc
  unfold oneQ at hc
  repeat' split at hc
  all_goals first
    | (simp only [List.mem_cons, List.not_mem_nil, or_false] at hc; omega)
    | (by_cases q : r < 128
       · rw [enc_low q] at hc; simp only [List.mem_cons, List.not_mem_nil, or_false] at hc; omega
       · have := enc_high h q c hc; omega)

/-- A text's characters' signs, one behind the other. -/
def qb (l : List Int) : List Int :=
  if hl : l = [] then [] else if hn : (nxp isv l).2 = 0 then [] else oneQ (nxp isv l).1 ++ qb (l.drop (nxp isv l).2)
termination_by l.length
decreasing_by
  have := List.length_pos_iff.2 hl
  rw [List.length_drop]; omega
theorem qb_nil : qb [] = [] := by rw [qb]; rfl
theorem qb_step {l : List Int} (h : (nxp isv l).2 ≠ 0) : qb l = oneQ (nxp isv l).1 ++ qb (l.drop (nxp isv l).2) := by
  conv => lhs; rw [qb]
  rw [dif_neg (nxp_ne h), dif_neg h]
theorem qb_enc {r : Int} (h : isv r = true) (m : List Int) : qb (enc r ++ m) = oneQ r ++ qb m := by
  have hx := nxp_enc sort_isv h m
  have := enc_len r
  rw [qb_step (by rw [show nxp isv (enc r ++ m) = _ from hx]; show (enc r).length ≠ 0; omega), show nxp isv (enc r ++ m) = _ from hx]
  show oneQ r ++ qb ((enc r ++ m).drop (enc r).length) = _
  rw [List.drop_left]
theorem qb_runes : ∀ (rs : List Int), (∀ r ∈ rs, isv r = true) → ∀ m, qb (rs.flatMap enc ++ m) = rs.flatMap oneQ ++ qb m
  | [], _, m => rfl
  | r :: rs, h, m => by
    rw [List.flatMap_cons, List.append_assoc, qb_enc (h r (by simp)), qb_runes rs (fun x hx => h x (by simp [hx])) m, List.flatMap_cons, List.append_assoc]
theorem qb_flat {rs : List Int} (h : ∀ r ∈ rs, isv r = true) : qb (rs.flatMap enc) = rs.flatMap oneQ := by
  have := qb_runes rs h []
  rw [List.append_nil, qb_nil, List.append_nil] at this
  exact this
theorem str_runes : ∀ (rs : List Int), (∀ r ∈ rs, isv r = true) → Str (rs.flatMap oneQ) (rs.flatMap enc)
  | [], _ => .nil
  | r :: rs, h => by
    rw [List.flatMap_cons, List.flatMap_cons]
    exact .cons (oneQ_it (h r (by simp))) (str_runes rs (fun x hx => h x (by simp [hx])))
theorem str_qb {l : List Int} (h : mayp isv l = true) : Str (qb l) l := by
  obtain ⟨rs, h1, h2⟩ := mayp_runes h
  rw [h2, qb_flat h1]
  exact str_runes rs h1
theorem qb_append {a b : List Int} (ha : mayp isv a = true) : qb (a ++ b) = qb a ++ qb b := by
  obtain ⟨rs, h1, h2⟩ := mayp_runes ha
  rw [h2, qb_runes rs h1, qb_flat h1]
theorem qb_len {l : List Int} (h : mayp isv l = true) : l.length ≤ (qb l).length ∧ (qb l).length ≤ 6 * l.length := by
  obtain ⟨rs, h1, h2⟩ := mayp_runes h
  rw [h2, qb_flat h1]
  clear h h2
  induction rs with
  | nil => simp
  | cons r rs ih =>
    have := ih (fun x hx => h1 x (by simp [hx]))
    have h3 := oneQ_len r
    have h4 := enc_len r
    rw [List.flatMap_cons, List.flatMap_cons, List.length_append, List.length_append]
    omega
theorem qb_may {l : List Int} (h : mayp isv l = true) (m : List Int) : mayp isc (qb l ++ m) = mayp isc m := by
  obtain ⟨rs, h1, h2⟩ := mayp_runes h
  rw [h2, qb_flat h1]
  clear h h2
  induction rs with
  | nil => rfl
  | cons r rs ih =>
    rw [List.flatMap_cons, List.append_assoc, oneQ_isc (h1 r (by simp))]
    exact ih (fun x hx => h1 x (by simp [hx]))
theorem qb_low {l : List Int} (h : mayp isv l = true) : ∀ c ∈ qb l, 32 ≤ c := by
  obtain ⟨rs, h1, h2⟩ := mayp_runes h
  rw [h2, qb_flat h1]
  intro c hc
  obtain ⟨r, hr, hcr⟩ := List.mem_flatMap.1 hc
  exact oneQ_low (h1 r hr) c hcr
theorem qb_inj {a b : List Int} (ha : mayp isv a = true) (hb : mayp isv b = true) (h : qb a = qb b) : a = b := by
  have h1 := strB_done (str_qb ha) []
  have h2 := strB_done (str_qb hb) []
  rw [h, h2] at h1
  simp only [Prod.mk.injEq, true_and] at h1
  exact h1.1.symm
theorem mayv_append {a b : List Int} (ha : mayp isv a = true) (hb : mayp isv b = true) : mayp isv (a ++ b) = true := by
  rw [show mayp isv (a ++ b) = mayp isv b from mayp_append sort_isv ha b]; exact hb
/-- What pieces tell may be quoted. -/
theorem it_mayv {e t : List Int} (h : It e t) (m : List Int) : mayp isv (t ++ m) = mayp isv m := by
  cases h with
  | esc _ h h0 =>
    have hne : (esc e).2 ≠ 0 := by rw [h]; have := List.length_pos_iff.2 h0; omega
    obtain ⟨r, hr, e1, _⟩ := esc_some hne
    rw [e1]; exact mayp_enc sort_isv hr m
  | plain r h _ _ _ _ => exact mayp_enc sort_isv (isv_of_isc h) m
theorem str_mayv {b t : List Int} (h : Str b t) : mayp isv t = true := by
  induction h with
  | nil => exact mayp_nil _
  | cons hi _ ih => rw [it_mayv hi]; exact ih
theorem strB_mayv (l : List Int) : mayp isv (strB l).2.1 = true := by
  have h := strB_tells l.length l (Nat.le_refl _)
  cases q : (strB l).1 with
  | true => obtain ⟨b, m, hs, _⟩ := h.1 q; exact str_mayv hs
  | false => rw [strB_no l q]; exact mayp_nil _
/-- A text in quotes; nothing, if it may not be. -/
def quo (l : List Int) : List Int := if mayp isv l = true then 34 :: (qb l ++ [34]) else []
/-- Where nothing has to be told otherwise. -/
theorem mayv_low : ∀ l : List Int, (∀ c ∈ l, 32 ≤ c) → mayp isv l = mayp isc l
  | l => by
    refine chars_rec isv (P := fun l => (∀ c ∈ l, 32 ≤ c) → mayp isv l = mayp isc l) l ?_ ?_ ?_
    · intro _; rw [show mayp isv [] = true from mayp_nil _, show mayp isc [] = true from mayp_nil _]
    · intro l hl hn _
      have e : (nxp isc l).2 = 0 := by rw [nx_of_nv]; split; exact hn; rfl
      rw [show mayp isv l = false from mayp_not hl hn, show mayp isc l = false from mayp_not hl e]
    · intro l hn ih h
      obtain ⟨k1, k2, k3, _⟩ := nxp_pos hn
      have hc : isc (nxp isv l).1 = true := by
        have hv := isv_iff.1 k1
        rw [isc_iff]
        by_cases q : (nxp isv l).1 < 128
        · have : (nxp isv l).1 ∈ l := by
            have k4 : l = enc (nxp isv l).1 ++ l.drop (nxp isv l).2 := k3
            rw [enc_low q] at k4
            obtain ⟨x, hx⟩ : ∃ x, (nxp isv l).1 = x := ⟨_, rfl⟩
            rw [hx] at k4 ⊢
            rw [k4]; simp
          have := h _ this
          omega
        · omega
      have e : nxp isc l = nxp isv l := by rw [nx_of_nv, if_pos hc]
      rw [show mayp isv l = mayp isv (l.drop (nxp isv l).2) from mayp_step hn, show mayp isc l = mayp isc (l.drop (nxp isc l).2) from mayp_step (by rw [e]; exact hn), e]
      exact ih (fun c hc => h c (List.mem_of_mem_drop hc))
theorem qb_plain {l : List Int} (h : ∀ c ∈ l, 32 ≤ c ∧ c ≠ 34 ∧ c ≠ 92) (hm : mayp isv l = true) : qb l = l := by
  obtain ⟨rs, h1, h2⟩ := mayp_runes hm
  rw [h2, qb_flat h1]
  rw [h2] at h
  clear hm h2
  induction rs with
  | nil => rfl
  | cons r rs ih =>
    rw [List.flatMap_cons, List.flatMap_cons, ih (fun c hc => h c (by rw [List.flatMap_cons]; exact List.mem_append.2 (.inr hc))) (fun x hx => h1 x (by simp [hx]))]
    congr 1
    have hv := isv_iff.1 (h1 r (by simp))
    unfold oneQ
    by_cases q : r < 128
    · have := h r (by rw [List.flatMap_cons, enc_low q]; simp)
      rw [if_neg (by omega), if_neg (by omega), if_neg (by omega), if_neg (by omega), if_neg (by omega), if_neg (by omega), if_neg (by omega), if_neg (by omega)]
    · rw [if_neg (by omega), if_neg (by omega), if_neg (by omega), if_neg (by omega), if_neg (by omega), if_neg (by omega), if_neg (by omega), if_neg (by omega)]
end Go.Proofs.YtcebkppagamjiaaDoor.M
