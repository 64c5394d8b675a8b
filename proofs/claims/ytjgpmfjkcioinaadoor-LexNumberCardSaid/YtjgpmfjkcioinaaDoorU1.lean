/-
  Plain mathematics for characters: how one is written as bytes, which one stands at the head of a list of bytes, and where a list stops being made of characters. No program in sight.
-/
import Derived.Test.YtjgpmfjkcioinaaDoorM1
namespace Go.Proofs.YtjgpmfjkcioinaaDoor.M
open Go.Proofs.YtjgpmfjkcioinaaDoorW.PrintWords
set_option linter.unusedVariables false
set_option linter.unusedSimpArgs false

/-- Is it a character of a source? -/
def isc (r : Int) : Bool := decide (r = 9 ∨ r = 10 ∨ r = 13 ∨ 32 ≤ r ∧ r ≤ 1114111 ∧ (r < 55296 ∨ 57343 < r))
/-- Is it a character at all? -/
def isv (r : Int) : Bool := decide (0 ≤ r ∧ r ≤ 1114111 ∧ (r < 55296 ∨ 57343 < r))
/-- A character's bytes. -/
def enc (r : Int) : List Int :=
  if r < 128 then [r]
  else if r < 2048 then [192 + r / 64, 128 + r % 64]
  else if r < 65536 then [224 + r / 4096, 128 + r / 64 % 64, 128 + r % 64]
  else [240 + r / 262144, 128 + r / 4096 % 64, 128 + r / 64 % 64, 128 + r % 64]
/-- What the first bytes seem to be. -/
def gs (l : List Int) : Int :=
  if l.getD 0 (-1) < 128 then l.getD 0 (-1)
  else if l.getD 0 (-1) < 224 then l.getD 0 (-1) % 32 * 64 + l.getD 1 0 % 64
  else if l.getD 0 (-1) < 240 then l.getD 0 (-1) % 16 * 4096 + l.getD 1 0 % 64 * 64 + l.getD 2 0 % 64
  else l.getD 0 (-1) % 8 * 262144 + l.getD 1 0 % 64 * 4096 + l.getD 2 0 % 64 * 64 + l.getD 3 0 % 64
/-- The character of some sort at the head, and how long it is; (0, 0), if there is none. -/
def nxp (p : Int → Bool) (l : List Int) : Int × Nat := if p (gs l) = true ∧ (enc (gs l)).isPrefixOf l = true then (gs l, (enc (gs l)).length) else (0, 0)
/-- Some sort of characters. -/
def Sort_ (p : Int → Bool) : Prop := ∀ r, p r = true → isv r = true

theorem isv_of_isc {r : Int} (h : isc r = true) : isv r = true := by simp only [isc, isv, decide_eq_true_eq] at *; omega
theorem isv_iff {r : Int} : isv r = true ↔ 0 ≤ r ∧ r ≤ 1114111 ∧ (r < 55296 ∨ 57343 < r) := by simp [isv]
theorem isc_iff {r : Int} : isc r = true ↔ r = 9 ∨ r = 10 ∨ r = 13 ∨ 32 ≤ r ∧ r ≤ 1114111 ∧ (r < 55296 ∨ 57343 < r) := by simp [isc]
theorem enc_len (r : Int) : 1 ≤ (enc r).length ∧ (enc r).length ≤ 4 := by
  unfold enc; repeat' split
  all_goals simp
theorem enc_ne (r : Int) : enc r ≠ [] := fun h => by have := enc_len r; rw [h] at this; simp at this
theorem enc_low {r : Int} (h : r < 128) : enc r = [r] := by unfold enc; rw [if_pos h]
theorem gs_enc {r : Int} (h : isv r = true) (m : List Int) : gs (enc r ++ m) = r := by
  rw [isv_iff] at h
  unfold enc
  split
  · simp only [List.cons_append, List.nil_append, gs, List.getD_cons_zero]; rw [if_pos (by omega)]
  · split
    · simp only [List.cons_append, List.nil_append, gs, List.getD_cons_zero, List.getD_cons_succ]
      rw [if_neg (by omega), if_pos (by omega)]; omega
    · split
      · simp only [List.cons_append, List.nil_append, gs, List.getD_cons_zero, List.getD_cons_succ]
        rw [if_neg (by omega), if_neg (by omega), if_pos (by omega)]; omega
      · simp only [List.cons_append, List.nil_append, gs, List.getD_cons_zero, List.getD_cons_succ]
        rw [if_neg (by omega), if_neg (by omega), if_neg (by omega)]; omega
theorem enc_inj {r q : Int} (hr : isv r = true) (hq : isv q = true) {m n : List Int} (h : enc r ++ m = enc q ++ n) : r = q ∧ m = n := by
  have e : r = q := by rw [← gs_enc hr m, h, gs_enc hq n]
  subst e
  exact ⟨rfl, List.append_cancel_left h⟩
theorem sort_isc : Sort_ isc := fun r h => isv_of_isc h
theorem sort_isv : Sort_ isv := fun r h => h
theorem nxp_enc {p : Int → Bool} (hp : Sort_ p) {r : Int} (h : p r = true) (m : List Int) : nxp p (enc r ++ m) = (r, (enc r).length) := by
  unfold nxp
  rw [gs_enc (hp _ h), if_pos ⟨h, by rw [List.isPrefixOf_iff_prefix]; exact List.prefix_append _ _⟩]
theorem nxp_pos {p : Int → Bool} {l : List Int} (h : (nxp p l).2 ≠ 0) : p (nxp p l).1 = true ∧ (nxp p l).2 = (enc (nxp p l).1).length ∧ l = enc (nxp p l).1 ++ l.drop (nxp p l).2 ∧ l.take (nxp p l).2 = enc (nxp p l).1 := by
  unfold nxp at h ⊢
  split at h
  · rename_i c
    rw [if_pos c]
    obtain ⟨m, hm⟩ := List.isPrefixOf_iff_prefix.1 c.2
    have e1 : l.drop (enc (gs l)).length = m := by
      have := congrArg (List.drop (enc (gs l)).length) hm
      rw [List.drop_left] at this; exact this.symm
    have e2 : l.take (enc (gs l)).length = enc (gs l) := by
      have := congrArg (List.take (enc (gs l)).length) hm
      rw [List.take_left] at this; exact this.symm
    refine ⟨c.1, rfl, ?_, e2⟩
    show l = enc (gs l) ++ l.drop (enc (gs l)).length
    rw [e1]; exact hm.symm
  · exact absurd rfl h
theorem nxp_zero {p : Int → Bool} {l : List Int} (h : (nxp p l).2 = 0) : nxp p l = (0, 0) := by
  unfold nxp at h ⊢
  split
  · rename_i c
    rw [if_pos c] at h
    have := enc_len (gs l)
    simp only at h; omega
  · rfl
theorem nxp_nil {p : Int → Bool} (hp : Sort_ p) : nxp p [] = (0, 0) := by
  unfold nxp
  rw [if_neg]
  intro h
  have := hp _ h.1
  revert this
  decide
theorem nx_nil : nxp isc [] = (0, 0) := nxp_nil sort_isc
theorem nv_nil : nxp isv [] = (0, 0) := nxp_nil sort_isv
theorem nxp_le (p : Int → Bool) (l : List Int) : (nxp p l).2 ≤ l.length ∧ (nxp p l).2 ≤ 4 := by
  by_cases h : (nxp p l).2 = 0
  · omega
  · obtain ⟨_, h2, h3, _⟩ := nxp_pos h
    have := enc_len (nxp p l).1
    have h4 := congrArg List.length h3
    rw [List.length_append, List.length_drop] at h4
    omega
theorem nxp_append {p : Int → Bool} (hp : Sort_ p) {l : List Int} (h : (nxp p l).2 ≠ 0) (m : List Int) : nxp p (l ++ m) = nxp p l := by
  obtain ⟨h1, h2, h3, _⟩ := nxp_pos h
  have e : l ++ m = enc (nxp p l).1 ++ (l.drop (nxp p l).2 ++ m) := by rw [← List.append_assoc, ← h3]
  rw [e, nxp_enc hp h1, ← h2]
/-- At a byte below 128. -/
theorem nxp_low {p : Int → Bool} {c : Int} (h : c < 128) (m : List Int) : nxp p (c :: m) = if p c = true then (c, 1) else (0, 0) := by
  unfold nxp
  have e : gs (c :: m) = c := by unfold gs; rw [List.getD_cons_zero, if_pos h]
  rw [e, enc_low h]
  by_cases q : p c = true
  · rw [if_pos ⟨q, by simp [List.isPrefixOf]⟩, if_pos q]; rfl
  · rw [if_neg (fun x => q x.1), if_neg q]
/-- A character of one sort, by the other. -/
theorem nx_of_nv (l : List Int) : nxp isc l = if isc (nxp isv l).1 = true then nxp isv l else (0, 0) := by
  unfold nxp
  by_cases h : isv (gs l) = true ∧ (enc (gs l)).isPrefixOf l = true
  · rw [if_pos h]
    by_cases q : isc (gs l) = true
    · rw [if_pos ⟨q, h.2⟩, if_pos q]
    · rw [if_neg (fun x => q x.1), if_neg q]
  · rw [if_neg h, if_neg (fun x => h ⟨isv_of_isc x.1, x.2⟩)]
    split <;> rfl
/-- A character beyond 127 is made of bytes beyond 127. -/
theorem enc_high {r : Int} (hr : isv r = true) (h : ¬ r < 128) : ∀ c ∈ enc r, 128 ≤ c ∧ c ≤ 255 := by
  rw [isv_iff] at hr
  intro c hc
  unfold enc at hc
  rw [if_neg h] at hc
  split at hc
  · simp only [List.mem_cons, List.not_mem_nil, or_false] at hc; omega
  · split at hc
    · simp only [List.mem_cons, List.not_mem_nil, or_false] at hc; omega
    · simp only [List.mem_cons, List.not_mem_nil, or_false] at hc; omega
theorem enc_range {r : Int} (hr : isv r = true) : ∀ c ∈ enc r, 0 ≤ c ∧ c ≤ 255 := by
  intro c hc
  by_cases h : r < 128
  · rw [enc_low h] at hc; simp only [List.mem_cons, List.not_mem_nil, or_false] at hc; rw [isv_iff] at hr; omega
  · have := enc_high hr h c hc; omega
/-- The head tells whether it is beyond 127. -/
theorem nxp_head {p : Int → Bool} {c : Int} {m : List Int} (h : (nxp p (c :: m)).2 ≠ 0) : (c < 128 → (nxp p (c :: m)).1 = c ∧ (nxp p (c :: m)).2 = 1) ∧ (¬ c < 128 → 128 ≤ (nxp p (c :: m)).1) := by
  constructor
  · intro hc
    rw [nxp_low hc] at h ⊢
    split at h
    · rename_i q; rw [if_pos q]; exact ⟨rfl, rfl⟩
    · exact absurd rfl h
  · intro hc
    obtain ⟨h1, h2, h3, _⟩ := nxp_pos h
    by_cases q : (nxp p (c :: m)).1 < 128
    · rw [enc_low q] at h3
      simp only [List.cons_append, List.cons.injEq] at h3
      omega
    · omega

/-- Is it made of such characters? -/
def mayp (p : Int → Bool) (l : List Int) : Bool :=
  if hl : l = [] then true else if hn : (nxp p l).2 = 0 then false else mayp p (l.drop (nxp p l).2)
termination_by l.length
decreasing_by
  have := List.length_pos_iff.2 hl
  rw [List.length_drop]; omega
/-- Where it is not; -1, if nowhere. -/
def bd (l : List Int) : Int :=
  if hl : l = [] then -1 else if hn : (nxp isc l).2 = 0 then 0 else if bd (l.drop (nxp isc l).2) < 0 then -1 else (nxp isc l).2 + bd (l.drop (nxp isc l).2)
termination_by l.length
decreasing_by
  all_goals
    have := List.length_pos_iff.2 hl
    rw [List.length_drop]; omega
theorem mayp_nil (p : Int → Bool) : mayp p [] = true := by rw [mayp]; rfl
theorem nxp_ne {p : Int → Bool} {l : List Int} (h : (nxp p l).2 ≠ 0) : l ≠ [] := fun e => by
  obtain ⟨_, h2, h3, _⟩ := nxp_pos h
  rw [e] at h3
  exact enc_ne _ (List.append_eq_nil_iff.1 h3.symm).1
theorem mayp_step {p : Int → Bool} {l : List Int} (h : (nxp p l).2 ≠ 0) : mayp p l = mayp p (l.drop (nxp p l).2) := by
  rw [mayp, dif_neg (nxp_ne h), dif_neg h]
theorem mayp_not {p : Int → Bool} {l : List Int} (hl : l ≠ []) (h : (nxp p l).2 = 0) : mayp p l = false := by rw [mayp, dif_neg hl, dif_pos h]
theorem bd_nil : bd [] = -1 := by rw [bd]; rfl
theorem bd_step {l : List Int} (h : (nxp isc l).2 ≠ 0) : bd l = if bd (l.drop (nxp isc l).2) < 0 then -1 else (nxp isc l).2 + bd (l.drop (nxp isc l).2) := by
  rw [bd, dif_neg (nxp_ne h), dif_neg h]
theorem bd_not {l : List Int} (hl : l ≠ []) (h : (nxp isc l).2 = 0) : bd l = 0 := by rw [bd, dif_neg hl, dif_pos h]
/-- By characters: an induction. -/
theorem chars_ind {p : Int → Bool} {P : List Int → Prop} (h0 : P []) (h1 : ∀ l, l ≠ [] → (nxp p l).2 = 0 → P l) (h2 : ∀ l, (nxp p l).2 ≠ 0 → P (l.drop (nxp p l).2) → P l) : ∀ (n : Nat) (l : List Int), l.length ≤ n → P l
  | 0, l, h => by
    have : l = [] := List.eq_nil_of_length_eq_zero (by omega)
    rw [this]; exact h0
  | n + 1, l, h => by
    by_cases hl : l = []
    · rw [hl]; exact h0
    · by_cases hn : (nxp p l).2 = 0
      · exact h1 l hl hn
      · have := List.length_pos_iff.2 hl
        exact h2 l hn (chars_ind h0 h1 h2 n _ (by rw [List.length_drop]; omega))
theorem chars_rec (p : Int → Bool) {P : List Int → Prop} (l : List Int) (h0 : P []) (h1 : ∀ l, l ≠ [] → (nxp p l).2 = 0 → P l) (h2 : ∀ l, (nxp p l).2 ≠ 0 → P (l.drop (nxp p l).2) → P l) : P l := chars_ind h0 h1 h2 l.length l (Nat.le_refl _)
theorem bd_may (l : List Int) : (mayp isc l = true → bd l = -1) ∧ (mayp isc l = false → 0 ≤ bd l ∧ bd l < l.length) := by
  refine chars_rec isc (P := fun l => (mayp isc l = true → bd l = -1) ∧ (mayp isc l = false → 0 ≤ bd l ∧ bd l < l.length)) l ?_ ?_ ?_
  · rw [show mayp isc [] = true from mayp_nil _, bd_nil]; exact ⟨fun _ => rfl, fun h => nomatch h⟩
  · intro l hl hn
    have := List.length_pos_iff.2 hl
    rw [show mayp isc l = false from mayp_not hl hn, bd_not hl hn]; exact ⟨(fun h => nomatch h), (fun _ => by omega)⟩
  · intro l hn ih
    have hle := nxp_le isc l
    rw [show mayp isc l = mayp isc (l.drop (nxp isc l).2) from mayp_step hn, bd_step hn]
    rw [List.length_drop] at ih
    refine ⟨fun h => by rw [ih.1 h, if_pos (by omega)], fun h => ?_⟩
    have := ih.2 h
    rw [if_neg (by omega)]; omega
theorem mayp_append {p : Int → Bool} (hp : Sort_ p) {a : List Int} (h : mayp p a = true) (b : List Int) : mayp p (a ++ b) = mayp p b := by
  revert h
  refine chars_rec p (P := fun a => mayp p a = true → mayp p (a ++ b) = mayp p b) a ?_ ?_ ?_
  · intro _; rfl
  · intro l hl hn h; rw [mayp_not hl hn] at h; cases h
  · intro l hn ih h
    rw [mayp_step hn] at h
    have hx := nxp_append hp hn b
    have hle := nxp_le p l
    rw [mayp_step (by rw [hx]; exact hn), hx, List.drop_append_of_le_length (by omega)]
    exact ih h
theorem mayp_enc {p : Int → Bool} (hp : Sort_ p) {r : Int} (h : p r = true) (m : List Int) : mayp p (enc r ++ m) = mayp p m := by
  have hx := nxp_enc hp h m
  have := enc_len r
  rw [mayp_step (by rw [hx]; show (enc r).length ≠ 0; omega), hx]
  show mayp p ((enc r ++ m).drop (enc r).length) = mayp p m
  rw [List.drop_left]
theorem mayp_take {p : Int → Bool} {l : List Int} (h : mayp p l = true) (hl : l ≠ []) : (nxp p l).2 ≠ 0 := fun e => by rw [mayp_not hl e] at h; cases h
/-- A text of characters is its characters' bytes. -/
theorem mayp_runes {p : Int → Bool} {l : List Int} (h : mayp p l = true) : ∃ rs : List Int, (∀ r ∈ rs, p r = true) ∧ l = rs.flatMap enc := by
  revert h
  refine chars_rec p (P := fun l => mayp p l = true → ∃ rs : List Int, (∀ r ∈ rs, p r = true) ∧ l = rs.flatMap enc) l ?_ ?_ ?_
  · intro _; exact ⟨[], by simp, rfl⟩
  · intro l hl hn h; rw [mayp_not hl hn] at h; cases h
  · intro l hn ih h
    rw [mayp_step hn] at h
    obtain ⟨rs, h1, h2⟩ := ih h
    obtain ⟨k1, k2, k3, _⟩ := nxp_pos hn
    refine ⟨(nxp p l).1 :: rs, ?_, ?_⟩
    · intro r hr
      rcases List.mem_cons.1 hr with rfl | hr
      · exact k1
      · exact h1 r hr
    · rw [List.flatMap_cons, ← h2]; exact k3
theorem mayp_of_runes {p : Int → Bool} (hp : Sort_ p) : ∀ (rs : List Int), (∀ r ∈ rs, p r = true) → ∀ m, mayp p (rs.flatMap enc ++ m) = mayp p m
  | [], _, m => rfl
  | r :: rs, h, m => by
    rw [List.flatMap_cons, List.append_assoc, mayp_enc hp (h r (by simp)), mayp_of_runes hp rs (fun x hx => h x (by simp [hx])) m]

/-- 'Next' at a place. -/
def nxr (s : ByteArray) (i : Int) : Int := if i < 0 then 0 else (nxp isc (at_ s i)).1
def nxn (s : ByteArray) (i : Int) : Int := if i < 0 then 0 else ((nxp isc (at_ s i)).2 : Int)
theorem nxn_range (s : ByteArray) (i : Int) : 0 ≤ nxn s i ∧ nxn s i ≤ 4 := by
  unfold nxn; split
  · omega
  · have := nxp_le isc (at_ s i); omega
theorem nxn_le (s : ByteArray) (i : Int) (h0 : 0 ≤ i) (h1 : i ≤ s.size) : i + nxn s i ≤ s.size := by
  unfold nxn; rw [if_neg (by omega)]
  have := nxp_le isc (at_ s i); have := at_length s i h0 h1; omega
theorem nxn_out (s : ByteArray) (i : Int) (h : i < 0 ∨ (s.size : Int) ≤ i) : nxr s i = 0 ∧ nxn s i = 0 := by
  unfold nxr nxn
  by_cases h0 : i < 0
  · rw [if_pos h0, if_pos h0]; exact ⟨rfl, rfl⟩
  · rw [if_neg h0, if_neg h0, at_nil s i (by omega), nx_nil]; exact ⟨rfl, rfl⟩
end Go.Proofs.YtjgpmfjkcioinaaDoor.M
