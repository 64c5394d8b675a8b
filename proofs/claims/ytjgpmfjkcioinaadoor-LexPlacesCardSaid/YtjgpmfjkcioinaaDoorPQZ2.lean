/-
  Plain mathematics for the scanner and the numbers: lists of bytes (as whole numbers) and where rows of them end. No program in sight.
-/
import Derived.Test.YtjgpmfjkcioinaaDoorPQWWords
namespace Go.Proofs.YtjgpmfjkcioinaaDoor.M
open Go.Proofs.YtjgpmfjkcioinaaDoorW.PrintWords
set_option linter.unusedVariables false
set_option linter.unusedSimpArgs false
def by_ (s : ByteArray) : List Int := s.data.toList.map fun b => (b.toNat : Int)
theorem by_length (s : ByteArray) : (by_ s).length = s.size := by simp [by_]
theorem by_append (a b : ByteArray) : by_ (a ++ b) = by_ a ++ by_ b := by simp [by_]
theorem by_extract (s : ByteArray) (i j : Nat) : by_ (s.extract i j) = ((by_ s).take j).drop i := by
  simp [by_, List.map_take, List.map_drop, List.extract_eq_take_drop, List.drop_take]
theorem by_mk (l : List UInt8) : by_ ⟨l.toArray⟩ = l.map fun b => (b.toNat : Int) := by simp [by_]
theorem by_range (s : ByteArray) : ∀ c ∈ by_ s, 0 ≤ c ∧ c ≤ 255 := by
  intro c hc
  simp only [by_, List.mem_map] at hc
  obtain ⟨b, _, rfl⟩ := hc
  have := b.toNat_lt
  omega
theorem map_inj {f : UInt8 → Int} (hf : ∀ x y, f x = f y → x = y) : ∀ (l m : List UInt8), l.map f = m.map f → l = m
  | [], [], _ => rfl
  | [], _ :: _, h => by simp at h
  | _ :: _, [], h => by simp at h
  | x :: l, y :: m, h => by
    simp only [List.map_cons, List.cons.injEq] at h
    rw [hf _ _ h.1, map_inj hf l m h.2]
theorem by_inj {a b : ByteArray} (h : by_ a = by_ b) : a = b := by
  have h1 : a.data.toList = b.data.toList := map_inj (fun x y e => UInt8.toNat_inj.1 (by omega)) _ _ h
  cases a; cases b
  simp only [ByteArray.mk.injEq]
  exact Array.toList_inj.1 h1
theorem bt_by (s : ByteArray) (i : Int) (h : i.toNat < s.size) : (by_ s)[i.toNat]? = some (bt s i) := by
  unfold bt by_
  rw [dif_pos h, List.getElem?_map, List.getElem?_eq_getElem (by simpa using h)]
  rfl
def at_ (s : ByteArray) (i : Int) : List Int := (by_ s).drop i.toNat
theorem at_nil (s : ByteArray) (i : Int) (h : (s.size : Int) ≤ i) : at_ s i = [] := by
  unfold at_; rw [List.drop_eq_nil_iff, by_length]; omega
theorem at_cons (s : ByteArray) (i : Int) (h0 : 0 ≤ i) (h : i < s.size) : at_ s i = bt s i :: at_ s (i + 1) := by
  have hb := bt_by s i (by omega)
  have hl := by_length s
  unfold at_
  rw [List.getElem?_eq_some_iff] at hb
  obtain ⟨h1, h2⟩ := hb
  rw [List.drop_eq_getElem_cons h1, h2]
  congr 2
  omega
theorem at_length (s : ByteArray) (i : Int) (h0 : 0 ≤ i) (h : i ≤ s.size) : ((at_ s i).length : Int) = s.size - i := by
  unfold at_; rw [List.length_drop, by_length]; omega
theorem at_zero (s : ByteArray) : at_ s 0 = by_ s := by simp [at_]
theorem at_range (s : ByteArray) (i : Int) : ∀ c ∈ at_ s i, 0 ≤ c ∧ c ≤ 255 := fun c hc => by_range s c (List.mem_of_mem_drop hc)
theorem at_add (s : ByteArray) (i : Int) (n : Nat) (h0 : 0 ≤ i) : at_ s (i + n) = (at_ s i).drop n := by
  unfold at_; rw [List.drop_drop]; congr 1; omega
def cnt (p : Int → Bool) : List Int → Nat
  | [] => 0
  | c :: l => if p c = true then cnt p l + 1 else 0
theorem cnt_le (p : Int → Bool) (l : List Int) : cnt p l ≤ l.length := by
  induction l with
  | nil => simp [cnt]
  | cons c l ih => simp only [cnt]; split <;> simp <;> omega
theorem cnt_nil (p : Int → Bool) : cnt p [] = 0 := rfl
theorem cnt_yes {p : Int → Bool} {c : Int} (l : List Int) (h : p c = true) : cnt p (c :: l) = cnt p l + 1 := by simp [cnt, h]
theorem cnt_no {p : Int → Bool} {c : Int} (l : List Int) (h : p c = false) : cnt p (c :: l) = 0 := by simp [cnt, h]
theorem cnt_all {p : Int → Bool} {a : List Int} (h : cnt p a = a.length) (b : List Int) : cnt p (a ++ b) = a.length + cnt p b := by
  induction a with
  | nil => simp
  | cons c a ih =>
    by_cases hc : p c = true
    · rw [cnt_yes _ hc, List.length_cons] at h
      rw [List.cons_append, cnt_yes _ hc, ih (by omega), List.length_cons]; omega
    · rw [Bool.not_eq_true] at hc
      rw [cnt_no _ hc, List.length_cons] at h; omega
theorem cnt_part {p : Int → Bool} {a : List Int} (h : cnt p a < a.length) (b : List Int) : cnt p (a ++ b) = cnt p a := by
  induction a with
  | nil => simp at h
  | cons c a ih =>
    by_cases hc : p c = true
    · rw [cnt_yes _ hc, List.length_cons] at h
      rw [List.cons_append, cnt_yes _ hc, cnt_yes _ hc, ih (by omega)]
    · rw [Bool.not_eq_true] at hc
      rw [List.cons_append, cnt_no _ hc, cnt_no _ hc]
def isLet (c : Int) : Bool := decide (65 ≤ c ∧ c ≤ 90 ∨ 97 ≤ c ∧ c ≤ 122 ∨ c = 95)
def isDig (c : Int) : Bool := decide (48 ≤ c ∧ c ≤ 57)
def isWord (c : Int) : Bool := isLet c || isDig c
def isBl (c : Int) : Bool := decide (c = 9 ∨ c = 10 ∨ c = 13 ∨ c = 32 ∨ c = 44)
def noEnd (c : Int) : Bool := decide (c ≠ 10 ∧ c ≠ 13)
def dig (l : List Int) : Nat := cnt isDig l
def name : List Int → Nat
  | [] => 0
  | c :: l => if isLet c = true then cnt isWord l + 1 else 0
def bl : Bool → List Int → Nat
  | _, [] => 0
  | b, c :: l =>
    if b = true then (if noEnd c = true then bl true l + 1 else bl false l + 1)
    else if isBl c = true then bl false l + 1
    else if c = 35 then bl true l + 1
    else if c = 239 then (match l with | 187 :: 191 :: m => bl false m + 3 | _ => 0)
    else 0
theorem bl_nil (b : Bool) : bl b [] = 0 := by cases b <;> rfl
theorem bl_true (c : Int) (l : List Int) : bl true (c :: l) = if noEnd c = true then bl true l + 1 else bl false l + 1 := by
  rw [bl.eq_def]; simp
theorem bl_false (c : Int) (l : List Int) : bl false (c :: l) = if isBl c = true then bl false l + 1 else if c = 35 then bl true l + 1 else if c = 239 then (match l with | 187 :: 191 :: m => bl false m + 3 | _ => 0) else 0 := by
  rw [bl.eq_def]; simp
end Go.Proofs.YtjgpmfjkcioinaaDoor.M
namespace Go.Proofs.YtjgpmfjkcioinaaDoor.M
open Go.Proofs.YtjgpmfjkcioinaaDoorW.PrintWords
set_option linter.unusedVariables false
set_option linter.unusedSimpArgs false
def isc (r : Int) : Bool := decide (r = 9 ∨ r = 10 ∨ r = 13 ∨ 32 ≤ r ∧ r ≤ 1114111 ∧ (r < 55296 ∨ 57343 < r))
def isv (r : Int) : Bool := decide (0 ≤ r ∧ r ≤ 1114111 ∧ (r < 55296 ∨ 57343 < r))
def enc (r : Int) : List Int :=
  if r < 128 then [r]
  else if r < 2048 then [192 + r / 64, 128 + r % 64]
  else if r < 65536 then [224 + r / 4096, 128 + r / 64 % 64, 128 + r % 64]
  else [240 + r / 262144, 128 + r / 4096 % 64, 128 + r / 64 % 64, 128 + r % 64]
def gs (l : List Int) : Int :=
  if l.getD 0 (-1) < 128 then l.getD 0 (-1)
  else if l.getD 0 (-1) < 224 then l.getD 0 (-1) % 32 * 64 + l.getD 1 0 % 64
  else if l.getD 0 (-1) < 240 then l.getD 0 (-1) % 16 * 4096 + l.getD 1 0 % 64 * 64 + l.getD 2 0 % 64
  else l.getD 0 (-1) % 8 * 262144 + l.getD 1 0 % 64 * 4096 + l.getD 2 0 % 64 * 64 + l.getD 3 0 % 64
def nxp (p : Int → Bool) (l : List Int) : Int × Nat := if p (gs l) = true ∧ (enc (gs l)).isPrefixOf l = true then (gs l, (enc (gs l)).length) else (0, 0)
def Sort_ (p : Int → Bool) : Prop := ∀ r, p r = true → isv r = true
theorem isv_of_isc {r : Int} (h : isc r = true) : isv r = true := by simp only [isc, isv, decide_eq_true_eq] at *; omega
theorem isv_iff {r : Int} : isv r = true ↔ 0 ≤ r ∧ r ≤ 1114111 ∧ (r < 55296 ∨ 57343 < r) := by simp [isv]
theorem isc_iff {r : Int} : isc r = true ↔ r = 9 ∨ r = 10 ∨ r = 13 ∨ 32 ≤ r ∧ r ≤ 1114111 ∧ (r < 55296 ∨ 57343 < r) := by simp [isc]
theorem enc_len (r : Int) : 1 ≤ (enc r).length ∧ (enc r).length ≤ 4 := by
  unfold enc; repeat' split
  all_goals simp
theorem enc_ne (r : Int) : enc r ≠ [] := fun h => by have := enc_len r; rw [h] at this; simp at this
theorem enc_low {r : Int} (h : r < 128) : enc r = [r] := by unfold enc; rw [if_pos h]
theorem gs_enc {r : Int} (h : isv r = true) (m : List Int) : gs (enc r ++ m) = r := by
  rw [isv_iff] at h
  unfold enc
  split
  · simp only [List.cons_append, List.nil_append, gs, List.getD_cons_zero]; rw [if_pos (by omega)]
  · split
    · simp only [List.cons_append, List.nil_append, gs, List.getD_cons_zero, List.getD_cons_succ]
      rw [if_neg (by omega), if_pos (by omega)]; omega
    · split
      · simp only [List.cons_append, List.nil_append, gs, List.getD_cons_zero, List.getD_cons_succ]
        rw [if_neg (by omega), if_neg (by omega), if_pos (by omega)]; omega
      · simp only [List.cons_append, List.nil_append, gs, List.getD_cons_zero, List.getD_cons_succ]
        rw [if_neg (by omega), if_neg (by omega), if_neg (by omega)]; omega
theorem sort_isc : Sort_ isc := fun r h => isv_of_isc h
theorem nxp_enc {p : Int → Bool} (hp : Sort_ p) {r : Int} (h : p r = true) (m : List Int) : nxp p (enc r ++ m) = (r, (enc r).length) := by
  unfold nxp
  rw [gs_enc (hp _ h), if_pos ⟨h, by rw [List.isPrefixOf_iff_prefix]; exact List.prefix_append _ _⟩]
theorem nxp_pos {p : Int → Bool} {l : List Int} (h : (nxp p l).2 ≠ 0) : p (nxp p l).1 = true ∧ (nxp p l).2 = (enc (nxp p l).1).length ∧ l = enc (nxp p l).1 ++ l.drop (nxp p l).2 ∧ l.take (nxp p l).2 = enc (nxp p l).1 := by
  unfold nxp at h ⊢
  split at h
  · rename_i c
    rw [if_pos c]
    obtain ⟨m, hm⟩ := List.isPrefixOf_iff_prefix.1 c.2
    have e1 : l.drop (enc (gs l)).length = m := by
      have := congrArg (List.drop (enc (gs l)).length) hm
      rw [List.drop_left] at this; exact this.symm
    have e2 : l.take (enc (gs l)).length = enc (gs l) := by
      have := congrArg (List.take (enc (gs l)).length) hm
      rw [List.take_left] at this; exact this.symm
    refine ⟨c.1, rfl, ?_, e2⟩
    show l = enc (gs l) ++ l.drop (enc (gs l)).length
    rw [e1]; exact hm.symm
  · exact absurd rfl h
theorem nxp_zero {p : Int → Bool} {l : List Int} (h : (nxp p l).2 = 0) : nxp p l = (0, 0) := by
  unfold nxp at h ⊢
  split
  · rename_i c
    rw [if_pos c] at h
    have := enc_len (gs l)
    simp only at h; omega
  · rfl
theorem nxp_nil {p : Int → Bool} (hp : Sort_ p) : nxp p [] = (0, 0) := by
  unfold nxp
  rw [if_neg]
  intro h
  have := hp _ h.1
  revert this
  decide
theorem nx_nil : nxp isc [] = (0, 0) := nxp_nil sort_isc
theorem nxp_le (p : Int → Bool) (l : List Int) : (nxp p l).2 ≤ l.length ∧ (nxp p l).2 ≤ 4 := by
  by_cases h : (nxp p l).2 = 0
  · omega
  · obtain ⟨_, h2, h3, _⟩ := nxp_pos h
    have := enc_len (nxp p l).1
    have h4 := congrArg List.length h3
    rw [List.length_append, List.length_drop] at h4
    omega
theorem nxp_append {p : Int → Bool} (hp : Sort_ p) {l : List Int} (h : (nxp p l).2 ≠ 0) (m : List Int) : nxp p (l ++ m) = nxp p l := by
  obtain ⟨h1, h2, h3, _⟩ := nxp_pos h
  have e : l ++ m = enc (nxp p l).1 ++ (l.drop (nxp p l).2 ++ m) := by rw [← List.append_assoc, ← h3]
  rw [e, nxp_enc hp h1, ← h2]
theorem enc_high {r : Int} (hr : isv r = true) (h : ¬ r < 128) : ∀ c ∈ enc r, 128 ≤ c ∧ c ≤ 255 := by
  rw [isv_iff] at hr
  intro c hc
  unfold enc at hc
  rw [if_neg h] at hc
  split at hc
  · simp only [List.mem_cons, List.not_mem_nil, or_false] at hc; omega
  · split at hc
    · simp only [List.mem_cons, List.not_mem_nil, or_false] at hc; omega
    · simp only [List.mem_cons, List.not_mem_nil, or_false] at hc; omega
theorem enc_range {r : Int} (hr : isv r = true) : ∀ c ∈ enc r, 0 ≤ c ∧ c ≤ 255 := by
  intro c hc
  by_cases h : r < 128
  · rw [enc_low h] at hc; simp only [List.mem_cons, List.not_mem_nil, or_false] at hc; rw [isv_iff] at hr; omega
  · have := enc_high hr h c hc; omega
def mayp (p : Int → Bool) (l : List Int) : Bool :=
  if hl : l = [] then true else if hn : (nxp p l).2 = 0 then false else mayp p (l.drop (nxp p l).2)
termination_by l.length
decreasing_by
  have := List.length_pos_iff.2 hl
  rw [List.length_drop]; omega
def bd (l : List Int) : Int :=
  if hl : l = [] then -1 else if hn : (nxp isc l).2 = 0 then 0 else if bd (l.drop (nxp isc l).2) < 0 then -1 else (nxp isc l).2 + bd (l.drop (nxp isc l).2)
termination_by l.length
decreasing_by
  all_goals
    have := List.length_pos_iff.2 hl
    rw [List.length_drop]; omega
theorem mayp_nil (p : Int → Bool) : mayp p [] = true := by rw [mayp]; rfl
theorem nxp_ne {p : Int → Bool} {l : List Int} (h : (nxp p l).2 ≠ 0) : l ≠ [] := fun e => by
  obtain ⟨_, h2, h3, _⟩ := nxp_pos h
  rw [e] at h3
  exact enc_ne _ (List.append_eq_nil_iff.1 h3.symm).1
theorem mayp_step {p : Int → Bool} {l : List Int} (h : (nxp p l).2 ≠ 0) : mayp p l = mayp p (l.drop (nxp p l).2) := by
  rw [mayp, dif_neg (nxp_ne h), dif_neg h]
theorem mayp_not {p : Int → Bool} {l : List Int} (hl : l ≠ []) (h : (nxp p l).2 = 0) : mayp p l = false := by rw [mayp, dif_neg hl, dif_pos h]
theorem bd_nil : bd [] = -1 := by rw [bd]; rfl
theorem bd_step {l : List Int} (h : (nxp isc l).2 ≠ 0) : bd l = if bd (l.drop (nxp isc l).2) < 0 then -1 else (nxp isc l).2 + bd (l.drop (nxp isc l).2) := by
  rw [bd, dif_neg (nxp_ne h), dif_neg h]
theorem bd_not {l : List Int} (hl : l ≠ []) (h : (nxp isc l).2 = 0) : bd l = 0 := by rw [bd, dif_neg hl, dif_pos h]
theorem chars_ind {p : Int → Bool} {P : List Int → Prop} (h0 : P []) (h1 : ∀ l, l ≠ [] → (nxp p l).2 = 0 → P l) (h2 : ∀ l, (nxp p l).2 ≠ 0 → P (l.drop (nxp p l).2) → P l) : ∀ (n : Nat) (l : List Int), l.length ≤ n → P l
  | 0, l, h => by
    have : l = [] := List.eq_nil_of_length_eq_zero (by omega)
    rw [this]; exact h0
  | n + 1, l, h => by
    by_cases hl : l = []
    · rw [hl]; exact h0
    · by_cases hn : (nxp p l).2 = 0
      · exact h1 l hl hn
      · have := List.length_pos_iff.2 hl
        exact h2 l hn (chars_ind h0 h1 h2 n _ (by rw [List.length_drop]; omega))
theorem chars_rec (p : Int → Bool) {P : List Int → Prop} (l : List Int) (h0 : P []) (h1 : ∀ l, l ≠ [] → (nxp p l).2 = 0 → P l) (h2 : ∀ l, (nxp p l).2 ≠ 0 → P (l.drop (nxp p l).2) → P l) : P l := chars_ind h0 h1 h2 l.length l (Nat.le_refl _)
theorem bd_may (l : List Int) : (mayp isc l = true → bd l = -1) ∧ (mayp isc l = false → 0 ≤ bd l ∧ bd l < l.length) := by
  refine chars_rec isc (P := fun l => (mayp isc l = true → bd l = -1) ∧ (mayp isc l = false → 0 ≤ bd l ∧ bd l < l.length)) l ?_ ?_ ?_
  · rw [show mayp isc [] = true from mayp_nil _, bd_nil]; exact ⟨fun _ => rfl, fun h => nomatch h⟩
  · intro l hl hn
    have := List.length_pos_iff.2 hl
    rw [show mayp isc l = false from mayp_not hl hn, bd_not hl hn]; exact ⟨(fun h => nomatch h), (fun _ => by omega)⟩
  · intro l hn ih
    have hle := nxp_le isc l
    rw [show mayp isc l = mayp isc (l.drop (nxp isc l).2) from mayp_step hn, bd_step hn]
    rw [List.length_drop] at ih
    refine ⟨fun h => by rw [ih.1 h, if_pos (by omega)], fun h => ?_⟩
    have := ih.2 h
    rw [if_neg (by omega)]; omega
theorem mayp_append {p : Int → Bool} (hp : Sort_ p) {a : List Int} (h : mayp p a = true) (b : List Int) : mayp p (a ++ b) = mayp p b := by
  revert h
  refine chars_rec p (P := fun a => mayp p a = true → mayp p (a ++ b) = mayp p b) a ?_ ?_ ?_
  · intro _; rfl
  · intro l hl hn h; rw [mayp_not hl hn] at h; cases h
  · intro l hn ih h
    rw [mayp_step hn] at h
    have hx := nxp_append hp hn b
    have hle := nxp_le p l
    rw [mayp_step (by rw [hx]; exact hn), hx, List.drop_append_of_le_length (by omega)]
    exact ih h
theorem mayp_enc {p : Int → Bool} (hp : Sort_ p) {r : Int} (h : p r = true) (m : List Int) : mayp p (enc r ++ m) = mayp p m := by
  have hx := nxp_enc hp h m
  have := enc_len r
  rw [mayp_step (by rw [hx]; show (enc r).length ≠ 0; omega), hx]
  show mayp p ((enc r ++ m).drop (enc r).length) = mayp p m
  rw [List.drop_left]
def nxr (s : ByteArray) (i : Int) : Int := if i < 0 then 0 else (nxp isc (at_ s i)).1
def nxn (s : ByteArray) (i : Int) : Int := if i < 0 then 0 else ((nxp isc (at_ s i)).2 : Int)
theorem nxn_range (s : ByteArray) (i : Int) : 0 ≤ nxn s i ∧ nxn s i ≤ 4 := by
  unfold nxn; split
  · omega
  · have := nxp_le isc (at_ s i); omega
theorem nxn_le (s : ByteArray) (i : Int) (h0 : 0 ≤ i) (h1 : i ≤ s.size) : i + nxn s i ≤ s.size := by
  unfold nxn; rw [if_neg (by omega)]
  have := nxp_le isc (at_ s i); have := at_length s i h0 h1; omega
theorem nxn_out (s : ByteArray) (i : Int) (h : i < 0 ∨ (s.size : Int) ≤ i) : nxr s i = 0 ∧ nxn s i = 0 := by
  unfold nxr nxn
  by_cases h0 : i < 0
  · rw [if_pos h0, if_pos h0]; exact ⟨rfl, rfl⟩
  · rw [if_neg h0, if_neg h0, at_nil s i (by omega), nx_nil]; exact ⟨rfl, rfl⟩
end Go.Proofs.YtjgpmfjkcioinaaDoor.M
namespace Go.Proofs.YtjgpmfjkcioinaaDoor.M
open Go.Proofs.YtjgpmfjkcioinaaDoorW.PrintWords
set_option linter.unusedVariables false
set_option linter.unusedSimpArgs false
def fl : Bool → List Int → List (List Int)
  | _, [] => [[]]
  | b, c :: l => if c = 10 ∧ b = true then fl false l else if c = 10 ∨ c = 13 then [] :: fl (decide (c = 13)) l else (c :: (fl false l).headD []) :: (fl false l).tail
theorem fl_nil (b : Bool) : fl b [] = [[]] := by cases b <;> rfl
theorem fl_ten (l : List Int) : fl false (10 :: l) = [] :: fl false l := by rw [fl, if_neg (by decide), if_pos (by decide)]; rfl
theorem fl_ten' (l : List Int) : fl true (10 :: l) = fl false l := by rw [fl, if_pos (by decide)]
theorem fl_cr (b : Bool) (l : List Int) : fl b (13 :: l) = [] :: fl true l := by rw [fl, if_neg (by simp), if_pos (by decide)]; rfl
theorem fl_other {c : Int} (h0 : c ≠ 10) (h1 : c ≠ 13) (b : Bool) (l : List Int) : fl b (c :: l) = (c :: (fl false l).headD []) :: (fl false l).tail := by
  rw [fl, if_neg (by simp [h0]), if_neg (by simp [h0, h1])]
theorem noEnd_iff {c : Int} : noEnd c = true ↔ c ≠ 10 ∧ c ≠ 13 := by simp [noEnd]
theorem fl_true {l : List Int} (h : l.getD 0 0 ≠ 10) : fl true l = fl false l := by
  cases l with
  | nil => rfl
  | cons c l =>
    have h0 : c ≠ 10 := h
    by_cases h1 : c = 13
    · subst h1; rw [fl_cr, fl_cr]
    · rw [fl_other h0 h1, fl_other h0 h1]
theorem fl_ne : ∀ (b : Bool) (l : List Int), fl b l ≠ []
  | b, [] => by rw [fl_nil]; simp
  | b, c :: l => by
    rw [fl]
    split
    · exact fl_ne false l
    · split <;> simp
theorem fl_head (b : Bool) (l : List Int) : fl b l = (fl b l).headD [] :: (fl b l).tail := by
  cases h : fl b l with
  | nil => exact absurd h (fl_ne b l)
  | cons x r => rfl
theorem fl_pos (b : Bool) (l : List Int) : 1 ≤ (fl b l).length := List.length_pos_iff.2 (fl_ne b l)
theorem fl_length : ∀ (b : Bool) (l : List Int), (fl b l).length ≤ l.length + 1
  | b, [] => by rw [fl_nil]; simp
  | b, c :: l => by
    have h1 := fl_length false l
    have h2 := fl_length (decide (c = 13)) l
    rw [fl]
    split
    · simp; omega
    · split
      · simp; omega
      · simp only [List.length_cons, List.length_tail]; omega
theorem fl_cut : ∀ (l : List Int), cnt noEnd l < l.length → ∃ c m, l.drop (cnt noEnd l) = c :: m ∧ (c = 10 ∨ c = 13) ∧ fl false l = l.take (cnt noEnd l) :: fl (decide (c = 13)) m
  | [], h => by simp [cnt] at h
  | d :: l, h => by
    by_cases hd : noEnd d = true
    · rw [cnt_yes _ hd] at h ⊢
      obtain ⟨c, m, h1, h2, h3⟩ := fl_cut l (by simp at h; omega)
      refine ⟨c, m, by rw [List.drop_succ_cons]; exact h1, h2, ?_⟩
      rw [fl_other (noEnd_iff.1 hd).1 (noEnd_iff.1 hd).2, h3, List.take_succ_cons]; rfl
    · rw [Bool.not_eq_true] at hd
      have hc : d = 10 ∨ d = 13 := by
        by_cases a : d = 10
        · exact .inl a
        · by_cases b : d = 13
          · exact .inr b
          · rw [noEnd_iff.2 ⟨a, b⟩] at hd; cases hd
      rw [cnt_no _ hd]
      refine ⟨d, l, rfl, hc, ?_⟩
      rcases hc with rfl | rfl
      · rw [fl_ten]; rfl
      · rw [fl_cr]; rfl
theorem fl_plain : ∀ (b : Bool) (l : List Int), (∀ c ∈ l, noEnd c = true) → fl b l = [l]
  | b, [], _ => fl_nil b
  | b, c :: l, h => by
    have hc := noEnd_iff.1 (h c (by simp))
    rw [fl_other hc.1 hc.2, fl_plain false l (fun x hx => h x (by simp [hx]))]; rfl
theorem cnt_full {p : Int → Bool} : ∀ {l : List Int}, cnt p l = l.length → ∀ c ∈ l, p c = true
  | [], _, c, hc => by cases hc
  | d :: l, h, c, hc => by
    by_cases hd : p d = true
    · rw [cnt_yes _ hd, List.length_cons] at h
      rcases List.mem_cons.1 hc with rfl | hc
      · exact hd
      · exact cnt_full (l := l) (by omega) c hc
    · rw [Bool.not_eq_true] at hd
      rw [cnt_no _ hd, List.length_cons] at h; omega
theorem fl_uncut {l : List Int} (h : ¬ cnt noEnd l < l.length) : fl false l = [l] :=
  fl_plain false l (cnt_full (by have := cnt_le noEnd l; omega))
theorem fl_mem : ∀ (b : Bool) (l x : List Int), x ∈ fl b l → ∀ c ∈ x, noEnd c = true ∧ c ∈ l
  | b, [], x, hx, c, hc => by
    rw [fl_nil, List.mem_singleton] at hx; subst hx; cases hc
  | b, d :: l, x, hx, c, hc => by
    rw [fl] at hx
    split at hx
    · have := fl_mem false l x hx c hc; exact ⟨this.1, List.mem_cons_of_mem _ this.2⟩
    · split at hx
      · rcases List.mem_cons.1 hx with rfl | hx
        · cases hc
        · have := fl_mem _ l x hx c hc; exact ⟨this.1, List.mem_cons_of_mem _ this.2⟩
      · rename_i q
        rcases List.mem_cons.1 hx with rfl | hx
        · rcases List.mem_cons.1 hc with rfl | hc
          · exact ⟨noEnd_iff.2 (by omega), by simp⟩
          · have := fl_mem false l ((fl false l).headD []) (by rw [fl_head false l]; simp) c hc; exact ⟨this.1, List.mem_cons_of_mem _ this.2⟩
        · have := fl_mem false l x (List.mem_of_mem_tail hx) c hc; exact ⟨this.1, List.mem_cons_of_mem _ this.2⟩
def jn : List (List Int) → List Int
  | [] => []
  | x :: r => x ++ r.flatMap (fun y => 10 :: y)
theorem jn_cons {x : List Int} {r : List (List Int)} (h : r ≠ []) : jn (x :: r) = x ++ 10 :: jn r := by
  cases r with
  | nil => exact absurd rfl h
  | cons y r => rfl
def isWs (c : Int) : Bool := decide (c = 9 ∨ c = 32)
def marg (l : List Int) : Nat := cnt isWs l
def blk (l : List Int) : Bool := decide (marg l = l.length)
theorem marg_le (l : List Int) : marg l ≤ l.length := cnt_le _ _
def ind : Int → List (List Int) → Int
  | a, [] => a
  | a, x :: r => if blk x = false ∧ (a < 0 ∨ (marg x : Int) < a) then ind (marg x) r else ind a r
def indent (l : List (List Int)) : Int := ind (-1) l.tail
theorem ind_ge : ∀ (r : List (List Int)) (a : Int), -1 ≤ a → -1 ≤ ind a r
  | [], a, h => h
  | x :: r, a, h => by
    rw [ind]
    split
    · exact ind_ge r _ (by omega)
    · exact ind_ge r a h
def headless (r : List (List Int)) : List (List Int) := r.dropWhile blk
def tailless : List (List Int) → List (List Int)
  | [] => []
  | x :: r => if blk x = true ∧ tailless r = [] then [] else x :: tailless r
def strip (r : List (List Int)) : List (List Int) := tailless (headless r)
def cutAll (n : Nat) (l : List (List Int)) : List (List Int) := match l with | [] => [] | x :: r => x :: r.map (List.drop n)
def foldl_ (l : List (List Int)) : List (List Int) := strip (cutAll (indent l).toNat l)
def foldL (l : List Int) : List Int := jn (foldl_ (fl false l))
theorem headless_blk {x : List Int} (h : blk x = true) (r : List (List Int)) : headless (x :: r) = headless r := by unfold headless; rw [List.dropWhile_cons, if_pos h]
theorem headless_no {x : List Int} (h : blk x = false) (r : List (List Int)) : headless (x :: r) = x :: r := by unfold headless; rw [List.dropWhile_cons, if_neg (by simp [h])]
theorem tailless_blk : ∀ (r : List (List Int)) {x : List Int}, blk x = true → tailless (r ++ [x]) = tailless r
  | [], x, h => by rw [List.nil_append]; show tailless (x :: []) = []; rw [tailless]; exact if_pos ⟨h, rfl⟩
  | y :: r, x, h => by rw [List.cons_append, tailless, tailless, tailless_blk r h]
theorem tailless_id : ∀ (r : List (List Int)), (∀ x, r.getLast? = some x → blk x = false) → tailless r = r
  | [], _ => rfl
  | [x], h => by rw [tailless, if_neg (by simp [h x rfl])]; rfl
  | x :: y :: r, h => by
    have ih := tailless_id (y :: r) (fun z hz => h z (by rw [List.getLast?_cons_cons]; exact hz))
    rw [tailless, ih, if_neg (by simp)]
end Go.Proofs.YtjgpmfjkcioinaaDoor.M
namespace Go.Proofs.YtjgpmfjkcioinaaDoor.M
open Go.Proofs.YtjgpmfjkcioinaaDoorW.PrintWords
set_option linter.unusedVariables false
set_option linter.unusedSimpArgs false
def sz (r : List (List Int)) : Nat := (r.map fun x => x.length + 1).sum
theorem sz_cons (x : List Int) (r : List (List Int)) : sz (x :: r) = x.length + 1 + sz r := by unfold sz; rw [List.map_cons, List.sum_cons]
theorem sz_fl : ∀ (b : Bool) (l : List Int), sz (fl b l) ≤ l.length + 1
  | b, [] => by rw [fl_nil]; decide
  | b, c :: l => by
    have h1 := sz_fl false l
    have h2 := sz_fl (decide (c = 13)) l
    rw [fl]
    split
    · simp; omega
    · split
      · rw [sz_cons]; simp; omega
      · rw [fl_head false l, sz_cons] at h1
        rw [sz_cons]
        simp at h1 ⊢; omega
end Go.Proofs.YtjgpmfjkcioinaaDoor.M
namespace Go.Proofs.YtjgpmfjkcioinaaDoor.M
open Go.Proofs.YtjgpmfjkcioinaaDoorW.PrintWords
set_option linter.unusedVariables false
set_option linter.unusedSimpArgs false
def three (l : List Int) : Bool := decide (l.take 3 = [34, 34, 34])
def thre4 (l : List Int) : Bool := decide (l.take 4 = [92, 34, 34, 34])
def radd (n : Nat) (t : List Int) (q : Bool × List Int × Nat) : Bool × List Int × Nat := if q.1 = true then (true, t ++ q.2.1, n + q.2.2) else (false, [], n + q.2.2)
def rawB (l : List Int) : Bool × List Int × Nat :=
  if hl : l = [] then (false, [], 0)
  else if three l = true then (true, [], 3)
  else if thre4 l = true then radd 4 [34, 34, 34] (rawB (l.drop 4))
  else if hn : (nxp isc l).2 = 0 then (false, [], 0)
  else radd (nxp isc l).2 (l.take (nxp isc l).2) (rawB (l.drop (nxp isc l).2))
termination_by l.length
decreasing_by
  · have := List.length_pos_iff.2 hl
    rw [List.length_drop]; omega
  · have := List.length_pos_iff.2 hl
    rw [List.length_drop]; omega
theorem rawB_nil : rawB [] = (false, [], 0) := by rw [rawB]; rfl
theorem rawB_end {l : List Int} (h : three l = true) : rawB l = (true, [], 3) := by
  have hl : l ≠ [] := fun e => by rw [e] at h; cases h
  rw [rawB, dif_neg hl, if_pos h]
theorem rawB_esc {l : List Int} (h : thre4 l = true) : rawB l = radd 4 [34, 34, 34] (rawB (l.drop 4)) := by
  have hl : l ≠ [] := fun e => by rw [e] at h; cases h
  have h3 : ¬ three l = true := fun q => by
    unfold three thre4 at *
    have q := of_decide_eq_true q
    have h := of_decide_eq_true h
    cases l with
    | nil => cases h
    | cons a m => simp at q h; omega
  conv => lhs; rw [rawB, dif_neg hl, if_neg h3, if_pos h]
theorem rawB_no {l : List Int} (h : three l = false) (h4 : thre4 l = false) (hn : (nxp isc l).2 = 0) : rawB l = (false, [], 0) := by
  by_cases hl : l = []
  · subst hl; exact rawB_nil
  · rw [rawB, dif_neg hl, if_neg (by simp [h]), if_neg (by simp [h4]), dif_pos hn]
theorem rawB_step {l : List Int} (h : three l = false) (h4 : thre4 l = false) (hn : (nxp isc l).2 ≠ 0) : rawB l = radd (nxp isc l).2 (l.take (nxp isc l).2) (rawB (l.drop (nxp isc l).2)) := by
  conv => lhs; rw [rawB, dif_neg (nxp_ne hn), if_neg (by simp [h]), if_neg (by simp [h4]), dif_neg hn]
theorem three_iff {l : List Int} : three l = true ↔ ∃ m, l = 34 :: 34 :: 34 :: m := by
  unfold three
  rw [decide_eq_true_eq]
  constructor
  · intro h
    refine ⟨l.drop 3, ?_⟩
    conv => lhs; rw [← List.take_append_drop 3 l, h]
    rfl
  · rintro ⟨m, rfl⟩; rfl
theorem thre4_iff {l : List Int} : thre4 l = true ↔ ∃ m, l = 92 :: 34 :: 34 :: 34 :: m := by
  unfold thre4
  rw [decide_eq_true_eq]
  constructor
  · intro h
    refine ⟨l.drop 4, ?_⟩
    conv => lhs; rw [← List.take_append_drop 4 l, h]
    rfl
  · rintro ⟨m, rfl⟩; rfl
theorem radd_yes {n : Nat} {t : List Int} {q : Bool × List Int × Nat} (h : (radd n t q).1 = true) : q.1 = true ∧ radd n t q = (true, t ++ q.2.1, n + q.2.2) := by
  unfold radd at *
  split at h
  · rename_i e; exact ⟨e, by rw [if_pos e]⟩
  · cases h
theorem raw_ind {P : List Int → Prop} (h0 : P []) (h1 : ∀ l, three l = true → P l) (h2 : ∀ l, thre4 l = true → P (l.drop 4) → P l) (h3 : ∀ l, l ≠ [] → three l = false → thre4 l = false → (nxp isc l).2 = 0 → P l)
    (h4 : ∀ l, three l = false → thre4 l = false → (nxp isc l).2 ≠ 0 → P (l.drop (nxp isc l).2) → P l) : ∀ (n : Nat) (l : List Int), l.length ≤ n → P l
  | 0, l, hl => by rw [List.eq_nil_of_length_eq_zero (Nat.le_zero.1 hl)]; exact h0
  | n + 1, l, hl => by
    by_cases e : l = []
    · rw [e]; exact h0
    have hp := List.length_pos_iff.2 e
    cases a : three l with
    | true => exact h1 l a
    | false =>
      cases b : thre4 l with
      | true => exact h2 l b (raw_ind h0 h1 h2 h3 h4 n _ (by rw [List.length_drop]; omega))
      | false =>
        by_cases c : (nxp isc l).2 = 0
        · exact h3 l e a b c
        · exact h4 l a b c (raw_ind h0 h1 h2 h3 h4 n _ (by rw [List.length_drop]; omega))
theorem rawB_false (l : List Int) : (rawB l).1 = false → (rawB l).2.1 = [] ∧ (rawB l).2.2 ≤ l.length := by
  refine raw_ind (P := fun l => (rawB l).1 = false → (rawB l).2.1 = [] ∧ (rawB l).2.2 ≤ l.length) ?_ ?_ ?_ ?_ ?_ l.length l (Nat.le_refl _)
  · intro _; rw [rawB_nil]; exact ⟨rfl, Nat.zero_le _⟩
  · intro l h q; rw [rawB_end h] at q; cases q
  · intro l h ih q
    obtain ⟨m, rfl⟩ := thre4_iff.1 h
    rw [rawB_esc h] at q ⊢
    have hd : (92 :: 34 :: 34 :: 34 :: m : List Int).drop 4 = m := rfl
    rw [hd] at q ih ⊢
    cases e : (rawB m).1 with
    | true => unfold radd at q; rw [if_pos e] at q; cases q
    | false =>
      have := ih e
      unfold radd
      rw [if_neg (by simp [e])]
      exact ⟨rfl, by show 4 + _ ≤ _; simp; omega⟩
  · intro l _ h h4 hn _; rw [rawB_no h h4 hn]; exact ⟨rfl, Nat.zero_le _⟩
  · intro l h h4 hn ih q
    have hle := nxp_le isc l
    rw [rawB_step h h4 hn] at q ⊢
    cases e : (rawB (l.drop (nxp isc l).2)).1 with
    | true => unfold radd at q; rw [if_pos e] at q; cases q
    | false =>
      have := ih e
      unfold radd
      rw [if_neg (by simp [e])]
      rw [List.length_drop] at this
      exact ⟨rfl, by show _ + _ ≤ _; omega⟩
theorem rawB_own (l : List Int) : (rawB l).1 = true → 3 ≤ (rawB l).2.2 ∧ (rawB l).2.2 ≤ l.length ∧ (l.take (rawB l).2.2).drop ((rawB l).2.2 - 3) = [34, 34, 34] ∧ ∀ b, rawB (l.take (rawB l).2.2 ++ b) = rawB l := by
  refine raw_ind (P := fun l => (rawB l).1 = true → 3 ≤ (rawB l).2.2 ∧ (rawB l).2.2 ≤ l.length ∧ (l.take (rawB l).2.2).drop ((rawB l).2.2 - 3) = [34, 34, 34] ∧ ∀ b, rawB (l.take (rawB l).2.2 ++ b) = rawB l) ?_ ?_ ?_ ?_ ?_ l.length l (Nat.le_refl _)
  · intro h; rw [rawB_nil] at h; cases h
  · intro l h _
    obtain ⟨m, rfl⟩ := three_iff.1 h
    rw [rawB_end h]
    refine ⟨Nat.le_refl _, by simp, rfl, fun b => ?_⟩
    exact rawB_end (three_iff.2 ⟨b, rfl⟩)
  · intro l h ih q
    obtain ⟨m, rfl⟩ := thre4_iff.1 h
    rw [rawB_esc h] at q ⊢
    have hd : (92 :: 34 :: 34 :: 34 :: m : List Int).drop 4 = m := rfl
    rw [hd] at q ih ⊢
    obtain ⟨q1, q2⟩ := radd_yes q
    obtain ⟨i1, i2, i3, i4⟩ := ih q1
    rw [q2]
    obtain ⟨N, hN⟩ : ∃ N, (rawB m).2.2 = N := ⟨_, rfl⟩
    have et : (92 :: 34 :: 34 :: 34 :: m : List Int).take (4 + N) = 92 :: 34 :: 34 :: 34 :: m.take N := by rw [show 4 + N = N + 1 + 1 + 1 + 1 by omega]; rfl
    rw [hN] at i1 i2 i3 i4
    show 3 ≤ 4 + (rawB m).2.2 ∧ 4 + (rawB m).2.2 ≤ _ ∧ List.drop (4 + (rawB m).2.2 - 3) (List.take (4 + (rawB m).2.2) _) = _ ∧ ∀ b, rawB (List.take (4 + (rawB m).2.2) _ ++ b) = _
    rw [hN, et]
    refine ⟨by omega, by simp; omega, ?_, fun b => ?_⟩
    · rw [show 4 + N - 3 = (N - 3) + 1 + 1 + 1 + 1 by omega]; exact i3
    · show rawB (92 :: 34 :: 34 :: 34 :: (m.take N ++ b)) = _
      rw [rawB_esc (thre4_iff.2 ⟨m.take N ++ b, rfl⟩)]
      show radd 4 _ (rawB (m.take N ++ b)) = _
      rw [i4 b, q2, hN]
  · intro l _ h h4 hn q; rw [rawB_no h h4 hn] at q; cases q
  · intro l h h4 hn ih q
    have hle := nxp_le isc l
    obtain ⟨k1, k2, k3, k4⟩ := nxp_pos hn
    rw [rawB_step h h4 hn] at q ⊢
    obtain ⟨q1, q2⟩ := radd_yes q
    obtain ⟨i1, i2, i3, i4⟩ := ih q1
    rw [q2]
    obtain ⟨r, hr⟩ : ∃ r, (nxp isc l).1 = r := ⟨_, rfl⟩
    obtain ⟨K, hK⟩ : ∃ K, (nxp isc l).2 = K := ⟨_, rfl⟩
    rw [hr] at k1 k2 k3 k4
    rw [hK] at hn hle k2 k3 k4 q2 i1 i2 i3 i4 ⊢
    obtain ⟨m, hm⟩ : ∃ m, l.drop K = m := ⟨_, rfl⟩
    rw [hm] at k3 q2 i1 i2 i3 i4 ⊢
    obtain ⟨N, hN⟩ : ∃ N, (rawB m).2.2 = N := ⟨_, rfl⟩
    rw [hN] at i1 i2 i3 i4
    have hlen : l.length = K + m.length := by rw [k3, List.length_append, ← k2]
    have et : l.take (K + N) = enc r ++ m.take N := by
      rw [k3, List.take_append, ← k2, List.take_of_length_le (by omega), show K + N - K = N by omega]
    show 3 ≤ K + (rawB m).2.2 ∧ K + (rawB m).2.2 ≤ _ ∧ List.drop (K + (rawB m).2.2 - 3) (List.take (K + (rawB m).2.2) _) = _ ∧ ∀ b, rawB (List.take (K + (rawB m).2.2) _ ++ b) = _
    rw [hN, et]
    have hmN : (m.take N).length = N := by rw [List.length_take]; omega
    refine ⟨by omega, by omega, ?_, fun b => ?_⟩
    · rw [List.drop_append, List.drop_eq_nil_iff.2 (by omega), List.nil_append, ← k2, show K + N - 3 - K = N - 3 by omega]; exact i3
    ·
      have e4 : ∀ j, j ≤ 4 → (enc r ++ m.take N ++ b).take j = l.take j := by
        intro j hj
        have : l.take j = (l.take (K + N)).take j := by rw [List.take_take, Nat.min_eq_left (by omega)]
        rw [this, et, List.take_append_of_le_length (by rw [List.length_append, hmN, ← k2]; omega)]
      have t3 : three (enc r ++ m.take N ++ b) = false := by unfold three; rw [e4 3 (by omega)]; exact h
      have t4 : thre4 (enc r ++ m.take N ++ b) = false := by unfold thre4; rw [e4 4 (by omega)]; exact h4
      have en : nxp isc (enc r ++ m.take N ++ b) = (r, K) := by
        rw [List.append_assoc, nxp_enc sort_isc k1, ← k2]
      rw [rawB_step t3 t4 (by rw [en]; exact hn), en]
      show radd K (List.take K (enc r ++ m.take N ++ b)) (rawB (List.drop K (enc r ++ m.take N ++ b))) = _
      have e1 : (enc r ++ m.take N ++ b).take K = enc r := by rw [List.append_assoc, k2, List.take_left]
      have e2 : (enc r ++ m.take N ++ b).drop K = m.take N ++ b := by rw [List.append_assoc, k2, List.drop_left]
      rw [e1, e2, i4 b, ← k4, q2, hN]
def rawAt (s : ByteArray) (i : Int) : Bool × List Int × Int :=
  if i < 0 ∨ three (at_ s i) = false then (false, [], i) else ((rawB (at_ s (i + 3))).1, (rawB (at_ s (i + 3))).2.1, i + 3 + (rawB (at_ s (i + 3))).2.2)
end Go.Proofs.YtjgpmfjkcioinaaDoor.M
namespace Go.Proofs.YtjgpmfjkcioinaaDoor.M
open Go.Proofs.YtjgpmfjkcioinaaDoorW.PrintWords
set_option linter.unusedVariables false
set_option linter.unusedSimpArgs false
def hexv (c : Int) : Int := if 48 ≤ c ∧ c ≤ 57 then c - 48 else if 97 ≤ c ∧ c ≤ 102 then c - 87 else if 65 ≤ c ∧ c ≤ 70 then c - 55 else -1
theorem hexv_le (c : Int) : -1 ≤ hexv c ∧ hexv c ≤ 15 := by
  unfold hexv
  repeat' split
  all_goals omega
def hex4 (l : List Int) : Int :=
  match l with
  | a :: b :: c :: d :: _ => if 0 ≤ hexv a ∧ 0 ≤ hexv b ∧ 0 ≤ hexv c ∧ 0 ≤ hexv d then hexv a * 4096 + hexv b * 256 + hexv c * 16 + hexv d else -1
  | _ => -1
theorem hex4_le (l : List Int) : -1 ≤ hex4 l ∧ hex4 l ≤ 65535 := by
  unfold hex4
  split
  · rename_i a b c d m
    have := hexv_le a; have := hexv_le b; have := hexv_le c; have := hexv_le d
    split <;> omega
  · omega
theorem hex4_append {l : List Int} (h : 0 ≤ hex4 l) (m : List Int) : hex4 (l ++ m) = hex4 l ∧ 4 ≤ l.length := by
  match l, h with
  | a :: b :: c :: d :: k, h => exact ⟨rfl, by simp⟩
def short (c : Int) : Int :=
  if c = 34 ∨ c = 92 ∨ c = 47 then c else if c = 98 then 8 else if c = 102 then 12 else if c = 110 then 10 else if c = 114 then 13 else if c = 116 then 9 else -1
theorem short_le (c : Int) : -1 ≤ short c ∧ short c ≤ 92 := by
  unfold short
  repeat' split
  all_goals omega
def pairOf (n low : Int) : Int := 65536 + (n - 55296) * 1024 + low - 56320
def esc (l : List Int) : List Int × Nat :=
  if l.getD 0 0 = 92 ∧ 1 < l.length then
    if 0 ≤ short (l.getD 1 0) then ([short (l.getD 1 0)], 2)
    else if l.getD 1 0 = 117 ∧ 0 ≤ hex4 (l.drop 2) then
      if hex4 (l.drop 2) < 55296 ∨ 57343 < hex4 (l.drop 2) then (enc (hex4 (l.drop 2)), 6)
      else if hex4 (l.drop 2) < 56320 ∧ l.getD 6 0 = 92 ∧ l.getD 7 0 = 117 ∧ 56320 ≤ hex4 (l.drop 8) ∧ hex4 (l.drop 8) ≤ 57343 then (enc (pairOf (hex4 (l.drop 2)) (hex4 (l.drop 8))), 12)
      else ([], 0)
    else ([], 0)
  else ([], 0)
theorem getD_append_lt {l m : List Int} {k : Nat} {d : Int} (h : k < l.length) : (l ++ m).getD k d = l.getD k d := by
  simp only [List.getD_eq_getElem?_getD]; rw [List.getElem?_append_left h]
theorem hex4_drop {l : List Int} {k : Nat} (h : 0 ≤ hex4 (l.drop k)) (m : List Int) : hex4 ((l ++ m).drop k) = hex4 (l.drop k) ∧ k + 4 ≤ l.length := by
  have hk : k ≤ l.length := by
    by_cases q : k ≤ l.length
    · exact q
    · rw [List.drop_eq_nil_of_le (by omega)] at h; exact absurd h (by decide)
  have := hex4_append h m
  rw [List.length_drop] at this
  rw [List.drop_append_of_le_length hk]
  exact ⟨this.1, by omega⟩
theorem esc_some {l : List Int} (h : (esc l).2 ≠ 0) : ∃ r, isv r = true ∧ (esc l).1 = enc r ∧ 2 ≤ (esc l).2 ∧ (esc l).2 ≤ l.length ∧ l.getD 0 0 = 92 ∧ ∀ m, esc (l ++ m) = esc l := by
  unfold esc at h ⊢
  split at h
  · rename_i c0
    rw [if_pos c0]
    have e0 : ∀ m : List Int, (l ++ m).getD 0 0 = l.getD 0 0 := fun m => getD_append_lt (by omega)
    have e1 : ∀ m : List Int, (l ++ m).getD 1 0 = l.getD 1 0 := fun m => getD_append_lt (by omega)
    have c0' : ∀ m : List Int, l.getD 0 0 = 92 ∧ 1 < (l ++ m).length := fun m => ⟨c0.1, by rw [List.length_append]; omega⟩
    split at h
    · rename_i c1
      rw [if_pos c1]
      have := short_le (l.getD 1 0)
      refine ⟨short (l.getD 1 0), by rw [isv_iff]; omega, by rw [enc_low (by omega)], Nat.le_refl _, by show 2 ≤ l.length; omega, c0.1, fun m => ?_⟩
      rw [e0, e1, if_pos (c0' m), if_pos c1]
    · rename_i c1
      rw [if_neg c1]
      split at h
      · rename_i c2
        rw [if_pos c2]
        have hh := hex4_le (l.drop 2)
        have hd := hex4_drop c2.2
        split at h
        · rename_i c3
          rw [if_pos c3]
          refine ⟨hex4 (l.drop 2), by rw [isv_iff]; omega, rfl, by show 2 ≤ 6; omega, (hd []).2, c0.1, fun m => ?_⟩
          rw [e0, e1, (hd m).1, if_pos (c0' m), if_neg c1, if_pos c2, if_pos c3]
        · rename_i c3
          rw [if_neg c3]
          split at h
          · rename_i c4
            rw [if_pos c4]
            have hd8 := hex4_drop (l := l) (k := 8) (by omega)
            have hl := (hd8 []).2
            refine ⟨pairOf (hex4 (l.drop 2)) (hex4 (l.drop 8)), by rw [isv_iff]; unfold pairOf; omega, rfl, by show 2 ≤ 12; omega, hl, c0.1, fun m => ?_⟩
            rw [e0, e1, (hd m).1, (hd8 m).1, getD_append_lt (by omega), getD_append_lt (by omega), if_pos (c0' m), if_neg c1, if_pos c2, if_neg c3, if_pos c4]
          · exact absurd rfl h
      · exact absurd rfl h
  · exact absurd rfl h
theorem hex4_take {l : List Int} {k : Nat} (h : 4 ≤ k) : hex4 (l.take k) = hex4 l := by
  obtain ⟨k, rfl⟩ : ∃ m, k = m + 4 := ⟨k - 4, by omega⟩
  match l with
  | [] => simp
  | [_] => simp [List.take]
  | [_, _] => simp [List.take]
  | [_, _, _] => simp [List.take]
  | _ :: _ :: _ :: _ :: _ => rfl
theorem esc_take {l : List Int} (h : (esc l).2 ≠ 0) : esc (l.take (esc l).2) = esc l := by
  have gt : ∀ (k i : Nat), i < k → (l.take k).getD i 0 = l.getD i 0 := by intro k i hi; simp only [List.getD_eq_getElem?_getD]; rw [List.getElem?_take_of_lt hi]
  have ht : ∀ k j, j + 4 ≤ k → hex4 ((l.take k).drop j) = hex4 (l.drop j) := by intro k j hk; rw [List.drop_take]; exact hex4_take (by omega)
  have h' := h
  unfold esc at h'
  split at h'
  · rename_i c0
    split at h'
    · rename_i c1
      have e : esc l = ([short (l.getD 1 0)], 2) := by unfold esc; rw [if_pos c0, if_pos c1]
      rw [e]
      show esc (l.take 2) = _
      unfold esc
      rw [gt 2 0 (by omega), gt 2 1 (by omega), if_pos ⟨c0.1, by rw [List.length_take]; omega⟩, if_pos c1]
    · rename_i c1
      split at h'
      · rename_i c2
        have hd := (hex4_drop c2.2 []).2
        split at h'
        · rename_i c3
          have e : esc l = (enc (hex4 (l.drop 2)), 6) := by unfold esc; rw [if_pos c0, if_neg c1, if_pos c2, if_pos c3]
          rw [e]
          show esc (l.take 6) = _
          unfold esc
          rw [gt 6 0 (by omega), gt 6 1 (by omega), ht 6 2 (by omega), if_pos ⟨c0.1, by rw [List.length_take]; omega⟩, if_neg c1, if_pos c2, if_pos c3]
        · rename_i c3
          split at h'
          · rename_i c4
            have hd8 := (hex4_drop (l := l) (k := 8) (by omega) []).2
            have e : esc l = (enc (pairOf (hex4 (l.drop 2)) (hex4 (l.drop 8))), 12) := by unfold esc; rw [if_pos c0, if_neg c1, if_pos c2, if_neg c3, if_pos c4]
            rw [e]
            show esc (l.take 12) = _
            unfold esc
            rw [gt 12 0 (by omega), gt 12 1 (by omega), gt 12 6 (by omega), gt 12 7 (by omega), ht 12 2 (by omega), ht 12 8 (by omega), if_pos ⟨c0.1, by rw [List.length_take]; omega⟩, if_neg c1, if_pos c2, if_neg c3, if_pos c4]
          · exact absurd rfl h'
      · exact absurd rfl h'
  · exact absurd rfl h'
def strB (l : List Int) : Bool × List Int × Nat :=
  if l = [] then (false, [], 0)
  else if l.getD 0 0 = 34 then (true, [], 1)
  else if l.getD 0 0 = 92 then
    if he : (esc l).2 = 0 then (false, [], 0)
    else if (strB (l.drop (esc l).2)).1 = true then (true, (esc l).1 ++ (strB (l.drop (esc l).2)).2.1, (esc l).2 + (strB (l.drop (esc l).2)).2.2)
    else (false, [], (esc l).2 + (strB (l.drop (esc l).2)).2.2)
  else if hn : (nxp isc l).2 = 0 ∨ (nxp isc l).1 = 10 ∨ (nxp isc l).1 = 13 then (false, [], 0)
  else if (strB (l.drop (nxp isc l).2)).1 = true then (true, l.take (nxp isc l).2 ++ (strB (l.drop (nxp isc l).2)).2.1, (nxp isc l).2 + (strB (l.drop (nxp isc l).2)).2.2)
  else (false, [], (nxp isc l).2 + (strB (l.drop (nxp isc l).2)).2.2)
termination_by l.length
decreasing_by
  all_goals
    have hp := nxp_le isc l
    rw [List.length_drop]
    first
    | (have h0 : (nxp isc l).2 ≠ 0 := fun q => hn (Or.inl q)
       omega)
    | (have h0 : (esc l).2 ≠ 0 := fun q => he q
       obtain ⟨_, _, _, h1, h2, _⟩ := esc_some h0
       omega)
inductive It : List Int → List Int → Prop
  | esc (e : List Int) (h : (esc e).2 = e.length) (h0 : e ≠ []) : It e (esc e).1
  | plain (r : Int) (h : isc r = true) (h1 : r ≠ 10) (h2 : r ≠ 13) (h3 : r ≠ 34) (h4 : r ≠ 92) : It (enc r) (enc r)
inductive Str : List Int → List Int → Prop
  | nil : Str [] []
  | cons {e t b x : List Int} (h : It e t) (hs : Str b x) : Str (e ++ b) (t ++ x)
theorem Str.append {a x b y : List Int} (h : Str a x) (k : Str b y) : Str (a ++ b) (x ++ y) := by
  induction h with
  | nil => exact k
  | cons hi _ ih => rw [List.append_assoc, List.append_assoc]; exact .cons hi ih
def sadd (n : Nat) (t : List Int) (q : Bool × List Int × Nat) : Bool × List Int × Nat := if q.1 = true then (true, t ++ q.2.1, n + q.2.2) else (false, [], n + q.2.2)
theorem strB_nil : strB [] = (false, [], 0) := by rw [strB]; rfl
theorem strB_quote (m : List Int) : strB (34 :: m) = (true, [], 1) := by rw [strB]; simp
theorem strB_esc {l : List Int} (h0 : l.getD 0 0 = 92) (he : (esc l).2 ≠ 0) : strB l = sadd (esc l).2 (esc l).1 (strB (l.drop (esc l).2)) := by
  have hl : l ≠ [] := fun e => by rw [e] at h0; simp at h0
  conv => lhs; rw [strB]
  rw [if_neg hl, if_neg (by omega), if_pos h0, dif_neg he]; rfl
theorem strB_escno {l : List Int} (h0 : l.getD 0 0 = 92) (he : (esc l).2 = 0) : strB l = (false, [], 0) := by
  have hl : l ≠ [] := fun e => by rw [e] at h0; simp at h0
  rw [strB, if_neg hl, if_neg (by omega), if_pos h0, dif_pos he]
theorem strB_plain {l : List Int} (h1 : l.getD 0 0 ≠ 34) (h2 : l.getD 0 0 ≠ 92) (hn : (nxp isc l).2 ≠ 0) (h3 : (nxp isc l).1 ≠ 10) (h4 : (nxp isc l).1 ≠ 13) : strB l = sadd (nxp isc l).2 (l.take (nxp isc l).2) (strB (l.drop (nxp isc l).2)) := by
  have hl : l ≠ [] := fun e => hn (by rw [e, nx_nil])
  conv => lhs; rw [strB]
  rw [if_neg hl, if_neg h1, if_neg h2, dif_neg (fun q => by omega)]; rfl
theorem strB_plainno {l : List Int} (hl : l ≠ []) (h1 : l.getD 0 0 ≠ 34) (h2 : l.getD 0 0 ≠ 92) (hn : (nxp isc l).2 = 0 ∨ (nxp isc l).1 = 10 ∨ (nxp isc l).1 = 13) : strB l = (false, [], 0) := by
  rw [strB, if_neg hl, if_neg h1, if_neg h2, dif_pos hn]
theorem enc_head {r : Int} (hr : isv r = true) (c : Int) (hc : c < 128) (hne : r ≠ c) (m : List Int) : (enc r ++ m).getD 0 0 ≠ c := by
  by_cases h : r < 128
  · rw [enc_low h]; simpa using hne
  · have h1 := enc_high hr h
    cases hE : enc r with
    | nil => exact absurd hE (enc_ne r)
    | cons x k =>
      have := h1 x (by rw [hE]; simp)
      simp only [List.cons_append, List.getD_cons_zero]; omega
theorem strB_it {e t : List Int} (h : It e t) (m : List Int) : strB (e ++ m) = sadd e.length t (strB m) := by
  cases h with
  | esc _ h h0 =>
    have hne : (esc e).2 ≠ 0 := by rw [h]; have := List.length_pos_iff.2 h0; omega
    obtain ⟨r, _, _, h2, _, h92, ha⟩ := esc_some hne
    have e1 := ha m
    rw [strB_esc (by rw [getD_append_lt (by omega)]; exact h92) (by rw [e1]; exact hne), e1, h, List.drop_left]
  | plain r h h1 h2 h3 h4 =>
    have hv := isv_of_isc h
    have e1 := nxp_enc sort_isc h m
    have hl := enc_len r
    rw [strB_plain (enc_head hv 34 (by omega) h3 m) (enc_head hv 92 (by omega) h4 m) (by rw [e1]; show (enc r).length ≠ 0; omega) (by rw [e1]; exact h1) (by rw [e1]; exact h2), e1]
    show sadd (enc r).length ((enc r ++ m).take (enc r).length) (strB ((enc r ++ m).drop (enc r).length)) = _
    rw [List.take_left, List.drop_left]
theorem sadd_sadd (n k : Nat) (t x : List Int) (q : Bool × List Int × Nat) : sadd n t (sadd k x q) = sadd (n + k) (t ++ x) q := by
  unfold sadd
  by_cases h : q.1 = true
  · simp only [if_pos h, if_true, List.append_assoc, Nat.add_assoc]
  · simp only [if_neg h, Bool.false_eq_true, if_false, Nat.add_assoc]
theorem sadd_zero (q : Bool × List Int × Nat) (h : q.1 = false → q.2.1 = []) : sadd 0 [] q = q := by
  obtain ⟨a, b, c⟩ := q
  unfold sadd
  cases a with
  | true => simp
  | false =>
    have e : b = [] := h rfl
    simp only [Bool.false_eq_true, if_false, Nat.zero_add]; rw [e]
theorem strB_no (l : List Int) : (strB l).1 = false → (strB l).2.1 = [] := by
  rw [strB]
  repeat' split
  all_goals simp
theorem strB_str {b t : List Int} (h : Str b t) (m : List Int) : strB (b ++ m) = sadd b.length t (strB m) := by
  induction h with
  | nil => rw [List.nil_append]; exact (sadd_zero _ (strB_no m)).symm
  | cons hi _ ih => rw [List.append_assoc, strB_it hi, ih, sadd_sadd, List.length_append]
theorem strB_done {b t : List Int} (h : Str b t) (m : List Int) : strB (b ++ 34 :: m) = (true, t, b.length + 1) := by
  rw [strB_str h, strB_quote]; simp [sadd]
theorem strB_tells : ∀ (n : Nat) (l : List Int), l.length ≤ n → ((strB l).1 = true → ∃ b m, Str b (strB l).2.1 ∧ l = b ++ 34 :: m ∧ (strB l).2.2 = b.length + 1) ∧ ((strB l).1 = false → (strB l).2.2 ≤ l.length)
  | 0, l, h => by
    have : l = [] := List.eq_nil_of_length_eq_zero (by omega)
    subst this
    rw [strB_nil]; exact ⟨(fun q => by cases q), fun _ => Nat.le_refl _⟩
  | n + 1, l, h => by
    by_cases hl : l = []
    · subst hl; rw [strB_nil]; exact ⟨(fun q => by cases q), fun _ => Nat.le_refl _⟩
    · have hp := List.length_pos_iff.2 hl
      by_cases h34 : l.getD 0 0 = 34
      · obtain ⟨c, m, rfl⟩ := List.exists_cons_of_ne_nil hl
        rw [List.getD_cons_zero] at h34
        subst h34
        rw [strB_quote]
        exact ⟨fun _ => ⟨[], m, .nil, rfl, rfl⟩, (fun q => by cases q)⟩
      · by_cases h92 : l.getD 0 0 = 92
        · by_cases he : (esc l).2 = 0
          · rw [strB_escno h92 he]; exact ⟨(fun q => by cases q), fun _ => Nat.zero_le _⟩
          · obtain ⟨r, hr, hr2, h2, hle, _, _⟩ := esc_some he
            have ih := strB_tells n (l.drop (esc l).2) (by rw [List.length_drop]; omega)
            have hit : It (l.take (esc l).2) (esc l).1 := by
              have hx := esc_take he
              have := It.esc (l.take (esc l).2) (by rw [hx, List.length_take]; omega) (fun q => by have := congrArg List.length q; rw [List.length_take, List.length_nil] at this; omega)
              rwa [hx] at this
            rw [strB_esc h92 he]
            unfold sadd
            by_cases q : (strB (l.drop (esc l).2)).1 = true
            · rw [if_pos q]
              refine ⟨fun _ => ?_, (fun q => by cases q)⟩
              obtain ⟨b, m, hs, e, hn⟩ := ih.1 q
              refine ⟨l.take (esc l).2 ++ b, m, .cons hit hs, ?_, ?_⟩
              · rw [List.append_assoc, ← e, List.take_append_drop]
              · show (esc l).2 + (strB (l.drop (esc l).2)).2.2 = _
                rw [hn, List.length_append, List.length_take]; omega
            · rw [if_neg q]
              refine ⟨(fun q => by cases q), fun _ => ?_⟩
              have := ih.2 (by simpa using q)
              rw [List.length_drop] at this
              show (esc l).2 + (strB (l.drop (esc l).2)).2.2 ≤ _
              omega
        · by_cases hn : (nxp isc l).2 = 0 ∨ (nxp isc l).1 = 10 ∨ (nxp isc l).1 = 13
          · rw [strB_plainno hl h34 h92 hn]; exact ⟨(fun q => by cases q), fun _ => Nat.zero_le _⟩
          · have hn0 : (nxp isc l).2 ≠ 0 := fun q => hn (.inl q)
            have hle := nxp_le isc l
            obtain ⟨k1, k2, k3, k4⟩ := nxp_pos hn0
            have ih := strB_tells n (l.drop (nxp isc l).2) (by rw [List.length_drop]; omega)
            have hc : ∀ c, c < 128 → l.getD 0 0 ≠ c → (nxp isc l).1 ≠ c := by
              intro c hc hne e
              have e2 : enc (nxp isc l).1 = [c] := by rw [e]; exact enc_low hc
              rw [e2] at k3
              rw [k3] at hne
              simp at hne
            have hit : It (l.take (nxp isc l).2) (l.take (nxp isc l).2) := by
              rw [k4]; exact .plain _ k1 (fun q => hn (.inr (.inl q))) (fun q => hn (.inr (.inr q))) (hc 34 (by omega) h34) (hc 92 (by omega) h92)
            rw [strB_plain h34 h92 hn0 (fun q => hn (.inr (.inl q))) (fun q => hn (.inr (.inr q)))]
            unfold sadd
            by_cases q : (strB (l.drop (nxp isc l).2)).1 = true
            · rw [if_pos q]
              refine ⟨fun _ => ?_, (fun q => by cases q)⟩
              obtain ⟨b, m, hs, e, hm⟩ := ih.1 q
              refine ⟨l.take (nxp isc l).2 ++ b, m, .cons hit hs, ?_, ?_⟩
              · rw [List.append_assoc, ← e, List.take_append_drop]
              · show (nxp isc l).2 + (strB (l.drop (nxp isc l).2)).2.2 = _
                rw [hm, List.length_append, List.length_take]; omega
            · rw [if_neg q]
              refine ⟨(fun q => by cases q), fun _ => ?_⟩
              have := ih.2 (by simpa using q)
              rw [List.length_drop] at this
              show (nxp isc l).2 + (strB (l.drop (nxp isc l).2)).2.2 ≤ _
              omega
end Go.Proofs.YtjgpmfjkcioinaaDoor.M
namespace Go.Proofs.YtjgpmfjkcioinaaDoor.M
set_option linter.unusedVariables false
set_option linter.unusedSimpArgs false
abbrev LNum := Int × Nat × Bool
def shift (m : Nat) (r : LNum) : LNum := (r.1, m + r.2.1, r.2.2)
def goes (c : Int) : Bool := decide (c = 46) || isLet c || isDig c
def hd (p : Int → Bool) : List Int → Bool
  | [] => false
  | c :: _ => p c
def lFin (k : Int) (l : List Int) : LNum := if hd goes l = true then (0, 0, false) else (k, 0, true)
def lDigs (F : List Int → LNum) (l : List Int) : LNum := if 0 < dig l then shift (dig l) (F (l.drop (dig l))) else (0, 0, false)
def lTail : List Int → LNum
  | [] => (0, 0, false)
  | c :: l => if c = 43 ∨ c = 45 then shift 1 (lDigs (lFin 4) l) else lDigs (lFin 4) (c :: l)
def lExp (k : Int) : List Int → LNum
  | [] => (k, 0, true)
  | c :: l => if c = 101 ∨ c = 69 then shift 1 (lTail l) else lFin k (c :: l)
def lDot : List Int → LNum
  | [] => (3, 0, true)
  | c :: l => if c = 46 then shift 1 (lDigs (lExp 4) l) else lExp 3 (c :: l)
def lInt : List Int → LNum
  | [] => (0, 0, false)
  | c :: l => if c = 48 then shift 1 (lDot l) else lDigs lDot (c :: l)
def lNum : List Int → LNum
  | [] => (0, 0, false)
  | c :: l => if c = 45 then shift 1 (lInt l) else lInt (c :: l)
theorem lTail_cons (c : Int) (l : List Int) : lTail (c :: l) = if c = 43 ∨ c = 45 then shift 1 (lDigs (lFin 4) l) else lDigs (lFin 4) (c :: l) := rfl
theorem lExp_cons (k c : Int) (l : List Int) : lExp k (c :: l) = if c = 101 ∨ c = 69 then shift 1 (lTail l) else lFin k (c :: l) := rfl
theorem lDot_cons (c : Int) (l : List Int) : lDot (c :: l) = if c = 46 then shift 1 (lDigs (lExp 4) l) else lExp 3 (c :: l) := rfl
theorem lInt_cons (c : Int) (l : List Int) : lInt (c :: l) = if c = 48 then shift 1 (lDot l) else lDigs lDot (c :: l) := rfl
theorem lNum_cons (c : Int) (l : List Int) : lNum (c :: l) = if c = 45 then shift 1 (lInt l) else lInt (c :: l) := rfl
theorem dig_le_len (l : List Int) : dig l ≤ l.length := cnt_le _ _
def Short (F : List Int → LNum) : Prop := ∀ l, (F l).2.1 ≤ l.length
theorem short_fin (k : Int) : Short (lFin k) := fun l => by unfold lFin; split <;> simp
theorem short_digs {F : List Int → LNum} (h : Short F) : Short (lDigs F) := fun l => by
  unfold lDigs
  have := dig_le_len l
  split
  · have h2 := h (l.drop (dig l))
    rw [List.length_drop] at h2
    simp only [shift]; omega
  · simp
theorem short_cons {F : List Int → LNum} (h : Short F) (l : List Int) (c : Int) : (shift 1 (F l)).2.1 ≤ (c :: l).length := by
  have := h l; simp only [shift, List.length_cons]; omega
theorem short_tail : Short lTail := fun l => by
  cases l with
  | nil => simp [lTail]
  | cons c l =>
    rw [lTail_cons]; split
    · exact short_cons (short_digs (short_fin 4)) l c
    · exact short_digs (short_fin 4) _
theorem short_exp (k : Int) : Short (lExp k) := fun l => by
  cases l with
  | nil => simp [lExp]
  | cons c l =>
    rw [lExp_cons]; split
    · exact short_cons short_tail l c
    · exact short_fin k _
theorem short_dot : Short lDot := fun l => by
  cases l with
  | nil => simp [lDot]
  | cons c l =>
    rw [lDot_cons]; split
    · exact short_cons (short_digs (short_exp 4)) l c
    · exact short_exp 3 _
theorem short_int : Short lInt := fun l => by
  cases l with
  | nil => simp [lInt]
  | cons c l =>
    rw [lInt_cons]; split
    · exact short_cons short_dot l c
    · exact short_digs short_dot _
theorem short_num : Short lNum := fun l => by
  cases l with
  | nil => simp [lNum]
  | cons c l =>
    rw [lNum_cons]; split
    · exact short_cons short_int l c
    · exact short_int _
end Go.Proofs.YtjgpmfjkcioinaaDoor.M
namespace Go.Proofs.YtjgpmfjkcioinaaDoor.M
set_option linter.unusedVariables false
set_option linter.unusedSimpArgs false
def isPun (c : Int) : Bool := [33, 36, 38, 40, 41, 58, 61, 64, 91, 93, 123, 124, 125].any fun p => c == p
def dots3 (l : List Int) : Bool := decide (l.take 3 = [46, 46, 46])
structure LOne where
  k : Int
  t : List Int
  e : Int
  n : Nat
  deriving DecidableEq
def lbad (e : Int) (n : Nat) : LOne := ⟨0, [], e, n⟩
def lexc (c : Int) (r : List Int) : LOne :=
    if c = 46 then (if dots3 (c :: r) = true then ⟨1, (c :: r).take 3, 0, 3⟩ else lbad 2 0)
    else if isPun c = true then ⟨1, (c :: r).take 1, 0, 1⟩
    else if isLet c = true then ⟨2, (c :: r).take (name (c :: r)), 0, name (c :: r)⟩
    else if c = 45 ∨ isDig c = true then (if (lNum (c :: r)).2.2 = true then ⟨(lNum (c :: r)).1, (c :: r).take (lNum (c :: r)).2.1, 0, (lNum (c :: r)).2.1⟩ else lbad 3 (lNum (c :: r)).2.1)
    else if three (c :: r) = true then (if (rawB ((c :: r).drop 3)).1 = true then ⟨5, foldL (rawB ((c :: r).drop 3)).2.1, 0, 3 + (rawB ((c :: r).drop 3)).2.2⟩ else lbad 4 (3 + (rawB ((c :: r).drop 3)).2.2))
    else if c = 34 then (if (strB r).1 = true then ⟨5, (strB r).2.1, 0, 1 + (strB r).2.2⟩ else lbad 4 (1 + (strB r).2.2))
    else lbad 2 0
def lexone : List Int → LOne
  | [] => lbad 2 0
  | c :: r => lexc c r
theorem lexone_cons (c : Int) (r : List Int) : lexone (c :: r) = lexc c r := rfl
theorem raw_text_le (l : List Int) : (rawB l).2.1.length ≤ l.length := by
  refine raw_ind (P := fun l => (rawB l).2.1.length ≤ l.length) ?_ ?_ ?_ ?_ ?_ l.length l (Nat.le_refl _)
  · rw [rawB_nil]; exact Nat.zero_le _
  · intro l h; rw [rawB_end h]; exact Nat.zero_le _
  · intro l h ih
    obtain ⟨m, rfl⟩ := thre4_iff.1 h
    rw [rawB_esc h]
    have hd : (92 :: 34 :: 34 :: 34 :: m : List Int).drop 4 = m := rfl
    rw [hd] at ih ⊢
    unfold radd
    split
    · show ([34, 34, 34] ++ (rawB m).2.1).length ≤ _; simp; omega
    · exact Nat.zero_le _
  · intro l _ h h4 hn; rw [rawB_no h h4 hn]; exact Nat.zero_le _
  · intro l h h4 hn ih
    have hle := nxp_le isc l
    rw [rawB_step h h4 hn]
    rw [List.length_drop] at ih
    unfold radd
    split
    · show (l.take (nxp isc l).2 ++ (rawB (l.drop (nxp isc l).2)).2.1).length ≤ _
      rw [List.length_append, List.length_take]; omega
    · exact Nat.zero_le _
theorem raw_text_all {P : Int → Prop} (h34 : P 34) (l : List Int) : (∀ c ∈ l, P c) → ∀ c ∈ (rawB l).2.1, P c := by
  refine raw_ind (P := fun l => (∀ c ∈ l, P c) → ∀ c ∈ (rawB l).2.1, P c) ?_ ?_ ?_ ?_ ?_ l.length l (Nat.le_refl _)
  · intro _; rw [rawB_nil]; intro c hc; cases hc
  · intro l h _; rw [rawB_end h]; intro c hc; cases hc
  · intro l h ih hl
    obtain ⟨m, rfl⟩ := thre4_iff.1 h
    rw [rawB_esc h]
    have hd : (92 :: 34 :: 34 :: 34 :: m : List Int).drop 4 = m := rfl
    rw [hd] at ih ⊢
    have ih2 := ih (fun c hc => hl c (by simp [hc]))
    unfold radd
    split
    · intro c hc
      rcases List.mem_append.1 hc with hc | hc
      · simp at hc; rw [hc]; exact h34
      · exact ih2 c hc
    · intro c hc; cases hc
  · intro l _ h h4 hn _; rw [rawB_no h h4 hn]; intro c hc; cases hc
  · intro l h h4 hn ih hl
    rw [rawB_step h h4 hn]
    have ih2 := ih (fun c hc => hl c (List.mem_of_mem_drop hc))
    unfold radd
    split
    · intro c hc
      rcases List.mem_append.1 hc with hc | hc
      · exact hl c (List.mem_of_mem_take hc)
      · exact ih2 c hc
    · intro c hc; cases hc
theorem lname_le (l : List Int) : name l ≤ l.length := by
  cases l with
  | nil => exact Nat.le_refl _
  | cons c r =>
    have := cnt_le isWord r
    show (if isLet c = true then cnt isWord r + 1 else 0) ≤ (c :: r).length
    rw [List.length_cons]
    split <;> omega
end Go.Proofs.YtjgpmfjkcioinaaDoor.M
namespace Go.Proofs.YtjgpmfjkcioinaaDoor.M
set_option linter.unusedVariables false
set_option linter.unusedSimpArgs false
theorem strB_le : ∀ (n : Nat) (l : List Int), l.length ≤ n → (strB l).1 = true → (strB l).2.2 ≤ l.length := by
  intro n l hl h
  obtain ⟨b, m, _, h2, h3⟩ := (strB_tells n l hl).1 h
  rw [h3]
  have := congrArg List.length h2
  rw [List.length_append, List.length_cons] at this
  omega
theorem num_pos {c : Int} {r : List Int} (h : (lNum (c :: r)).2.2 = true) : 0 < (lNum (c :: r)).2.1 := by
  rw [lNum_cons] at h ⊢
  by_cases h45 : c = 45
  · rw [if_pos h45]; show 0 < 1 + _; omega
  · rw [if_neg h45] at h ⊢
    rw [lInt_cons] at h ⊢
    by_cases h48 : c = 48
    · rw [if_pos h48]; show 0 < 1 + _; omega
    · rw [if_neg h48] at h ⊢
      unfold lDigs at h ⊢
      by_cases hd : 0 < dig (c :: r)
      · rw [if_pos hd]; show 0 < dig (c :: r) + _; omega
      · rw [if_neg hd] at h; cases h
theorem one_step {l : List Int} (h : (lexone l).e = 0) : 0 < (lexone l).n ∧ (lexone l).n ≤ l.length := by
  cases l with
  | nil => cases h
  | cons c r =>
    have hl : (c :: r).length = r.length + 1 := rfl
    rw [lexone_cons] at h ⊢
    unfold lexc at h ⊢
    by_cases h46 : c = 46
    · rw [if_pos h46] at h ⊢
      by_cases hd : dots3 (c :: r) = true
      · rw [if_pos hd]
        have h4 := congrArg List.length (of_decide_eq_true hd)
        rw [List.length_take] at h4
        simp at h4
        exact ⟨by show 0 < 3; decide, by show 3 ≤ _; rw [hl]; omega⟩
      · rw [if_neg hd] at h; cases h
    rw [if_neg h46] at h ⊢
    by_cases hp : isPun c = true
    · rw [if_pos hp]; exact ⟨by show 0 < 1; decide, by show 1 ≤ _; rw [hl]; omega⟩
    rw [if_neg hp] at h ⊢
    by_cases hL : isLet c = true
    · rw [if_pos hL]
      refine ⟨?_, by show name (c :: r) ≤ _; exact lname_le _⟩
      show 0 < (if isLet c = true then cnt isWord r + 1 else 0)
      rw [if_pos hL]; omega
    rw [if_neg hL] at h ⊢
    by_cases hn : c = 45 ∨ isDig c = true
    · rw [if_pos hn] at h ⊢
      by_cases hq : (lNum (c :: r)).2.2 = true
      · rw [if_pos hq]; exact ⟨num_pos hq, short_num _⟩
      · rw [if_neg hq] at h; cases h
    rw [if_neg hn] at h ⊢
    by_cases h3 : three (c :: r) = true
    · rw [if_pos h3] at h ⊢
      by_cases hq : (rawB ((c :: r).drop 3)).1 = true
      · rw [if_pos hq]
        have h1 := (rawB_own _ hq).2.1
        obtain ⟨m, hm⟩ := three_iff.1 h3
        have hm2 := congrArg List.length hm
        rw [List.length_drop] at h1
        simp only [List.length_cons] at hm2
        refine ⟨by show 0 < 3 + _; omega, ?_⟩
        show 3 + (rawB ((c :: r).drop 3)).2.2 ≤ (c :: r).length
        rw [hl] at h1 ⊢; omega
      · rw [if_neg hq] at h; cases h
    rw [if_neg h3] at h ⊢
    by_cases h34 : c = 34
    · rw [if_pos h34] at h ⊢
      by_cases hq : (strB r).1 = true
      · rw [if_pos hq]
        have := strB_le _ r (Nat.le_refl _) hq
        refine ⟨by show 0 < 1 + _; omega, ?_⟩
        show 1 + (strB r).2.2 ≤ (c :: r).length
        rw [hl]; omega
      · rw [if_neg hq] at h; cases h
    · rw [if_neg h34] at h; cases h
def tks (l : List Int) (k : Nat) : List (LOne × Nat) :=
  if hl : l = [] then []
  else if he : (lexone l).e = 0 then (lexone l, k) :: tks ((l.drop (lexone l).n).drop (bl false (l.drop (lexone l).n))) (k + (lexone l).n + bl false (l.drop (lexone l).n))
  else [(lexone l, k)]
termination_by l.length
decreasing_by
  have := one_step he
  rw [List.length_drop, List.length_drop]; omega
theorem tks_nil (k : Nat) : tks [] k = [] := by rw [tks, dif_pos rfl]
theorem tks_bad {l : List Int} (k : Nat) (hl : l ≠ []) (he : (lexone l).e ≠ 0) : tks l k = [(lexone l, k)] := by rw [tks, dif_neg hl, dif_neg he]
theorem tks_step {l : List Int} (k : Nat) (hl : l ≠ []) (he : (lexone l).e = 0) : tks l k = (lexone l, k) :: tks ((l.drop (lexone l).n).drop (bl false (l.drop (lexone l).n))) (k + (lexone l).n + bl false (l.drop (lexone l).n)) := by
  conv => lhs; rw [tks]
  rw [dif_neg hl, dif_pos he]
def stepsL (l : List Int) : List (LOne × Nat) := tks (l.drop (bl false l)) (bl false l)
theorem tks_length : ∀ (n : Nat) (l : List Int) (k : Nat), l.length ≤ n → (tks l k).length ≤ l.length
  | 0, l, k, h => by rw [List.eq_nil_of_length_eq_zero (Nat.le_zero.1 h), tks_nil]; exact Nat.le_refl _
  | n + 1, l, k, h => by
    by_cases hl : l = []
    · rw [hl, tks_nil]; exact Nat.le_refl _
    have hp := List.length_pos_iff.2 hl
    by_cases he : (lexone l).e = 0
    · have h1 := one_step he
      have := tks_length n ((l.drop (lexone l).n).drop (bl false (l.drop (lexone l).n))) (k + (lexone l).n + bl false (l.drop (lexone l).n)) (by rw [List.length_drop, List.length_drop]; omega)
      rw [tks_step k hl he, List.length_cons]
      rw [List.length_drop, List.length_drop] at this
      omega
    · rw [tks_bad k hl he]; exact hp
theorem stepsL_length (l : List Int) : (stepsL l).length ≤ l.length := by
  have := tks_length _ (l.drop (bl false l)) (bl false l) (Nat.le_refl _)
  rw [List.length_drop] at this
  unfold stepsL; omega
def lexL (l : List Int) : List (LOne × Nat) × Int × Int :=
  match (stepsL l).find? (fun x => decide (x.1.e ≠ 0)) with
  | some x => ([], x.1.e, (x.2 : Int) + x.1.n)
  | none => (stepsL l, 0, (l.length : Int))
theorem lexL_bad {l : List Int} {ys : List (LOne × Nat)} {x : LOne × Nat} (h : ys ++ [x] <+: stepsL l) (hy : ∀ y ∈ ys, y.1.e = 0) (hx : x.1.e ≠ 0) : lexL l = ([], x.1.e, (x.2 : Int) + x.1.n) := by
  obtain ⟨r, hr⟩ := h
  unfold lexL
  have : (stepsL l).find? (fun x => decide (x.1.e ≠ 0)) = some x := by
    rw [← hr, List.append_assoc, List.find?_append]
    have h1 : ys.find? (fun x => decide (x.1.e ≠ 0)) = none := by
      rw [List.find?_eq_none]; intro y hy2; simp [hy y hy2]
    rw [h1, Option.none_or, List.singleton_append, List.find?_cons_of_pos (by simp [hx])]
  rw [this]
theorem lexL_good {l : List Int} (h : ∀ y ∈ stepsL l, y.1.e = 0) : lexL l = (stepsL l, 0, (l.length : Int)) := by
  unfold lexL
  have : (stepsL l).find? (fun x => decide (x.1.e ≠ 0)) = none := by
    rw [List.find?_eq_none]; intro y hy2; simp [h y hy2]
  rw [this]
end Go.Proofs.YtjgpmfjkcioinaaDoor.M
namespace Go.Proofs.YtjgpmfjkcioinaaDoor.M
set_option linter.unusedVariables false
set_option linter.unusedSimpArgs false
def Chain (l : List Int) : Nat → List (LOne × Nat) → Prop
  | a, [] => a + bl false (l.drop a) = l.length
  | a, x :: xs => x.2 = a + bl false (l.drop a) ∧ x.2 < l.length ∧ x.1 = lexone (l.drop x.2) ∧ x.1.e = 0 ∧ Chain l (x.2 + x.1.n) xs
theorem bl_len : ∀ (b : Bool) (l : List Int), bl b l ≤ l.length
  | b, [] => by rw [bl_nil]; exact Nat.zero_le _
  | true, c :: l => by
    have h1 := bl_len true l; have h2 := bl_len false l
    rw [bl_true, List.length_cons]; split <;> omega
  | false, c :: l => by
    have h1 := bl_len true l; have h2 := bl_len false l
    rw [bl_false, List.length_cons]
    split
    · omega
    · split
      · omega
      · split
        · split
          · rename_i m
            have h3 := bl_len false m
            simp only [List.length_cons]; omega
          · omega
        · omega
theorem drop2 (l : List Int) (a b : Nat) : (l.drop a).drop b = l.drop (a + b) := by rw [List.drop_drop]
theorem bl_place {l : List Int} {a : Nat} (h : a ≤ l.length) : a + bl false (l.drop a) ≤ l.length := by
  have := bl_len false (l.drop a)
  rw [List.length_drop] at this; omega
theorem chain_of (l : List Int) : ∀ (n a : Nat), l.length - a ≤ n → a ≤ l.length → (∀ y ∈ tks (l.drop (a + bl false (l.drop a))) (a + bl false (l.drop a)), y.1.e = 0) → Chain l a (tks (l.drop (a + bl false (l.drop a))) (a + bl false (l.drop a))) := by
  intro n
  induction n with
  | zero =>
    intro a hn ha _
    have e : a = l.length := by omega
    subst e
    rw [List.drop_length, bl_nil, Nat.add_zero, List.drop_length, tks_nil]
    show l.length + bl false (l.drop l.length) = l.length
    rw [List.drop_length, bl_nil, Nat.add_zero]
  | succ n ih =>
    intro a hn ha hall
    have hp := bl_place ha
    obtain ⟨p, hpe⟩ : ∃ p, a + bl false (l.drop a) = p := ⟨_, rfl⟩
    rw [hpe] at hall hp ⊢
    by_cases hl : l.drop p = []
    · rw [hl, tks_nil]
      have h4 := congrArg List.length hl
      rw [List.length_drop, List.length_nil] at h4
      show a + bl false (l.drop a) = l.length
      omega
    · have hlt : p < l.length := by
        have h4 := List.length_pos_iff.2 hl
        rw [List.length_drop] at h4; omega
      have he : (lexone (l.drop p)).e = 0 := by
        by_cases h : (lexone (l.drop p)).e = 0
        · exact h
        · exact hall (lexone (l.drop p), p) (by rw [tks_bad p hl h]; simp)
      have hs := one_step he
      rw [List.length_drop] at hs
      have ht := tks_step p hl he
      simp only [drop2] at ht
      rw [ht] at hall ⊢
      refine ⟨hpe.symm, hlt, rfl, he, ?_⟩
      exact ih (p + (lexone (l.drop p)).n) (by omega) (by omega) (fun y hy => hall y (List.mem_cons_of_mem _ hy))
theorem chain_tks (l : List Int) : ∀ (xs : List (LOne × Nat)) (a : Nat), Chain l a xs → tks (l.drop (a + bl false (l.drop a))) (a + bl false (l.drop a)) = xs ∧ ∀ y ∈ xs, y.1.e = 0
  | [], a, h => by
    rw [show a + bl false (l.drop a) = l.length from h, List.drop_length, tks_nil]
    exact ⟨rfl, fun y hy => by cases hy⟩
  | x :: xs, a, h => by
    obtain ⟨h1, h2, h3, h4, h5⟩ := h
    obtain ⟨q, p⟩ := x
    simp only at h1 h2 h3 h4 h5
    have ih := chain_tks l xs (p + q.n) h5
    rw [← h1]
    have hl : l.drop p ≠ [] := fun e => by
      have := congrArg List.length e
      rw [List.length_drop, List.length_nil] at this; omega
    have he : (lexone (l.drop p)).e = 0 := by rw [← h3]; exact h4
    have ht := tks_step p hl he
    simp only [drop2] at ht
    rw [← h3, ih.1] at ht
    refine ⟨ht, fun y hy => ?_⟩
    rcases List.mem_cons.1 hy with e | hy
    · rw [e]; exact h4
    · exact ih.2 y hy
theorem lexL_chain {l : List Int} {xs : List (LOne × Nat)} (h : Chain l 0 xs) : lexL l = (xs, 0, (l.length : Int)) := by
  have h1 := chain_tks l xs 0 h
  rw [Nat.zero_add, List.drop_zero] at h1
  have e : stepsL l = xs := h1.1
  have := lexL_good (l := l) (by rw [e]; exact h1.2)
  rw [this, e]
theorem lexL_cases (l : List Int) : ((lexL l).2.1 = 0 ∧ (lexL l).1 = stepsL l ∧ (lexL l).2.2 = (l.length : Int) ∧ ∀ y ∈ stepsL l, y.1.e = 0) ∨ ((lexL l).2.1 ≠ 0 ∧ (lexL l).1 = [] ∧ ∃ x ∈ stepsL l, (stepsL l).find? (fun x => decide (x.1.e ≠ 0)) = some x ∧ x.1.e ≠ 0 ∧ (lexL l).2.1 = x.1.e ∧ (lexL l).2.2 = (x.2 : Int) + x.1.n) := by
  unfold lexL
  cases h : (stepsL l).find? (fun x => decide (x.1.e ≠ 0)) with
  | none =>
    rw [List.find?_eq_none] at h
    exact .inl ⟨rfl, rfl, rfl, fun y hy => by have := h y hy; simpa using this⟩
  | some x =>
    have h1 := List.find?_some h
    have h2 := List.mem_of_find?_eq_some h
    have h3 : x.1.e ≠ 0 := of_decide_eq_true h1
    exact .inr ⟨h3, rfl, x, h2, rfl, h3, rfl, rfl⟩
theorem chain_lexL {l : List Int} (h : (lexL l).2.1 = 0) : Chain l 0 (lexL l).1 ∧ (lexL l).2.2 = (l.length : Int) := by
  rcases lexL_cases l with ⟨_, h2, h3, h4⟩ | ⟨h1, _⟩
  · have := chain_of l l.length 0 (by omega) (by omega) (by rw [Nat.zero_add, List.drop_zero]; exact h4)
    rw [Nat.zero_add, List.drop_zero] at this
    rw [h2]; exact ⟨this, h3⟩
  · exact absurd h h1
theorem lexone_le (l : List Int) : (lexone l).n ≤ l.length := by
  by_cases he : (lexone l).e = 0
  · exact (one_step he).2
  cases l with
  | nil => exact Nat.le_refl _
  | cons c r =>
    have hl : (c :: r).length = r.length + 1 := rfl
    rw [lexone_cons] at he ⊢
    unfold lexc at he ⊢
    by_cases h46 : c = 46
    · rw [if_pos h46] at he ⊢
      by_cases hd : dots3 (c :: r) = true
      · rw [if_pos hd] at he; exact absurd rfl he
      · rw [if_neg hd]; exact Nat.zero_le _
    rw [if_neg h46] at he ⊢
    by_cases hp : isPun c = true
    · rw [if_pos hp] at he; exact absurd rfl he
    rw [if_neg hp] at he ⊢
    by_cases hL : isLet c = true
    · rw [if_pos hL] at he; exact absurd rfl he
    rw [if_neg hL] at he ⊢
    by_cases hn : c = 45 ∨ isDig c = true
    · rw [if_pos hn] at he ⊢
      by_cases hq : (lNum (c :: r)).2.2 = true
      · rw [if_pos hq] at he; exact absurd rfl he
      · rw [if_neg hq]; exact short_num _
    rw [if_neg hn] at he ⊢
    by_cases h3 : three (c :: r) = true
    · rw [if_pos h3] at he ⊢
      by_cases hq : (rawB ((c :: r).drop 3)).1 = true
      · rw [if_pos hq] at he; exact absurd rfl he
      · rw [if_neg hq]
        have h1 := (rawB_false ((c :: r).drop 3) (by simpa using hq)).2
        obtain ⟨m, hm⟩ := three_iff.1 h3
        have hm2 := congrArg List.length hm
        rw [List.length_drop] at h1
        simp only [List.length_cons] at hm2
        show 3 + (rawB ((c :: r).drop 3)).2.2 ≤ (c :: r).length
        rw [hl] at h1 ⊢; omega
    rw [if_neg h3] at he ⊢
    by_cases h34 : c = 34
    · rw [if_pos h34] at he ⊢
      by_cases hq : (strB r).1 = true
      · rw [if_pos hq] at he; exact absurd rfl he
      · rw [if_neg hq]
        have := (strB_tells _ r (Nat.le_refl _)).2 (by simpa using hq)
        show 1 + (strB r).2.2 ≤ (c :: r).length
        rw [hl]; omega
    · rw [if_neg h34]; exact Nat.zero_le _
theorem tks_le : ∀ (n : Nat) (l : List Int) (k : Nat), l.length ≤ n → ∀ x ∈ tks l k, x.2 + x.1.n ≤ k + l.length
  | 0, l, k, h, x, hx => by rw [List.eq_nil_of_length_eq_zero (Nat.le_zero.1 h), tks_nil] at hx; cases hx
  | n + 1, l, k, h, x, hx => by
    by_cases hl : l = []
    · rw [hl, tks_nil] at hx; cases hx
    have hp := List.length_pos_iff.2 hl
    have hle := lexone_le l
    by_cases he : (lexone l).e = 0
    · have h1 := one_step he
      rw [tks_step k hl he] at hx
      rcases List.mem_cons.1 hx with e | hx
      · rw [e]; show k + (lexone l).n ≤ _; omega
      · have h5 := bl_len false (l.drop (lexone l).n)
        have := tks_le n ((l.drop (lexone l).n).drop (bl false (l.drop (lexone l).n))) (k + (lexone l).n + bl false (l.drop (lexone l).n)) (by rw [List.length_drop, List.length_drop]; omega) x hx
        rw [List.length_drop] at this h5
        rw [List.length_drop] at this
        omega
    · rw [tks_bad k hl he] at hx
      rw [List.mem_singleton.1 hx]; show k + (lexone l).n ≤ _; omega
theorem lexL_at (l : List Int) : 0 ≤ (lexL l).2.2 ∧ (lexL l).2.2 ≤ (l.length : Int) := by
  rcases lexL_cases l with ⟨_, _, h3, _⟩ | ⟨_, _, x, hx, _, _, _, h4⟩
  · omega
  · have h1 := tks_le _ (l.drop (bl false l)) (bl false l) (Nat.le_refl _) x hx
    have h2 := bl_len false l
    rw [List.length_drop] at h1
    omega
end Go.Proofs.YtjgpmfjkcioinaaDoor.M
namespace Go.Proofs.YtjgpmfjkcioinaaDoor.M
set_option linter.unusedVariables false
set_option linter.unusedSimpArgs false
theorem cnt_nl (p : Int → Bool) (hc : p 10 = false) (l m : List Int) : cnt p (l ++ 10 :: m) = cnt p l := by
  rcases Nat.lt_or_ge (cnt p l) l.length with h | h
  · exact cnt_part h _
  · have h2 : cnt p l = l.length := by have := cnt_le p l; omega
    rw [cnt_all h2, cnt_no _ hc]; omega
theorem name_nl (l m : List Int) : name (l ++ 10 :: m) = name l := by
  cases l with
  | nil => rfl
  | cons x l =>
    show (if isLet x = true then cnt isWord (l ++ 10 :: m) + 1 else 0) = if isLet x = true then cnt isWord l + 1 else 0
    rw [cnt_nl isWord (by decide)]
def Nl {α : Type} (F : List Int → α) : Prop := ∀ l m, F (l ++ 10 :: m) = F l
theorem nl_fin (k : Int) : Nl (lFin k) := fun l m => by
  cases l with
  | nil => rfl
  | cons c l => rfl
theorem dig_nl (l m : List Int) : dig (l ++ 10 :: m) = dig l := cnt_nl isDig (by decide) l m
theorem nl_digs {F : List Int → LNum} (h : Nl F) : Nl (lDigs F) := fun l m => by
  unfold lDigs
  rw [dig_nl, List.drop_append_of_le_length (dig_le_len l), h]
theorem nl_tail : Nl lTail := fun l m => by
  cases l with
  | nil => rfl
  | cons c l =>
    rw [List.cons_append, lTail_cons, lTail_cons, nl_digs (nl_fin 4) l m]
    have := nl_digs (nl_fin 4) (c :: l) m
    rw [List.cons_append] at this
    rw [this]
theorem nl_exp (k : Int) : Nl (lExp k) := fun l m => by
  cases l with
  | nil => rfl
  | cons c l =>
    rw [List.cons_append, lExp_cons, lExp_cons, nl_tail l m]
    have := nl_fin k (c :: l) m
    rw [List.cons_append] at this
    rw [this]
theorem nl_dot : Nl lDot := fun l m => by
  cases l with
  | nil => rfl
  | cons c l =>
    rw [List.cons_append, lDot_cons, lDot_cons, nl_digs (nl_exp 4) l m]
    have := nl_exp 3 (c :: l) m
    rw [List.cons_append] at this
    rw [this]
theorem nl_int : Nl lInt := fun l m => by
  cases l with
  | nil => rfl
  | cons c l =>
    rw [List.cons_append, lInt_cons, lInt_cons, nl_dot l m]
    have := nl_digs nl_dot (c :: l) m
    rw [List.cons_append] at this
    rw [this]
theorem nl_num : Nl lNum := fun l m => by
  cases l with
  | nil => rfl
  | cons c l =>
    rw [List.cons_append, lNum_cons, lNum_cons, nl_int l m]
    have := nl_int (c :: l) m
    rw [List.cons_append] at this
    rw [this]
theorem take3_nl {c : Int} (hc : c ≠ 10) (l m : List Int) : (l ++ 10 :: m).take 3 = [c, c, c] ↔ l.take 3 = [c, c, c] := by
  match l with
  | [] => simp [Ne.symm hc]
  | [x] => simp [Ne.symm hc]
  | [x, y] => simp [Ne.symm hc]
  | x :: y :: z :: t => simp
theorem dots3_nl (l m : List Int) : dots3 (l ++ 10 :: m) = dots3 l := by
  unfold dots3
  exact decide_eq_decide.2 (take3_nl (by decide) l m)
theorem three_nl (l m : List Int) : three (l ++ 10 :: m) = three l := by
  unfold three
  exact decide_eq_decide.2 (take3_nl (by decide) l m)
theorem rawB_behind {l : List Int} (h : (rawB l).1 = true) (m : List Int) : rawB (l ++ m) = rawB l := by
  obtain ⟨_, _, _, h4⟩ := rawB_own l h
  have := h4 (l.drop (rawB l).2.2 ++ m)
  rw [← List.append_assoc, List.take_append_drop] at this
  exact this
theorem strB_behind {l : List Int} (h : (strB l).1 = true) (m : List Int) : strB (l ++ m) = strB l := by
  obtain ⟨b, r, h1, h2, h3⟩ := (strB_tells _ l (Nat.le_refl _)).1 h
  have e1 : strB l = (true, (strB l).2.1, b.length + 1) := by
    conv => lhs; rw [h2]
    rw [strB_done h1]
  have e2 : strB (l ++ m) = (true, (strB l).2.1, b.length + 1) := by
    conv => lhs; rw [h2]
    rw [List.append_assoc, List.cons_append, strB_done h1]
  rw [e2, ← e1]
theorem lexone_nl {l : List Int} (hl : l ≠ []) (m : List Int) (h : (lexone l).e ≠ 4) : lexone (l ++ 10 :: m) = lexone l := by
  cases l with
  | nil => exact absurd rfl hl
  | cons c r =>
    have hd3 := dots3_nl (c :: r) m
    have ht3 := three_nl (c :: r) m
    have hnm := name_nl (c :: r) m
    have hnu := nl_num (c :: r) m
    have hnl := lname_le (c :: r)
    have hns := short_num (c :: r)
    rw [List.cons_append] at hd3 ht3 hnm hnu ⊢
    have etk : ∀ n, n ≤ (c :: r).length → (c :: (r ++ 10 :: m)).take n = (c :: r).take n := fun n hn => by
      rw [← List.cons_append, List.take_append_of_le_length hn]
    rw [lexone_cons] at h
    rw [lexone_cons, lexone_cons]
    unfold lexc at h ⊢
    rw [hd3, ht3, hnm, hnu]
    by_cases h46 : c = 46
    · rw [if_pos h46, if_pos h46]
      by_cases hd : dots3 (c :: r) = true
      · rw [if_pos hd, if_pos hd]
        have h4 := congrArg List.length (of_decide_eq_true hd)
        rw [List.length_take] at h4
        simp only [List.length_cons, List.length_nil] at h4
        rw [etk 3 (by simp only [List.length_cons]; omega)]
      · rw [if_neg hd, if_neg hd]
    rw [if_neg h46] at h
    rw [if_neg h46, if_neg h46]
    by_cases hp : isPun c = true
    · rw [if_pos hp, if_pos hp, etk 1 (by simp)]
    rw [if_neg hp] at h
    rw [if_neg hp, if_neg hp]
    by_cases hL : isLet c = true
    · rw [if_pos hL, if_pos hL, etk _ hnl]
    rw [if_neg hL] at h
    rw [if_neg hL, if_neg hL]
    by_cases hn : c = 45 ∨ isDig c = true
    · rw [if_pos hn, if_pos hn, etk _ hns]
    rw [if_neg hn] at h
    rw [if_neg hn, if_neg hn]
    by_cases h3 : three (c :: r) = true
    · rw [if_pos h3] at h
      rw [if_pos h3, if_pos h3]
      by_cases hq : (rawB ((c :: r).drop 3)).1 = true
      · have h5 := congrArg List.length (of_decide_eq_true h3)
        rw [List.length_take] at h5
        simp only [List.length_cons, List.length_nil] at h5
        have e : (c :: (r ++ 10 :: m)).drop 3 = (c :: r).drop 3 ++ 10 :: m := by
          rw [← List.cons_append, List.drop_append_of_le_length (by simp only [List.length_cons]; omega)]
        rw [e, rawB_behind hq]
      · rw [if_neg hq] at h; exact absurd rfl h
    rw [if_neg h3] at h
    rw [if_neg h3, if_neg h3]
    by_cases h34 : c = 34
    · rw [if_pos h34] at h
      rw [if_pos h34, if_pos h34]
      by_cases hq : (strB r).1 = true
      · rw [strB_behind hq]
      · rw [if_neg hq] at h; exact absurd rfl h
    · rw [if_neg h34, if_neg h34]
theorem bl239_no {l : List Int} (h : ∀ m, l ≠ 187 :: 191 :: m) : bl false (239 :: l) = 0 := by
  rw [bl_false, if_neg (by decide), if_neg (by decide), if_pos rfl]
  split
  · exact absurd rfl (h _)
  · rfl
theorem bl239_yes (m : List Int) : bl false (239 :: 187 :: 191 :: m) = bl false m + 3 := by
  rw [bl_false, if_neg (by decide), if_neg (by decide), if_pos rfl]; rfl
theorem bl_nl : ∀ (b : Bool) (l m : List Int), bl b (l ++ 10 :: m) = if bl b l = l.length then l.length + 1 + bl false m else bl b l
  | b, [], m => by
    rw [bl_nil, List.nil_append, List.length_nil, if_pos rfl]
    cases b with
    | true => rw [bl_true, if_neg (by decide)]; omega
    | false => rw [bl_false, if_pos (by decide)]; omega
  | true, c :: l, m => by
    rw [List.cons_append, bl_true, bl_true, List.length_cons]
    by_cases hn : noEnd c = true
    · rw [if_pos hn, if_pos hn, bl_nl true l m]
      split <;> split <;> omega
    · rw [if_neg hn, if_neg hn, bl_nl false l m]
      split <;> split <;> omega
  | false, c :: l, m => by
    by_cases hn239 : c = 239
    · subst hn239
      rw [List.cons_append, List.length_cons]
      by_cases hy : ∃ t, l = 187 :: 191 :: t
      · obtain ⟨t, rfl⟩ := hy
        rw [List.cons_append, List.cons_append, bl239_yes, bl239_yes, bl_nl false t m]
        simp only [List.length_cons]
        split <;> split <;> omega
      · rw [bl239_no (fun k e => hy ⟨k, e⟩), if_neg (by omega)]
        refine bl239_no (fun k e => ?_)
        match l, hy, e with
        | [], _, e => simp at e
        | [x], _, e => simp at e
        | x :: y :: t, hy, e =>
          simp only [List.cons_append, List.cons.injEq] at e
          exact hy ⟨t, by rw [e.1, e.2.1]⟩
    rw [List.cons_append, bl_false, bl_false, List.length_cons]
    by_cases hb : isBl c = true
    · rw [if_pos hb, if_pos hb, bl_nl false l m]
      split <;> split <;> omega
    rw [if_neg hb, if_neg hb]
    by_cases h35 : c = 35
    · rw [if_pos h35, if_pos h35, bl_nl true l m]
      split <;> split <;> omega
    rw [if_neg h35, if_neg h35]
    by_cases h239 : c = 239
    · exact absurd h239 hn239
    · rw [if_neg h239, if_neg h239, if_neg (by omega)]
def shf (n : Nat) (xs : List (LOne × Nat)) : List (LOne × Nat) := xs.map fun x => (x.1, n + x.2)
theorem chain_shift (p l : List Int) : ∀ (xs : List (LOne × Nat)) (a : Nat), Chain l a xs → Chain (p ++ l) (p.length + a) (shf p.length xs)
  | [], a, h => by
    have h1 : a + bl false (l.drop a) = l.length := h
    show p.length + a + bl false ((p ++ l).drop (p.length + a)) = (p ++ l).length
    rw [List.drop_append, List.drop_eq_nil_of_le (by omega), Nat.add_sub_cancel_left, List.nil_append, List.length_append]; omega
  | x :: xs, a, h => by
    obtain ⟨h1, h2, h3, h4, h5⟩ := h
    have dr : ∀ k, (p ++ l).drop (p.length + k) = l.drop k := fun k => by
      rw [List.drop_append, List.drop_eq_nil_of_le (by omega), Nat.add_sub_cancel_left, List.nil_append]
    refine ⟨?_, ?_, ?_, h4, ?_⟩
    · show p.length + x.2 = p.length + a + _
      rw [dr]; omega
    · show p.length + x.2 < _
      rw [List.length_append]; omega
    · show x.1 = lexone ((p ++ l).drop (p.length + x.2))
      rw [dr]; exact h3
    · show Chain (p ++ l) (p.length + x.2 + x.1.n) (shf p.length xs)
      rw [Nat.add_assoc]; exact chain_shift p l xs _ h5
theorem chain_pos {l : List Int} {a b : Nat} (h : a + bl false (l.drop a) = b + bl false (l.drop b)) {xs : List (LOne × Nat)} (hc : Chain l a xs) : Chain l b xs := by
  cases xs with
  | nil => exact h.symm.trans hc
  | cons x xs =>
    obtain ⟨h1, h2⟩ := hc
    exact ⟨h1.trans h, h2⟩
theorem drop_nl {l : List Int} {a : Nat} (h : a ≤ l.length) (m : List Int) : (l ++ 10 :: m).drop a = l.drop a ++ 10 :: m := List.drop_append_of_le_length h
theorem chain_join (l m : List Int) (ys : List (LOne × Nat)) (hy : Chain m 0 ys) : ∀ (xs : List (LOne × Nat)) (a : Nat), a ≤ l.length → Chain l a xs → Chain (l ++ 10 :: m) a (xs ++ shf (l.length + 1) ys)
  | [], a, ha, h => by
    have h1 : a + bl false (l.drop a) = l.length := h
    have hs := chain_shift (l ++ [10]) m ys 0 hy
    have hz : (l ++ [(10 : Int)]).length = l.length + 1 := by simp
    rw [List.append_assoc, List.singleton_append, Nat.add_zero, hz] at hs
    rw [List.nil_append]
    refine chain_pos ?_ hs
    have e1 : (l ++ 10 :: m).drop (l.length + 1) = m := by rw [List.drop_append, List.drop_eq_nil_of_le (by omega), Nat.add_sub_cancel_left]; rfl
    rw [e1, drop_nl ha, bl_nl, if_pos (by rw [List.length_drop]; omega), List.length_drop]; omega
  | x :: xs, a, ha, h => by
    obtain ⟨h1, h2, h3, h4, h5⟩ := h
    have hne : l.drop x.2 ≠ [] := fun e => by
      have := congrArg List.length e
      rw [List.length_drop, List.length_nil] at this; omega
    have hn := one_step (l := l.drop x.2) (by rw [← h3]; exact h4)
    rw [← h3, List.length_drop] at hn
    refine ⟨?_, ?_, ?_, h4, chain_join l m ys hy xs _ (by omega) h5⟩
    · rw [drop_nl ha, bl_nl, if_neg (by rw [List.length_drop]; omega)]; exact h1
    · rw [List.length_append]; omega
    · rw [drop_nl (by omega), lexone_nl hne m (by rw [← h3, h4]; decide)]; exact h3
theorem tks_wrong (m : List Int) : ∀ (n : Nat) (l : List Int) (k : Nat), l.length ≤ n → ∀ x, (tks l k).find? (fun x => decide (x.1.e ≠ 0)) = some x → x.1.e ≠ 4 → (tks (l ++ 10 :: m) k).find? (fun x => decide (x.1.e ≠ 0)) = some x
  | 0, l, k, h, x, hx, _ => by rw [List.eq_nil_of_length_eq_zero (Nat.le_zero.1 h), tks_nil] at hx; cases hx
  | n + 1, l, k, h, x, hx, h4 => by
    by_cases hl : l = []
    · rw [hl, tks_nil] at hx; cases hx
    have hne : l ++ 10 :: m ≠ [] := by simp
    by_cases he : (lexone l).e = 0
    · have h1 := one_step he
      have e1 := lexone_nl hl m (by rw [he]; decide)
      rw [tks_step k hl he, List.find?_cons_of_neg (by simp [he])] at hx
      by_cases hb : bl false (l.drop (lexone l).n) = (l.drop (lexone l).n).length
      · rw [hb, List.drop_length, tks_nil] at hx; cases hx
      · rw [tks_step k hne (by rw [e1]; exact he), e1, List.find?_cons_of_neg (by simp [he]), drop_nl h1.2, bl_nl, if_neg hb, drop_nl (bl_len false _)]
        exact tks_wrong m n _ _ (by rw [List.length_drop, List.length_drop]; omega) x hx h4
    · rw [tks_bad k hl he, List.find?_cons_of_pos (by simp [he])] at hx
      have hxe : (lexone l, k) = x := Option.some.inj hx
      subst hxe
      have e1 := lexone_nl hl m h4
      rw [tks_bad k hne (by rw [e1]; exact he), e1, List.find?_cons_of_pos (by simp [he])]
theorem lexL_wrong {l : List Int} (m : List Int) (h0 : (lexL l).2.1 ≠ 0) (h4 : (lexL l).2.1 ≠ 4) : lexL (l ++ 10 :: m) = lexL l := by
  rcases lexL_cases l with ⟨h1, _⟩ | ⟨_, h2, x, hx, hf, hx0, h5, h6⟩
  · exact absurd h1 h0
  have hb : bl false l ≠ l.length := fun e => by
    unfold stepsL at hx
    rw [e, List.drop_length, tks_nil] at hx; cases hx
  have e1 : stepsL (l ++ 10 :: m) = tks (l.drop (bl false l) ++ 10 :: m) (bl false l) := by
    unfold stepsL
    rw [bl_nl, if_neg hb, drop_nl (bl_len false _)]
  have e2 := tks_wrong m _ (l.drop (bl false l)) (bl false l) (Nat.le_refl _) x hf (by rw [← h5]; exact h4)
  unfold lexL
  rw [e1, e2, hf]
theorem lexL_first {l : List Int} (m : List Int) (h0 : (lexL l).2.1 = 0) (hne : (lexL l).1 ≠ []) (hf : (lexL (l ++ 10 :: m)).2.1 = 0) : ∃ x xs ys, (lexL l).1 = x :: xs ∧ (lexL (l ++ 10 :: m)).1 = x :: ys := by
  have hc := (chain_lexL h0).1
  have hz := (chain_lexL hf).1
  obtain ⟨x, xs, hx⟩ := List.exists_cons_of_ne_nil hne
  rw [hx] at hc
  obtain ⟨h1, h2, h3, h4, h5⟩ := hc
  rw [List.drop_zero, Nat.zero_add] at h1
  have hb : bl false l ≠ l.length := by omega
  have e1 : bl false (l ++ 10 :: m) = bl false l := by rw [bl_nl, if_neg hb]
  have hnil : l.drop x.2 ≠ [] := fun e => by
    have := congrArg List.length e
    rw [List.length_drop, List.length_nil] at this; omega
  have e2 := lexone_nl hnil m (by rw [← h3, h4]; decide)
  cases hq : (lexL (l ++ 10 :: m)).1 with
  | nil =>
    rw [hq] at hz
    have : 0 + bl false ((l ++ 10 :: m).drop 0) = (l ++ 10 :: m).length := hz
    rw [List.drop_zero, Nat.zero_add, e1, List.length_append, List.length_cons] at this
    omega
  | cons y ys =>
    rw [hq] at hz
    obtain ⟨g1, g2, g3, g4, g5⟩ := hz
    rw [List.drop_zero, Nat.zero_add, e1, ← h1] at g1
    refine ⟨x, xs, ys, hx, ?_⟩
    have hy : y = x := by
      have : y.1 = x.1 := by rw [g3, g1, drop_nl (by omega), e2]; exact h3.symm
      exact Prod.ext this g1
    rw [hy]
end Go.Proofs.YtjgpmfjkcioinaaDoor.M
