/-
  Plain mathematics for block strings: where a text's lines end, how far in they are, and what is told of them. No program in sight.
-/
import Derived.Test.YtjgpmfjkcioinaaDoorU1
namespace Go.Proofs.YtjgpmfjkcioinaaDoor.M
open Go.Proofs.YtjgpmfjkcioinaaDoorW.PrintWords
set_option linter.unusedVariables false
set_option linter.unusedSimpArgs false

/-! ### Lines -/
/-- A text's lines: cut at each byte 10, and 13; a byte 10 behind a 13 (the flag) is that end's. -/
def fl : Bool → List Int → List (List Int)
  | _, [] => [[]]
  | b, c :: l => if c = 10 ∧ b = true then fl false l else if c = 10 ∨ c = 13 then [] :: fl (decide (c = 13)) l else (c :: (fl false l).headD []) :: (fl false l).tail
theorem fl_nil (b : Bool) : fl b [] = [[]] := by cases b <;> rfl
theorem fl_ten (l : List Int) : fl false (10 :: l) = [] :: fl false l := by rw [fl, if_neg (by decide), if_pos (by decide)]; rfl
theorem fl_ten' (l : List Int) : fl true (10 :: l) = fl false l := by rw [fl, if_pos (by decide)]
theorem fl_cr (b : Bool) (l : List Int) : fl b (13 :: l) = [] :: fl true l := by rw [fl, if_neg (by simp), if_pos (by decide)]; rfl
theorem fl_other {c : Int} (h0 : c ≠ 10) (h1 : c ≠ 13) (b : Bool) (l : List Int) : fl b (c :: l) = (c :: (fl false l).headD []) :: (fl false l).tail := by
  rw [fl, if_neg (by simp [h0]), if_neg (by simp [h0, h1])]
theorem noEnd_iff {c : Int} : noEnd c = true ↔ c ≠ 10 ∧ c ≠ 13 := by simp [noEnd]
theorem fl_true {l : List Int} (h : l.getD 0 0 ≠ 10) : fl true l = fl false l := by
  cases l with
  | nil => rfl
  | cons c l =>
    have h0 : c ≠ 10 := h
    by_cases h1 : c = 13
    · subst h1; rw [fl_cr, fl_cr]
    · rw [fl_other h0 h1, fl_other h0 h1]
theorem fl_ne : ∀ (b : Bool) (l : List Int), fl b l ≠ []
  | b, [] => by rw [fl_nil]; simp
  | b, c :: l => by
    rw [fl]
    split
    · exact fl_ne false l
    · split <;> simp
theorem fl_head (b : Bool) (l : List Int) : fl b l = (fl b l).headD [] :: (fl b l).tail := by
  cases h : fl b l with
  | nil => exact absurd h (fl_ne b l)
  | cons x r => rfl
theorem fl_pos (b : Bool) (l : List Int) : 1 ≤ (fl b l).length := List.length_pos_iff.2 (fl_ne b l)
theorem fl_length : ∀ (b : Bool) (l : List Int), (fl b l).length ≤ l.length + 1
  | b, [] => by rw [fl_nil]; simp
  | b, c :: l => by
    have h1 := fl_length false l
    have h2 := fl_length (decide (c = 13)) l
    rw [fl]
    split
    · simp; omega
    · split
      · simp; omega
      · simp only [List.length_cons, List.length_tail]; omega
/-- Up to the first end of a line. -/
theorem fl_cut : ∀ (l : List Int), cnt noEnd l < l.length → ∃ c m, l.drop (cnt noEnd l) = c :: m ∧ (c = 10 ∨ c = 13) ∧ fl false l = l.take (cnt noEnd l) :: fl (decide (c = 13)) m
  | [], h => by simp [cnt] at h
  | d :: l, h => by
    by_cases hd : noEnd d = true
    · rw [cnt_yes _ hd] at h ⊢
      obtain ⟨c, m, h1, h2, h3⟩ := fl_cut l (by simp at h; omega)
      refine ⟨c, m, by rw [List.drop_succ_cons]; exact h1, h2, ?_⟩
      rw [fl_other (noEnd_iff.1 hd).1 (noEnd_iff.1 hd).2, h3, List.take_succ_cons]; rfl
    · rw [Bool.not_eq_true] at hd
      have hc : d = 10 ∨ d = 13 := by
        by_cases a : d = 10
        · exact .inl a
        · by_cases b : d = 13
          · exact .inr b
          · rw [noEnd_iff.2 ⟨a, b⟩] at hd; cases hd
      rw [cnt_no _ hd]
      refine ⟨d, l, rfl, hc, ?_⟩
      rcases hc with rfl | rfl
      · rw [fl_ten]; rfl
      · rw [fl_cr]; rfl
theorem fl_plain : ∀ (b : Bool) (l : List Int), (∀ c ∈ l, noEnd c = true) → fl b l = [l]
  | b, [], _ => fl_nil b
  | b, c :: l, h => by
    have hc := noEnd_iff.1 (h c (by simp))
    rw [fl_other hc.1 hc.2, fl_plain false l (fun x hx => h x (by simp [hx]))]; rfl
theorem cnt_full {p : Int → Bool} : ∀ {l : List Int}, cnt p l = l.length → ∀ c ∈ l, p c = true
  | [], _, c, hc => by cases hc
  | d :: l, h, c, hc => by
    by_cases hd : p d = true
    · rw [cnt_yes _ hd, List.length_cons] at h
      rcases List.mem_cons.1 hc with rfl | hc
      · exact hd
      · exact cnt_full (l := l) (by omega) c hc
    · rw [Bool.not_eq_true] at hd
      rw [cnt_no _ hd, List.length_cons] at h; omega
theorem cnt_of_all {p : Int → Bool} {l : List Int} (h : ∀ c ∈ l, p c = true) : cnt p l = l.length := by
  induction l with
  | nil => rfl
  | cons c l ih => rw [cnt_yes _ (h c (by simp)), ih (fun x hx => h x (by simp [hx])), List.length_cons]
theorem fl_uncut {l : List Int} (h : ¬ cnt noEnd l < l.length) : fl false l = [l] :=
  fl_plain false l (cnt_full (by have := cnt_le noEnd l; omega))
theorem fl_mem : ∀ (b : Bool) (l x : List Int), x ∈ fl b l → ∀ c ∈ x, noEnd c = true ∧ c ∈ l
  | b, [], x, hx, c, hc => by
    rw [fl_nil, List.mem_singleton] at hx; subst hx; cases hc
  | b, d :: l, x, hx, c, hc => by
    rw [fl] at hx
    split at hx
    · have := fl_mem false l x hx c hc; exact ⟨this.1, List.mem_cons_of_mem _ this.2⟩
    · split at hx
      · rcases List.mem_cons.1 hx with rfl | hx
        · cases hc
        · have := fl_mem _ l x hx c hc; exact ⟨this.1, List.mem_cons_of_mem _ this.2⟩
      · rename_i q
        rcases List.mem_cons.1 hx with rfl | hx
        · rcases List.mem_cons.1 hc with rfl | hc
          · exact ⟨noEnd_iff.2 (by omega), by simp⟩
          · have := fl_mem false l ((fl false l).headD []) (by rw [fl_head false l]; simp) c hc; exact ⟨this.1, List.mem_cons_of_mem _ this.2⟩
        · have := fl_mem false l x (List.mem_of_mem_tail hx) c hc; exact ⟨this.1, List.mem_cons_of_mem _ this.2⟩
/-- The lines of two texts, with an end of a line between. -/
theorem fl_join (e : List Int) : ∀ (b : Bool) (a : List Int), a.getLast? ≠ some 13 → ∀ r, (a = [] → b = true → e.getD 0 0 ≠ 10) → (∀ b' : Bool, (b' = true → e.getD 0 0 ≠ 10) → fl b' e = [] :: r) → fl b (a ++ e) = fl b a ++ r
  | b, [], _, r, hb, he => by rw [List.nil_append, fl_nil, he b (hb rfl)]; rfl
  | b, c :: a, hl, r, hb, he => by
    have hl2 : a.getLast? ≠ some 13 := by
      cases a with
      | nil => simp
      | cons d a => rw [List.getLast?_cons_cons] at hl; exact hl
    have hc : a = [] → c ≠ 13 := by rintro rfl rfl; exact hl rfl
    have ih := fun b' h => fl_join e b' a hl2 r h he
    rw [List.cons_append, fl, fl]
    split
    · exact ih false (by simp)
    · split
      · rw [ih (decide (c = 13)) (fun h1 h2 => absurd (of_decide_eq_true h2) (hc h1))]; rfl
      · rw [ih false (by simp), fl_head false a]; rfl
theorem fl_join_ten {a : List Int} (h : a.getLast? ≠ some 13) (b : List Int) : fl false (a ++ 10 :: b) = fl false a ++ fl false b :=
  fl_join (10 :: b) false a h (fl false b) (by simp) (fun b' hb => by
    cases b' with
    | true => exact absurd rfl (hb rfl)
    | false => exact fl_ten b)
theorem fl_join_cr {a : List Int} (h : a.getLast? ≠ some 13) {b : List Int} (hb : b.getD 0 0 ≠ 10) : fl false (a ++ 13 :: b) = fl false a ++ fl false b :=
  fl_join (13 :: b) false a h (fl false b) (by simp) (fun b' _ => by rw [fl_cr, fl_true hb])
theorem fl_join_crlf {a : List Int} (h : a.getLast? ≠ some 13) (b : List Int) : fl false (a ++ 13 :: 10 :: b) = fl false a ++ fl false b :=
  fl_join (13 :: 10 :: b) false a h (fl false b) (by simp) (fun b' _ => by rw [fl_cr, fl_ten'])
/-- Lines, one behind the other, with bytes 10 between. -/
def jn : List (List Int) → List Int
  | [] => []
  | x :: r => x ++ r.flatMap (fun y => 10 :: y)
theorem jn_cons {x : List Int} {r : List (List Int)} (h : r ≠ []) : jn (x :: r) = x ++ 10 :: jn r := by
  cases r with
  | nil => exact absurd rfl h
  | cons y r => rfl
theorem fl_jn : ∀ (r : List (List Int)), r ≠ [] → (∀ x ∈ r, ∀ c ∈ x, noEnd c = true) → fl false (jn r) = r
  | [], h, _ => absurd rfl h
  | [x], _, hx => by
    show fl false (x ++ []) = [x]
    rw [List.append_nil]; exact fl_plain false x (hx x (by simp))
  | x :: y :: r, _, hx => by
    rw [jn_cons (by simp), fl_join_ten (fun h => by
      have := (noEnd_iff.1 (hx x (by simp) 13 (List.mem_of_getLast? h))).2
      exact this rfl), fl_plain false x (hx x (by simp)), fl_jn (y :: r) (by simp) (fun z hz => hx z (by simp [List.mem_cons.1 hz]))]; rfl

/-! ### Margins -/
def isWs (c : Int) : Bool := decide (c = 9 ∨ c = 32)
def marg (l : List Int) : Nat := cnt isWs l
def blk (l : List Int) : Bool := decide (marg l = l.length)
theorem blk_iff {l : List Int} : blk l = true ↔ ∀ c ∈ l, isWs c = true := by
  unfold blk marg
  rw [decide_eq_true_eq]
  exact ⟨cnt_full, cnt_of_all⟩
theorem blk_append {a b : List Int} : blk (a ++ b) = (blk a && blk b) := by
  rw [Bool.eq_iff_iff, Bool.and_eq_true, blk_iff, blk_iff, blk_iff]
  simp only [List.mem_append]
  exact ⟨fun h => ⟨fun c hc => h c (.inl hc), fun c hc => h c (.inr hc)⟩, fun h c hc => hc.elim (h.1 c) (h.2 c)⟩
theorem blk_drop {a : List Int} (n : Nat) (h : blk a = true) : blk (a.drop n) = true := by
  rw [blk_iff] at *
  exact fun c hc => h c (List.mem_of_mem_drop hc)
theorem marg_le (l : List Int) : marg l ≤ l.length := cnt_le _ _
theorem marg_lt {l : List Int} (h : blk l = false) : marg l < l.length := by
  have := marg_le l
  have : marg l ≠ l.length := by simpa [blk] using h
  omega
theorem marg_blk (a b : List Int) (h : blk a = true) : marg (a ++ b) = a.length + marg b := cnt_all (of_decide_eq_true h) b
theorem marg_drop : ∀ (l : List Int) (n : Nat), n ≤ marg l → marg (l.drop n) = marg l - n
  | l, 0, _ => by simp
  | [], n + 1, h => by simp [marg, cnt] at h
  | c :: l, n + 1, h => by
    by_cases hc : isWs c = true
    · have e : marg (c :: l) = marg l + 1 := cnt_yes _ hc
      rw [e] at h ⊢
      rw [List.drop_succ_cons, marg_drop l n (by omega)]; omega
    · rw [Bool.not_eq_true] at hc
      have e : marg (c :: l) = 0 := cnt_no _ hc
      omega
theorem blk_drop_no {l : List Int} {n : Nat} (hn : n ≤ marg l) (h : blk l = false) : blk (l.drop n) = false := by
  have h1 := marg_lt h
  have h2 := marg_drop l n hn
  unfold blk
  rw [decide_eq_false_iff_not, h2, List.length_drop]; omega
/-- The least indent of lines that are not blank, beside what was found; -1, if there is none. -/
def ind : Int → List (List Int) → Int
  | a, [] => a
  | a, x :: r => if blk x = false ∧ (a < 0 ∨ (marg x : Int) < a) then ind (marg x) r else ind a r
def indent (l : List (List Int)) : Int := ind (-1) l.tail
theorem ind_blk {x : List Int} (h : blk x = true) (a : Int) (r : List (List Int)) : ind a (x :: r) = ind a r := by rw [ind, if_neg (by simp [h])]
theorem ind_append (a : Int) : ∀ (r q : List (List Int)) (a : Int), ind a (r ++ q) = ind (ind a r) q
  | [], q, a => rfl
  | x :: r, q, a => by
    rw [List.cons_append, ind, ind]
    split
    · exact ind_append a r q _
    · exact ind_append a r q _
theorem ind_ge : ∀ (r : List (List Int)) (a : Int), -1 ≤ a → -1 ≤ ind a r
  | [], a, h => h
  | x :: r, a, h => by
    rw [ind]
    split
    · exact ind_ge r _ (by omega)
    · exact ind_ge r a h
theorem ind_pos : ∀ (r : List (List Int)) (a : Int), 0 ≤ a → 0 ≤ ind a r ∧ ind a r ≤ a ∧ (∀ x ∈ r, blk x = false → ind a r ≤ (marg x : Int)) ∧ (ind a r = a ∨ ∃ x ∈ r, blk x = false ∧ ind a r = (marg x : Int))
  | [], a, h => ⟨h, Int.le_refl _, fun x hx => (by cases hx), .inl rfl⟩
  | x :: r, a, h => by
    rw [ind]
    split
    · rename_i q
      obtain ⟨h1, h2, h3, h4⟩ := ind_pos r (marg x) (by omega)
      refine ⟨h1, by omega, fun y hy hb => ?_, .inr ?_⟩
      · rcases List.mem_cons.1 hy with rfl | hy
        · exact h2
        · exact h3 y hy hb
      · rcases h4 with h4 | ⟨y, hy, hb, e⟩
        · exact ⟨x, by simp, q.1, h4⟩
        · exact ⟨y, by simp [hy], hb, e⟩
    · rename_i q
      obtain ⟨h1, h2, h3, h4⟩ := ind_pos r a h
      refine ⟨h1, h2, fun y hy hb => ?_, ?_⟩
      · rcases List.mem_cons.1 hy with rfl | hy
        · have : ¬ (marg y : Int) < a := fun h' => q ⟨hb, .inr h'⟩
          omega
        · exact h3 y hy hb
      · rcases h4 with h4 | ⟨y, hy, hb, e⟩
        · exact .inl h4
        · exact .inr ⟨y, by simp [hy], hb, e⟩
/-- What the least indent is: none, if all are blank; else one of them, and no greater than any. -/
theorem ind_none : ∀ (r : List (List Int)), (ind (-1) r = -1 ∧ ∀ x ∈ r, blk x = true) ∨ (0 ≤ ind (-1) r ∧ (∀ x ∈ r, blk x = false → ind (-1) r ≤ (marg x : Int)) ∧ ∃ x ∈ r, blk x = false ∧ ind (-1) r = (marg x : Int))
  | [] => .inl ⟨rfl, fun x hx => (by cases hx)⟩
  | x :: r => by
    cases hb : blk x with
    | true =>
      rw [ind_blk hb]
      rcases ind_none r with ⟨h1, h2⟩ | ⟨h1, h2, h3⟩
      · exact .inl ⟨h1, fun y hy => (List.mem_cons.1 hy).elim (fun e => by rw [e]; exact hb) (fun e => h2 y e)⟩
      · refine .inr ⟨h1, fun y hy hf => ?_, ?_⟩
        · rcases List.mem_cons.1 hy with rfl | hy
          · rw [hb] at hf; cases hf
          · exact h2 y hy hf
        · obtain ⟨y, hy, h⟩ := h3; exact ⟨y, by simp [hy], h⟩
    | false =>
      have e : ind (-1) (x :: r) = ind (marg x) r := by rw [ind, if_pos ⟨hb, by omega⟩]
      rw [e]
      obtain ⟨h1, h2, h3, h4⟩ := ind_pos r (marg x) (by omega)
      refine .inr ⟨h1, fun y hy hf => ?_, ?_⟩
      · rcases List.mem_cons.1 hy with rfl | hy
        · exact h2
        · exact h3 y hy hf
      · rcases h4 with h4 | ⟨y, hy, hf, e⟩
        · exact ⟨x, by simp, hb, h4⟩
        · exact ⟨y, by simp [hy], hf, e⟩
/-- The indent of lines that are farther in by as much. -/
theorem ind_shift (s : List Int) (hs : blk s = true) : ∀ (r : List (List Int)) (a b : Int), (a = -1 ∧ b = -1 ∨ 0 ≤ a ∧ b = a + s.length) → (ind a r = -1 ∧ ind b (r.map (s ++ ·)) = -1 ∨ 0 ≤ ind a r ∧ ind b (r.map (s ++ ·)) = ind a r + s.length)
  | [], a, b, h => h
  | x :: r, a, b, h => by
    have e1 : blk (s ++ x) = blk x := by rw [blk_append, hs, Bool.true_and]
    have e2 : marg (s ++ x) = s.length + marg x := marg_blk s x hs
    rw [List.map_cons, ind, ind, e1, e2]
    by_cases q : blk x = false ∧ (a < 0 ∨ (marg x : Int) < a)
    · rw [if_pos q, if_pos ⟨q.1, by omega⟩]
      exact ind_shift s hs r _ _ (.inr ⟨by omega, by omega⟩)
    · rw [if_neg q, if_neg (fun q' => q ⟨q'.1, by omega⟩)]
      exact ind_shift s hs r _ _ h

/-! ### What a raw text tells -/
/-- Lines without blank ones at the head. -/
def headless (r : List (List Int)) : List (List Int) := r.dropWhile blk
/-- .. and at the end. -/
def tailless : List (List Int) → List (List Int)
  | [] => []
  | x :: r => if blk x = true ∧ tailless r = [] then [] else x :: tailless r
def strip (r : List (List Int)) : List (List Int) := tailless (headless r)
def cutAll (n : Nat) (l : List (List Int)) : List (List Int) := match l with | [] => [] | x :: r => x :: r.map (List.drop n)
def foldl_ (l : List (List Int)) : List (List Int) := strip (cutAll (indent l).toNat l)
def foldL (l : List Int) : List Int := jn (foldl_ (fl false l))
theorem headless_blk {x : List Int} (h : blk x = true) (r : List (List Int)) : headless (x :: r) = headless r := by unfold headless; rw [List.dropWhile_cons, if_pos h]
theorem headless_no {x : List Int} (h : blk x = false) (r : List (List Int)) : headless (x :: r) = x :: r := by unfold headless; rw [List.dropWhile_cons, if_neg (by simp [h])]
theorem headless_app : ∀ (r q : List (List Int)), headless (r ++ q) = if headless r = [] then headless q else headless r ++ q
  | [], q => rfl
  | x :: r, q => by
    cases h : blk x with
    | true => rw [List.cons_append, headless_blk h, headless_blk h]; exact headless_app r q
    | false => rw [List.cons_append, headless_no h, headless_no h, if_neg (by simp)]; rfl
theorem tailless_blk : ∀ (r : List (List Int)) {x : List Int}, blk x = true → tailless (r ++ [x]) = tailless r
  | [], x, h => by rw [List.nil_append]; show tailless (x :: []) = []; rw [tailless]; exact if_pos ⟨h, rfl⟩
  | y :: r, x, h => by rw [List.cons_append, tailless, tailless, tailless_blk r h]
theorem tailless_sub : ∀ (r : List (List Int)) (x : List Int), x ∈ tailless r → x ∈ r
  | [], x, h => h
  | y :: r, x, h => by
    rw [tailless] at h
    split at h
    · cases h
    · rcases List.mem_cons.1 h with rfl | h
      · simp
      · exact List.mem_cons_of_mem _ (tailless_sub r x h)
theorem tailless_keep : ∀ (r : List (List Int)) (x : List Int), x ∈ r → blk x = false → x ∈ tailless r
  | y :: r, x, h, hb => by
    rw [tailless]
    rcases List.mem_cons.1 h with rfl | h
    · rw [if_neg (by simp [hb])]; simp
    · have := tailless_keep r x h hb
      rw [if_neg (fun q => by rw [q.2] at this; cases this)]
      exact List.mem_cons_of_mem _ this
theorem tailless_last : ∀ (r : List (List Int)) (x : List Int), (tailless r).getLast? = some x → blk x = false
  | [], x, h => by cases h
  | y :: r, x, h => by
    rw [tailless] at h
    split at h
    · cases h
    · rename_i q
      cases ht : tailless r with
      | nil =>
        rw [ht] at h q
        simp only [List.getLast?_singleton, Option.some.injEq] at h
        subst h
        cases hb : blk y with
        | true => exact absurd ⟨hb, rfl⟩ q
        | false => rfl
      | cons z t =>
        rw [ht, List.getLast?_cons_cons, ← ht] at h
        exact tailless_last r x h
theorem tailless_id : ∀ (r : List (List Int)), (∀ x, r.getLast? = some x → blk x = false) → tailless r = r
  | [], _ => rfl
  | [x], h => by rw [tailless, if_neg (by simp [h x rfl])]; rfl
  | x :: y :: r, h => by
    have ih := tailless_id (y :: r) (fun z hz => h z (by rw [List.getLast?_cons_cons]; exact hz))
    rw [tailless, ih, if_neg (by simp)]
theorem headless_first : ∀ (r : List (List Int)) (x : List Int) (t : List (List Int)), headless r = x :: t → blk x = false
  | [], x, t, h => by cases h
  | y :: r, x, t, h => by
    cases hb : blk y with
    | true => rw [headless_blk hb] at h; exact headless_first r x t h
    | false => rw [headless_no hb] at h; cases h; exact hb
theorem headless_sub (r : List (List Int)) (x : List Int) (h : x ∈ headless r) : x ∈ r := (List.dropWhile_suffix _).subset h
theorem headless_keep : ∀ (r : List (List Int)) (x : List Int), x ∈ r → blk x = false → x ∈ headless r
  | y :: r, x, h, hb => by
    cases hy : blk y with
    | true =>
      rw [headless_blk hy]
      rcases List.mem_cons.1 h with rfl | h
      · rw [hb] at hy; cases hy
      · exact headless_keep r x h hb
    | false => rw [headless_no hy]; exact h
theorem strip_sub (r : List (List Int)) (x : List Int) (h : x ∈ strip r) : x ∈ r := headless_sub r x (tailless_sub _ x h)
theorem strip_keep (r : List (List Int)) (x : List Int) (h : x ∈ r) (hb : blk x = false) : x ∈ strip r := tailless_keep _ x (headless_keep r x h hb) hb
theorem strip_blk {x : List Int} (h : blk x = true) (r : List (List Int)) : strip (x :: r) = strip r := by unfold strip; rw [headless_blk h]
theorem strip_end {x : List Int} (h : blk x = true) (r : List (List Int)) : strip (r ++ [x]) = strip r := by
  unfold strip
  rw [headless_app]
  split
  · rename_i q; rw [q, headless_blk h]; rfl
  · exact tailless_blk _ h
theorem strip_first {r : List (List Int)} {x : List Int} {t : List (List Int)} (h : strip r = x :: t) : blk x = false := by
  unfold strip at h
  cases hh : headless r with
  | nil => rw [hh] at h; cases h
  | cons y q =>
    rw [hh, tailless] at h
    split at h
    · cases h
    · cases h; exact headless_first r _ q hh
theorem strip_last {r : List (List Int)} {x : List Int} (h : (strip r).getLast? = some x) : blk x = false := tailless_last _ x h
theorem strip_id {r : List (List Int)} (h0 : ∀ x t, r = x :: t → blk x = false) (h1 : ∀ x, r.getLast? = some x → blk x = false) : strip r = r := by
  unfold strip
  cases r with
  | nil => rfl
  | cons x t => rw [headless_no (h0 x t rfl)]; exact tailless_id _ h1
theorem strip_nil {r : List (List Int)} (h : strip r = []) : ∀ x ∈ r, blk x = true := by
  intro x hx
  cases hb : blk x with
  | true => rfl
  | false => have := strip_keep r x hx hb; rw [h] at this; cases this
theorem cutAll_zero (l : List (List Int)) : cutAll 0 l = l := by
  cases l with
  | nil => rfl
  | cons x r => show x :: r.map (List.drop 0) = _; rw [show (List.drop 0 : List Int → List Int) = id from rfl, List.map_id]
/-- What the lines tell have no end of a line. -/
theorem foldl_mem {l : List (List Int)} (h : ∀ x ∈ l, ∀ c ∈ x, noEnd c = true) : ∀ x ∈ foldl_ l, ∀ c ∈ x, noEnd c = true := by
  intro x hx
  have hx := strip_sub _ x hx
  cases l with
  | nil => cases hx
  | cons y r =>
    rcases List.mem_cons.1 hx with e | hx
    · subst e; exact h _ (by simp)
    · obtain ⟨z, hz, rfl⟩ := List.mem_map.1 hx
      exact fun c hc => h z (by simp [hz]) c (List.mem_of_mem_drop hc)
theorem lines_fold {l : List Int} (h : foldl_ (fl false l) ≠ []) : fl false (foldL l) = foldl_ (fl false l) :=
  fl_jn _ h (foldl_mem fun x hx c hc => (fl_mem false l x hx c hc).1)
theorem jn_length : ∀ (r : List (List Int)), (jn r).length + 1 = (r.map fun x => x.length + 1).sum ∨ r = []
  | [] => .inr rfl
  | [x] => .inl (by show (x ++ []).length + 1 = _; simp)
  | x :: y :: r => by
    rcases jn_length (y :: r) with h | h
    · left; rw [jn_cons (by simp), List.map_cons, List.sum_cons, ← h, List.length_append, List.length_cons]; omega
    · cases h
end Go.Proofs.YtjgpmfjkcioinaaDoor.M
