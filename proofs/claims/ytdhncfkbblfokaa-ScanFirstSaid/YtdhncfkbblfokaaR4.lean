/-
  The document's scanner (layer 4), as printed: it answers as the plain words say, with rounds enough.
-/
import Derived.Test.YtdhncfkbblfokaaQ2
import Derived.Test.YtdhncfkbblfokaaQ1
namespace Go.Proofs.Ytdhncfkbblfokaa.R
open Go.RowKit Go.Proofs.YtdhncfkbblfokaaW.PrintWords Go.Proofs.YtdhncfkbblfokaaW.PrintLast Go.Proofs.Ytdhncfkbblfokaa.M Go.Proofs.Ytdhncfkbblfokaa.G Go.Proofs.Ytdhncfkbblfokaa.Q
set_option linter.unusedVariables false
set_option linter.unusedSimpArgs false

theorem wrap_id {x : Int} (h0 : -1000000000000000 ≤ x) (h : x ≤ 1000000000000000) : wrap64 x = x := by unfold wrap64; omega

theorem begins_ref (c : Int) : copperplateref04_Begins.f c = some (isLet c) := by
  unfold copperplateref04_Begins.f isLet
  have e : (c == 95) = decide (c = 95) := rfl
  rw [e]
  split <;> (try split) <;> (try split) <;> (try split) <;> apply congrArg some <;> rw [Bool.eq_iff_iff] <;> simp only [decide_eq_true_eq, true_iff] <;> omega

theorem digits_loop (s : ByteArray) (hs : s.size ≤ 140737488351232) (d : Nat) : ∀ (k : Nat) (i : Int), 0 ≤ i → i ≤ s.size → (s.size : Int) - i = d → d < k →
    copperplateref04_Digits.l0 k s i = some (i + cnt isDig (at_ s i)) := by
  induction d with
  | zero =>
    intro k i h0 h1 hd hk
    obtain ⟨k, rfl⟩ : ∃ m, k = m + 1 := ⟨k - 1, by omega⟩
    simp only [copperplateref04_Digits.l0]
    rw [if_neg (by omega), at_nil s i (by omega), cnt_nil]
    simp
  | succ d ih =>
    intro k i h0 h1 hd hk
    obtain ⟨k, rfl⟩ : ∃ m, k = m + 1 := ⟨k - 1, by omega⟩
    simp only [copperplateref04_Digits.l0]
    rw [if_pos (by omega), if_pos h0, at_cons s i h0 (by omega)]
    by_cases h : isDig (bt s i) = true
    · have h' := h
      simp only [isDig, decide_eq_true_eq] at h'
      rw [if_pos h'.1, if_pos h'.2, wrap_id (by omega) (by omega), ih k (i + 1) (by omega) (by omega) (by omega) (by omega), cnt_yes _ h]
      congr 1; omega
    · rw [Bool.not_eq_true] at h
      rw [cnt_no _ h]
      simp only [isDig, decide_eq_false_iff_not] at h
      by_cases h2 : bt s i ≥ 48
      · rw [if_pos h2, if_neg (by omega)]; simp
      · rw [if_neg h2]; simp

theorem digits_ref (s : ByteArray) (hs : s.size ≤ 140737488351232) (i : Int) (k : Nat) (hk : s.size < k) : copperplateref04_Digits.f k s i = some (upto isDig s i) := by
  unfold copperplateref04_Digits.f upto
  by_cases h : i < 0
  · rw [if_pos h, if_neg (by omega)]
  · rw [if_neg h]
    by_cases h1 : i ≤ s.size
    · rw [if_pos ⟨by omega, h1⟩]
      exact digits_loop s hs (s.size - i.toNat) k i (by omega) h1 (by omega) (by omega)
    · rw [if_neg (by omega)]
      obtain ⟨k, rfl⟩ : ∃ m, k = m + 1 := ⟨k - 1, by omega⟩
      simp only [copperplateref04_Digits.l0]
      rw [if_neg (by omega)]

theorem name_loop (s : ByteArray) (hs : s.size ≤ 140737488351232) (d : Nat) : ∀ (k : Nat) (i : Int), 0 ≤ i → i ≤ s.size → (s.size : Int) - i = d → 2 * d + 1 < k →
    copperplateref04_Name.l0 k s i true = some (i + cnt isWord (at_ s i)) := by
  induction d with
  | zero =>
    intro k i h0 h1 hd hk
    obtain ⟨k, rfl⟩ : ∃ m, k = m + 2 := ⟨k - 2, by omega⟩
    simp only [copperplateref04_Name.l0, copperplateref04_Name.j2, if_true]
    rw [if_neg (by simp; omega), at_nil s i (by omega), cnt_nil]
    simp
  | succ d ih =>
    intro k i h0 h1 hd hk
    obtain ⟨k, rfl⟩ : ∃ m, k = m + 2 := ⟨k - 2, by omega⟩
    simp only [copperplateref04_Name.l0, copperplateref04_Name.j2, if_true]
    rw [if_pos (by simp; omega), if_pos h0, if_pos (by omega), at_cons s i h0 (by omega), begins_ref]
    simp only [Option.bind_some]
    have hnext := ih k (i + 1) (by omega) (by omega) (by omega) (by omega)
    by_cases hl : isLet (bt s i) = true
    · rw [if_pos hl, wrap_id (by omega) (by omega), hnext, cnt_yes _ (by simp [isWord, hl])]
      congr 1; omega
    · rw [if_neg hl]
      rw [Bool.not_eq_true] at hl
      by_cases hd2 : isDig (bt s i) = true
      · rw [cnt_yes _ (by simp [isWord, hd2])]
        simp only [isDig, decide_eq_true_eq] at hd2
        rw [if_neg (by omega), if_neg (by omega), wrap_id (by omega) (by omega), hnext]
        congr 1; omega
      · rw [Bool.not_eq_true] at hd2
        rw [cnt_no _ (by simp [isWord, hl, hd2])]
        simp only [isDig, decide_eq_false_iff_not] at hd2
        by_cases h2 : bt s i < 48
        · rw [if_pos h2]; simp
        · rw [if_neg h2, if_pos (by omega)]; simp

theorem name_ref (s : ByteArray) (hs : s.size ≤ 140737488351232) (i : Int) (k : Nat) (hk : 2 * s.size + 4 < k) : copperplateref04_Name.f k s i = some (nameEnd s i) := by
  obtain ⟨k, rfl⟩ : ∃ m, k = m + 1 := ⟨k - 1, by omega⟩
  unfold copperplateref04_Name.f nameEnd
  by_cases h : i < 0
  · rw [if_pos h, if_neg (by omega)]; simp [copperplateref04_Name.j0]
  · rw [if_neg h]
    simp only [copperplateref04_Name.j0]
    by_cases h1 : i < s.size
    · rw [if_neg (by simp; omega), if_pos (by omega), if_pos h1, if_pos ⟨by omega, by omega⟩, begins_ref]
      simp only [Option.bind_some]
      cases hl : isLet (bt s i) with
      | true =>
        have := name_loop s hs (s.size - i.toNat) k i (by omega) (by omega) (by omega) (by omega)
        rw [this, at_cons s i (by omega) (by omega), cnt_yes _ (by simp [isWord, hl])]
        simp [name, hl]
      | false =>
        obtain ⟨k, rfl⟩ : ∃ m, k = m + 2 := ⟨k - 2, by omega⟩
        simp only [copperplateref04_Name.l0, copperplateref04_Name.j2, Bool.false_eq_true, if_false]
        rw [at_cons s i (by omega) (by omega)]
        simp [name, hl]
    · rw [if_pos (by simp; omega)]
      by_cases h2 : i ≤ s.size
      · rw [if_pos ⟨by omega, h2⟩, at_nil s i (by omega)]; simp [name]
      · rw [if_neg (by omega)]

/-- How much of what counts for nothing stands at once. -/
def noth : List Int → Nat
  | [] => 0
  | c :: l => if isBl c = true then 1 else if bom (c :: l) = true then 3 else if c = 35 then cnt noEnd (c :: l) else 0
theorem noth_cons (c : Int) (l : List Int) : noth (c :: l) = if isBl c = true then 1 else if bom (c :: l) = true then 3 else if c = 35 then cnt noEnd (c :: l) else 0 := rfl
theorem noth_bl (l : List Int) : bl false l = noth l + (if noth l = 0 then 0 else bl false (l.drop (noth l))) := by
  cases l with
  | nil => rfl
  | cons c l =>
    rw [noth_cons]
    by_cases h1 : isBl c = true
    · rw [if_pos h1, if_neg (by omega), bl_blank _ h1, List.drop_succ_cons, List.drop_zero]; omega
    · rw [if_neg h1]
      rw [Bool.not_eq_true] at h1
      by_cases h2 : bom (c :: l) = true
      · rw [if_pos h2, if_neg (by omega), (bl_bom _ h2).1]
      · rw [if_neg h2]
        rw [Bool.not_eq_true] at h2
        by_cases h3 : c = 35
        · subst h3
          rw [if_pos rfl, if_neg (by rw [cnt_yes _ (by decide)]; omega)]
          exact bl_hash l
        · rw [if_neg h3, if_pos rfl, bl_none _ h1 h2 h3]

theorem comment_loop (s : ByteArray) (hs : s.size ≤ 140737488351232) (i : Int) (h0 : 0 ≤ i) (h1 : i < s.size) (d : Nat) : ∀ (k : Nat) (n : Nat), n + i ≤ s.size → (s.size : Int) - i - n = d → d < k →
    copperplateref04_nothing.l0 k s i 35 n = some ((n : Int) + cnt noEnd (at_ s (i + n))) := by
  induction d with
  | zero =>
    intro k n h2 hd hk
    obtain ⟨k, rfl⟩ : ∃ m, k = m + 1 := ⟨k - 1, by omega⟩
    simp only [copperplateref04_nothing.l0, if_true]
    rw [wrap_id (by omega) (by omega), if_neg (by omega), at_nil s (i + n) (by omega), cnt_nil]
    simp
  | succ d ih =>
    intro k n h2 hd hk
    obtain ⟨k, rfl⟩ : ∃ m, k = m + 1 := ⟨k - 1, by omega⟩
    simp only [copperplateref04_nothing.l0, if_true]
    rw [wrap_id (by omega) (by omega), if_pos (by omega), if_pos (by omega), at_cons s (i + n) (by omega) (by omega)]
    by_cases ha : bt s (i + n) = 10
    · rw [if_pos ha, cnt_no _ (by simp [noEnd, ha])]; simp
    · rw [if_neg ha]
      by_cases hb : bt s (i + n) = 13
      · rw [if_pos hb, cnt_no _ (by simp [noEnd, hb])]; simp
      · rw [if_neg hb, wrap_id (by omega) (by omega), cnt_yes _ (by simp [noEnd, ha, hb])]
        have := ih k (n + 1) (by omega) (by omega) (by omega)
        rw [show ((n + 1 : Nat) : Int) = (n : Int) + 1 by omega, show (i + ((n : Int) + 1)) = i + n + 1 by omega] at this
        rw [this]
        congr 1; omega

theorem bom_at (s : ByteArray) (i : Int) (h0 : 0 ≤ i) (h1 : i < s.size) : bom (at_ s i) = decide (i + 3 ≤ s.size ∧ bt s i = 239 ∧ bt s (i + 1) = 187 ∧ bt s (i + 2) = 191) := by
  rw [Bool.eq_iff_iff, decide_eq_true_iff, at_cons s i h0 h1]
  by_cases h2 : i + 1 < s.size
  · rw [at_cons s (i + 1) (by omega) h2]
    by_cases h3 : i + 1 + 1 < s.size
    · rw [at_cons s (i + 1 + 1) (by omega) h3, show i + 1 + 1 = i + 2 by omega]
      constructor
      · intro h
        unfold bom at h
        split at h
        · rename_i e
          simp only [List.cons.injEq] at e
          exact ⟨by omega, e.1, e.2.1, e.2.2.1⟩
        · cases h
      · rintro ⟨_, e1, e2, e3⟩
        rw [e1, e2, e3]; rfl
    · rw [at_nil s (i + 1 + 1) (by omega)]
      constructor
      · intro h; simp [bom] at h
      · rintro ⟨h, _⟩; omega
  · rw [at_nil s (i + 1) (by omega)]
    constructor
    · intro h; simp [bom] at h
    · rintro ⟨h, _⟩; omega

theorem noth_ref (s : ByteArray) (hs : s.size ≤ 140737488351232) (i : Int) (h0 : 0 ≤ i) (h1 : i < s.size) (k : Nat) (hk : s.size + 3 < k) : copperplateref04_nothing.f k s i = some (noth (at_ s i) : Int) := by
  obtain ⟨k, rfl⟩ : ∃ m, k = m + 2 := ⟨k - 2, by omega⟩
  have hb := bom_at s i h0 h1
  unfold copperplateref04_nothing.f
  rw [if_pos h0, if_pos h1]
  have hn : noth (at_ s i) = if isBl (bt s i) = true then 1 else if bom (at_ s i) = true then 3 else if bt s i = 35 then cnt noEnd (at_ s i) else 0 := by
    rw [at_cons s i h0 h1]; rfl
  rw [hn, hb]
  by_cases hbl : isBl (bt s i) = true
  · rw [if_pos hbl]
    simp only [isBl, decide_eq_true_eq] at hbl
    rcases hbl with h | h | h | h | h <;> simp [h, copperplateref04_nothing.j0]
  · rw [if_neg hbl]
    rw [Bool.not_eq_true] at hbl
    simp only [isBl, decide_eq_false_iff_not] at hbl
    rw [if_neg (by omega), if_neg (by omega), if_neg (by omega), if_neg (by omega)]
    simp only [copperplateref04_nothing.j0]
    rw [if_neg (by simp; omega), wrap_id (x := (s.size : Int) - i) (by omega) (by omega), wrap_id (x := i + 1) (by omega) (by omega), wrap_id (x := i + 2) (by omega) (by omega)]
    have tail : copperplateref04_nothing.j1 (k + 1) s i (bt s i) false = some (((if bt s i = 35 then cnt noEnd (at_ s i) else 0 : Nat) : Nat) : Int) := by
      simp only [copperplateref04_nothing.j1, Bool.false_eq_true, if_false]
      by_cases h35 : bt s i = 35
      · rw [h35, if_pos rfl]
        have := comment_loop s hs i h0 h1 (s.size - i.toNat) k 0 (by omega) (by omega) (by omega)
        simpa using this
      · obtain ⟨k, rfl⟩ : ∃ m, k = m + 1 := ⟨k - 1, by omega⟩
        simp only [copperplateref04_nothing.l0]
        rw [if_neg h35, if_neg h35]; rfl
    by_cases hz : (s.size : Int) - i ≥ 3
    · rw [if_pos hz]
      by_cases h239 : bt s i = 239
      · rw [if_pos h239, if_pos (by omega), if_pos (by omega)]
        by_cases h187 : bt s (i + 1) = 187
        · rw [if_pos h187, if_pos (by omega), if_pos (by omega)]
          by_cases h191 : bt s (i + 2) = 191
          · rw [if_pos (by simp; exact ⟨by omega, h239, h187, h191⟩), h191]
            simp [copperplateref04_nothing.j1]
          · rw [if_neg (by simp [h191]), show (bt s (i + 2) == 191) = false from beq_eq_false_iff_ne.2 h191]
            exact tail
        · rw [if_neg h187, if_neg (by simp [h187])]
          exact tail
      · rw [if_neg h239, if_neg (by simp [h239])]
        exact tail
    · rw [if_neg hz, if_neg (by simp; omega)]
      exact tail

theorem noth_le (l : List Int) : noth l ≤ l.length := by
  have h := noth_bl l
  have := bl_le false l
  omega

theorem blank_loop (s : ByteArray) (hs : s.size ≤ 140737488351232) (d : Nat) : ∀ (k : Nat) (i : Int), 0 ≤ i → i ≤ s.size → (s.size : Int) - i ≤ d → s.size + d + 4 < k →
    copperplateref04_Blank.l0 k s i = some (i + bl false (at_ s i)) := by
  induction d with
  | zero =>
    intro k i h0 h1 hd hk
    obtain ⟨k, rfl⟩ : ∃ m, k = m + 1 := ⟨k - 1, by omega⟩
    simp only [copperplateref04_Blank.l0]
    rw [if_neg (by omega), at_nil s i (by omega), bl_nil]
    simp
  | succ d ih =>
    intro k i h0 h1 hd hk
    obtain ⟨k, rfl⟩ : ∃ m, k = m + 1 := ⟨k - 1, by omega⟩
    simp only [copperplateref04_Blank.l0]
    by_cases h : i < s.size
    · rw [if_pos h, noth_ref s hs i h0 h k (by omega)]
      simp only [Option.bind_some]
      have hn := noth_bl (at_ s i)
      have hl := noth_le (at_ s i)
      have hlen := at_length s i h0 h1
      by_cases hz : noth (at_ s i) = 0
      · rw [if_pos (by omega)]
        rw [hz] at hn; simp at hn
        rw [hn]; simp
      · rw [if_neg (by omega), wrap_id (by omega) (by omega), ih k _ (by omega) (by omega) (by omega) (by omega)]
        rw [if_neg hz] at hn
        rw [hn, at_add s i _ h0]
        congr 1; omega
    · rw [if_neg h, at_nil s i (by omega), bl_nil]; simp

theorem blank_ref (s : ByteArray) (hs : s.size ≤ 140737488351232) (i : Int) (k : Nat) (hk : 2 * s.size + 4 < k) : copperplateref04_Blank.f k s i = some (G.blank s i) := by
  unfold copperplateref04_Blank.f G.blank
  by_cases h : i < 0
  · rw [if_pos h, if_neg (by omega)]
  · rw [if_neg h]
    by_cases h1 : i ≤ s.size
    · rw [if_pos ⟨by omega, h1⟩]
      exact blank_loop s hs s.size k i (by omega) h1 (by omega) (by omega)
    · rw [if_neg (by omega)]
      obtain ⟨k, rfl⟩ : ∃ m, k = m + 1 := ⟨k - 1, by omega⟩
      simp only [copperplateref04_Blank.l0]
      rw [if_neg (by omega)]

theorem awake_true : copperplatelaw04_awake.f = some true := by kernel_rfl
theorem letter_f (c : Int) (h0 : 0 ≤ c) (h1 : c ≤ 255) : scan_letter.f c = some (isLet c) := by
  have ho := or32 c h0 h1
  unfold scan_letter.f isLet
  have e : (c == 95) = decide (c = 95) := rfl
  rw [e]
  by_cases h2 : (Go.bits .or .u8 c 32) ≥ 97 <;> by_cases h3 : (Go.bits .or .u8 c 32) ≤ 122 <;> simp only [h2, h3, if_true, if_false] <;> apply congrArg some <;> rw [Bool.eq_iff_iff] <;> simp only [decide_eq_true_eq, true_iff]
  · have := ho.1 ⟨h2, h3⟩; omega
  · have := fun x => h3 (ho.2 x).2; omega
  · have := fun x => h2 (ho.2 x).1; omega
  · have := fun x => h2 (ho.2 x).1; omega
theorem begins_f (c : Int) (h0 : 0 ≤ c) (h1 : c ≤ 255) : scan_Begins.f c = some (isLet c) := by
  unfold scan_Begins.f; rw [letter_f c h0 h1]; rfl
end Go.Proofs.Ytdhncfkbblfokaa.R
