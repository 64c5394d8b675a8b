/-
  The document's layer 4, over what its text computes.
-/
import Derived.Test.YtjgpmfjkcioinaaGreatDoorPLQ12
import Derived.Test.YtjgpmfjkcioinaaGreatDoorPLQ2
import Derived.Test.YtjgpmfjkcioinaaGreatDoorPLQ3
import Derived.Test.YtjgpmfjkcioinaaGreatDoorPLGG8
import Derived.Test.YtjgpmfjkcioinaaGreatDoorPLG7
namespace Go.Proofs.YtjgpmfjkcioinaaGreatDoor.R
open Go.RowKit Go.Proofs.YtjgpmfjkcioinaaGreatDoorW.PrintWords Go.Proofs.YtjgpmfjkcioinaaGreatDoorW.PrintLast Go.Proofs.YtjgpmfjkcioinaaGreatDoor.M Go.Proofs.YtjgpmfjkcioinaaGreatDoor.G Go.Proofs.YtjgpmfjkcioinaaGreatDoor.Q
set_option linter.unusedVariables false
set_option linter.unusedSimpArgs false
theorem wrap_id {x : Int} (h0 : -1000000000000000 ≤ x) (h : x ≤ 1000000000000000) : wrap64 x = x := by unfold wrap64; omega
theorem begins_ref (c : Int) : copperplateref04_Begins.f c = some (isLet c) := by
  unfold copperplateref04_Begins.f isLet
  have e : (c == 95) = decide (c = 95) := rfl
  rw [e]
  split <;> (try split) <;> (try split) <;> (try split) <;> apply congrArg some <;> rw [Bool.eq_iff_iff] <;> simp only [decide_eq_true_eq, true_iff] <;> omega
theorem digits_loop (s : ByteArray) (hs : s.size ≤ 140737488351232) (d : Nat) : ∀ (k : Nat) (i : Int), 0 ≤ i → i ≤ s.size → (s.size : Int) - i = d → d < k →
    copperplateref04_Digits.l0 k s i = some (i + cnt isDig (at_ s i)) := by
  induction d with
  | zero =>
    intro k i h0 h1 hd hk
    obtain ⟨k, rfl⟩ : ∃ m, k = m + 1 := ⟨k - 1, by omega⟩
    simp only [copperplateref04_Digits.l0]
    rw [if_neg (by omega), at_nil s i (by omega), cnt_nil]
    simp
  | succ d ih =>
    intro k i h0 h1 hd hk
    obtain ⟨k, rfl⟩ : ∃ m, k = m + 1 := ⟨k - 1, by omega⟩
    simp only [copperplateref04_Digits.l0]
    rw [if_pos (by omega), if_pos h0, at_cons s i h0 (by omega)]
    by_cases h : isDig (bt s i) = true
    · have h' := h
      simp only [isDig, decide_eq_true_eq] at h'
      rw [if_pos h'.1, if_pos h'.2, wrap_id (by omega) (by omega), ih k (i + 1) (by omega) (by omega) (by omega) (by omega), cnt_yes _ h]
      congr 1; omega
    · rw [Bool.not_eq_true] at h
      rw [cnt_no _ h]
      simp only [isDig, decide_eq_false_iff_not] at h
      by_cases h2 : bt s i ≥ 48
      · rw [if_pos h2, if_neg (by omega)]; simp
      · rw [if_neg h2]; simp
theorem digits_ref (s : ByteArray) (hs : s.size ≤ 140737488351232) (i : Int) (k : Nat) (hk : s.size < k) : copperplateref04_Digits.f k s i = some (upto isDig s i) := by
  unfold copperplateref04_Digits.f upto
  by_cases h : i < 0
  · rw [if_pos h, if_neg (by omega)]
  · rw [if_neg h]
    by_cases h1 : i ≤ s.size
    · rw [if_pos ⟨by omega, h1⟩]
      exact digits_loop s hs (s.size - i.toNat) k i (by omega) h1 (by omega) (by omega)
    · rw [if_neg (by omega)]
      obtain ⟨k, rfl⟩ : ∃ m, k = m + 1 := ⟨k - 1, by omega⟩
      simp only [copperplateref04_Digits.l0]
      rw [if_neg (by omega)]
theorem name_loop (s : ByteArray) (hs : s.size ≤ 140737488351232) (d : Nat) : ∀ (k : Nat) (i : Int), 0 ≤ i → i ≤ s.size → (s.size : Int) - i = d → 2 * d + 1 < k →
    copperplateref04_Name.l0 k s i true = some (i + cnt isWord (at_ s i)) := by
  induction d with
  | zero =>
    intro k i h0 h1 hd hk
    obtain ⟨k, rfl⟩ : ∃ m, k = m + 2 := ⟨k - 2, by omega⟩
    simp only [copperplateref04_Name.l0, copperplateref04_Name.j2, if_true]
    rw [if_neg (by simp; omega), at_nil s i (by omega), cnt_nil]
    simp
  | succ d ih =>
    intro k i h0 h1 hd hk
    obtain ⟨k, rfl⟩ : ∃ m, k = m + 2 := ⟨k - 2, by omega⟩
    simp only [copperplateref04_Name.l0, copperplateref04_Name.j2, if_true]
    rw [if_pos (by simp; omega), if_pos h0, if_pos (by omega), at_cons s i h0 (by omega), begins_ref]
    simp only [Option.bind_some]
    have hnext := ih k (i + 1) (by omega) (by omega) (by omega) (by omega)
    by_cases hl : isLet (bt s i) = true
    · rw [if_pos hl, wrap_id (by omega) (by omega), hnext, cnt_yes _ (by simp [isWord, hl])]
      congr 1; omega
    · rw [if_neg hl]
      rw [Bool.not_eq_true] at hl
      by_cases hd2 : isDig (bt s i) = true
      · rw [cnt_yes _ (by simp [isWord, hd2])]
        simp only [isDig, decide_eq_true_eq] at hd2
        rw [if_neg (by omega), if_neg (by omega), wrap_id (by omega) (by omega), hnext]
        congr 1; omega
      · rw [Bool.not_eq_true] at hd2
        rw [cnt_no _ (by simp [isWord, hl, hd2])]
        simp only [isDig, decide_eq_false_iff_not] at hd2
        by_cases h2 : bt s i < 48
        · rw [if_pos h2]; simp
        · rw [if_neg h2, if_pos (by omega)]; simp
theorem name_ref (s : ByteArray) (hs : s.size ≤ 140737488351232) (i : Int) (k : Nat) (hk : 2 * s.size + 4 < k) : copperplateref04_Name.f k s i = some (nameEnd s i) := by
  obtain ⟨k, rfl⟩ : ∃ m, k = m + 1 := ⟨k - 1, by omega⟩
  unfold copperplateref04_Name.f nameEnd
  by_cases h : i < 0
  · rw [if_pos h, if_neg (by omega)]; simp [copperplateref04_Name.j0]
  · rw [if_neg h]
    simp only [copperplateref04_Name.j0]
    by_cases h1 : i < s.size
    · rw [if_neg (by simp; omega), if_pos (by omega), if_pos h1, if_pos ⟨by omega, by omega⟩, begins_ref]
      simp only [Option.bind_some]
      cases hl : isLet (bt s i) with
      | true =>
        have := name_loop s hs (s.size - i.toNat) k i (by omega) (by omega) (by omega) (by omega)
        rw [this, at_cons s i (by omega) (by omega), cnt_yes _ (by simp [isWord, hl])]
        simp [name, hl]
      | false =>
        obtain ⟨k, rfl⟩ : ∃ m, k = m + 2 := ⟨k - 2, by omega⟩
        simp only [copperplateref04_Name.l0, copperplateref04_Name.j2, Bool.false_eq_true, if_false]
        rw [at_cons s i (by omega) (by omega)]
        simp [name, hl]
    · rw [if_pos (by simp; omega)]
      by_cases h2 : i ≤ s.size
      · rw [if_pos ⟨by omega, h2⟩, at_nil s i (by omega)]; simp [name]
      · rw [if_neg (by omega)]
def noth : List Int → Nat
  | [] => 0
  | c :: l => if isBl c = true then 1 else if bom (c :: l) = true then 3 else if c = 35 then cnt noEnd (c :: l) else 0
theorem noth_cons (c : Int) (l : List Int) : noth (c :: l) = if isBl c = true then 1 else if bom (c :: l) = true then 3 else if c = 35 then cnt noEnd (c :: l) else 0 := rfl
theorem noth_bl (l : List Int) : bl false l = noth l + (if noth l = 0 then 0 else bl false (l.drop (noth l))) := by
  cases l with
  | nil => rfl
  | cons c l =>
    rw [noth_cons]
    by_cases h1 : isBl c = true
    · rw [if_pos h1, if_neg (by omega), bl_blank _ h1, List.drop_succ_cons, List.drop_zero]; omega
    · rw [if_neg h1]
      rw [Bool.not_eq_true] at h1
      by_cases h2 : bom (c :: l) = true
      · rw [if_pos h2, if_neg (by omega), (bl_bom _ h2).1]
      · rw [if_neg h2]
        rw [Bool.not_eq_true] at h2
        by_cases h3 : c = 35
        · subst h3
          rw [if_pos rfl, if_neg (by rw [cnt_yes _ (by decide)]; omega)]
          exact bl_hash l
        · rw [if_neg h3, if_pos rfl, bl_none _ h1 h2 h3]
theorem comment_loop (s : ByteArray) (hs : s.size ≤ 140737488351232) (i : Int) (h0 : 0 ≤ i) (h1 : i < s.size) (d : Nat) : ∀ (k : Nat) (n : Nat), n + i ≤ s.size → (s.size : Int) - i - n = d → d < k →
    copperplateref04_nothing.l0 k s i 35 n = some ((n : Int) + cnt noEnd (at_ s (i + n))) := by
  induction d with
  | zero =>
    intro k n h2 hd hk
    obtain ⟨k, rfl⟩ : ∃ m, k = m + 1 := ⟨k - 1, by omega⟩
    simp only [copperplateref04_nothing.l0, if_true]
    rw [wrap_id (by omega) (by omega), if_neg (by omega), at_nil s (i + n) (by omega), cnt_nil]
    simp
  | succ d ih =>
    intro k n h2 hd hk
    obtain ⟨k, rfl⟩ : ∃ m, k = m + 1 := ⟨k - 1, by omega⟩
    simp only [copperplateref04_nothing.l0, if_true]
    rw [wrap_id (by omega) (by omega), if_pos (by omega), if_pos (by omega), at_cons s (i + n) (by omega) (by omega)]
    by_cases ha : bt s (i + n) = 10
    · rw [if_pos ha, cnt_no _ (by simp [noEnd, ha])]; simp
    · rw [if_neg ha]
      by_cases hb : bt s (i + n) = 13
      · rw [if_pos hb, cnt_no _ (by simp [noEnd, hb])]; simp
      · rw [if_neg hb, wrap_id (by omega) (by omega), cnt_yes _ (by simp [noEnd, ha, hb])]
        have := ih k (n + 1) (by omega) (by omega) (by omega)
        rw [show ((n + 1 : Nat) : Int) = (n : Int) + 1 by omega, show (i + ((n : Int) + 1)) = i + n + 1 by omega] at this
        rw [this]
        congr 1; omega
theorem bom_at (s : ByteArray) (i : Int) (h0 : 0 ≤ i) (h1 : i < s.size) : bom (at_ s i) = decide (i + 3 ≤ s.size ∧ bt s i = 239 ∧ bt s (i + 1) = 187 ∧ bt s (i + 2) = 191) := by
  rw [Bool.eq_iff_iff, decide_eq_true_iff, at_cons s i h0 h1]
  by_cases h2 : i + 1 < s.size
  · rw [at_cons s (i + 1) (by omega) h2]
    by_cases h3 : i + 1 + 1 < s.size
    · rw [at_cons s (i + 1 + 1) (by omega) h3, show i + 1 + 1 = i + 2 by omega]
      constructor
      · intro h
        unfold bom at h
        split at h
        · rename_i e
          simp only [List.cons.injEq] at e
          exact ⟨by omega, e.1, e.2.1, e.2.2.1⟩
        · cases h
      · rintro ⟨_, e1, e2, e3⟩
        rw [e1, e2, e3]; rfl
    · rw [at_nil s (i + 1 + 1) (by omega)]
      constructor
      · intro h; simp [bom] at h
      · rintro ⟨h, _⟩; omega
  · rw [at_nil s (i + 1) (by omega)]
    constructor
    · intro h; simp [bom] at h
    · rintro ⟨h, _⟩; omega
theorem noth_ref (s : ByteArray) (hs : s.size ≤ 140737488351232) (i : Int) (h0 : 0 ≤ i) (h1 : i < s.size) (k : Nat) (hk : s.size + 3 < k) : copperplateref04_nothing.f k s i = some (noth (at_ s i) : Int) := by
  obtain ⟨k, rfl⟩ : ∃ m, k = m + 2 := ⟨k - 2, by omega⟩
  have hb := bom_at s i h0 h1
  unfold copperplateref04_nothing.f
  rw [if_pos h0, if_pos h1]
  have hn : noth (at_ s i) = if isBl (bt s i) = true then 1 else if bom (at_ s i) = true then 3 else if bt s i = 35 then cnt noEnd (at_ s i) else 0 := by
    rw [at_cons s i h0 h1]; rfl
  rw [hn, hb]
  by_cases hbl : isBl (bt s i) = true
  · rw [if_pos hbl]
    simp only [isBl, decide_eq_true_eq] at hbl
    rcases hbl with h | h | h | h | h <;> simp [h, copperplateref04_nothing.j0]
  · rw [if_neg hbl]
    rw [Bool.not_eq_true] at hbl
    simp only [isBl, decide_eq_false_iff_not] at hbl
    rw [if_neg (by omega), if_neg (by omega), if_neg (by omega), if_neg (by omega)]
    simp only [copperplateref04_nothing.j0]
    rw [if_neg (by simp; omega), wrap_id (x := (s.size : Int) - i) (by omega) (by omega), wrap_id (x := i + 1) (by omega) (by omega), wrap_id (x := i + 2) (by omega) (by omega)]
    have tail : copperplateref04_nothing.j1 (k + 1) s i (bt s i) false = some (((if bt s i = 35 then cnt noEnd (at_ s i) else 0 : Nat) : Nat) : Int) := by
      simp only [copperplateref04_nothing.j1, Bool.false_eq_true, if_false]
      by_cases h35 : bt s i = 35
      · rw [h35, if_pos rfl]
        have := comment_loop s hs i h0 h1 (s.size - i.toNat) k 0 (by omega) (by omega) (by omega)
        simpa using this
      · obtain ⟨k, rfl⟩ : ∃ m, k = m + 1 := ⟨k - 1, by omega⟩
        simp only [copperplateref04_nothing.l0]
        rw [if_neg h35, if_neg h35]; rfl
    by_cases hz : (s.size : Int) - i ≥ 3
    · rw [if_pos hz]
      by_cases h239 : bt s i = 239
      · rw [if_pos h239, if_pos (by omega), if_pos (by omega)]
        by_cases h187 : bt s (i + 1) = 187
        · rw [if_pos h187, if_pos (by omega), if_pos (by omega)]
          by_cases h191 : bt s (i + 2) = 191
          · rw [if_pos (by simp; exact ⟨by omega, h239, h187, h191⟩), h191]
            simp [copperplateref04_nothing.j1]
          · rw [if_neg (by simp [h191]), show (bt s (i + 2) == 191) = false from beq_eq_false_iff_ne.2 h191]
            exact tail
        · rw [if_neg h187, if_neg (by simp [h187])]
          exact tail
      · rw [if_neg h239, if_neg (by simp [h239])]
        exact tail
    · rw [if_neg hz, if_neg (by simp; omega)]
      exact tail
theorem noth_le (l : List Int) : noth l ≤ l.length := by
  have h := noth_bl l
  have := bl_le false l
  omega
theorem blank_loop (s : ByteArray) (hs : s.size ≤ 140737488351232) (d : Nat) : ∀ (k : Nat) (i : Int), 0 ≤ i → i ≤ s.size → (s.size : Int) - i ≤ d → s.size + d + 4 < k →
    copperplateref04_Blank.l0 k s i = some (i + bl false (at_ s i)) := by
  induction d with
  | zero =>
    intro k i h0 h1 hd hk
    obtain ⟨k, rfl⟩ : ∃ m, k = m + 1 := ⟨k - 1, by omega⟩
    simp only [copperplateref04_Blank.l0]
    rw [if_neg (by omega), at_nil s i (by omega), bl_nil]
    simp
  | succ d ih =>
    intro k i h0 h1 hd hk
    obtain ⟨k, rfl⟩ : ∃ m, k = m + 1 := ⟨k - 1, by omega⟩
    simp only [copperplateref04_Blank.l0]
    by_cases h : i < s.size
    · rw [if_pos h, noth_ref s hs i h0 h k (by omega)]
      simp only [Option.bind_some]
      have hn := noth_bl (at_ s i)
      have hl := noth_le (at_ s i)
      have hlen := at_length s i h0 h1
      by_cases hz : noth (at_ s i) = 0
      · rw [if_pos (by omega)]
        rw [hz] at hn; simp at hn
        rw [hn]; simp
      · rw [if_neg (by omega), wrap_id (by omega) (by omega), ih k _ (by omega) (by omega) (by omega) (by omega)]
        rw [if_neg hz] at hn
        rw [hn, at_add s i _ h0]
        congr 1; omega
    · rw [if_neg h, at_nil s i (by omega), bl_nil]; simp
theorem blank_ref (s : ByteArray) (hs : s.size ≤ 140737488351232) (i : Int) (k : Nat) (hk : 2 * s.size + 4 < k) : copperplateref04_Blank.f k s i = some (G.blank s i) := by
  unfold copperplateref04_Blank.f G.blank
  by_cases h : i < 0
  · rw [if_pos h, if_neg (by omega)]
  · rw [if_neg h]
    by_cases h1 : i ≤ s.size
    · rw [if_pos ⟨by omega, h1⟩]
      exact blank_loop s hs s.size k i (by omega) h1 (by omega) (by omega)
    · rw [if_neg (by omega)]
      obtain ⟨k, rfl⟩ : ∃ m, k = m + 1 := ⟨k - 1, by omega⟩
      simp only [copperplateref04_Blank.l0]
      rw [if_neg (by omega)]
end Go.Proofs.YtjgpmfjkcioinaaGreatDoor.R
namespace Go.Proofs.YtjgpmfjkcioinaaGreatDoor.R
open Go.RowKit Go.Proofs.YtjgpmfjkcioinaaGreatDoorW.PrintWords Go.Proofs.YtjgpmfjkcioinaaGreatDoorW.PrintLast Go.Proofs.YtjgpmfjkcioinaaGreatDoor.M Go.Proofs.YtjgpmfjkcioinaaGreatDoor.G Go.Proofs.YtjgpmfjkcioinaaGreatDoor.Q
set_option linter.unusedVariables false
set_option linter.unusedSimpArgs false
theorem at_loop (s C : ByteArray) (i : Int) (h0 : 0 ≤ i) (hC : C.size ≤ 100) (d : Nat) : ∀ (k : Nat) (x : Int), 0 ≤ x → x + d = C.size → 2 * d + 1 < k →
    copperplateref05_at.l0 k s i C x = some (decide (i < s.size) && (at_ C x).any fun c => bt s i == c) := by
  induction d with
  | zero =>
    intro k x hx hd hk
    obtain ⟨k, rfl⟩ : ∃ m, k = m + 2 := ⟨k - 2, by omega⟩
    simp only [copperplateref05_at.l0, copperplateref05_at.j1]
    rw [if_neg (by omega), if_neg (by decide), at_nil C x (by omega)]
    simp
  | succ d ih =>
    intro k x hx hd hk
    obtain ⟨k, rfl⟩ : ∃ m, k = m + 2 := ⟨k - 2, by omega⟩
    simp only [copperplateref05_at.l0, copperplateref05_at.j1]
    rw [if_pos (by omega), at_cons C x hx (by omega)]
    by_cases hi : i < s.size
    · rw [if_pos (by simp [hi]), if_pos h0, if_pos hi, if_pos hx, if_pos (by omega), decide_eq_true hi]
      by_cases he : bt s i = bt C x
      · rw [if_pos he, List.any_cons, show (bt s i == bt C x) = true by rw [he]; exact beq_self_eq_true _]; rfl
      · rw [if_neg he, wrap_id (by omega) (by omega), ih k (x + 1) (by omega) (by omega) (by omega), List.any_cons, show (bt s i == bt C x) = false from beq_eq_false_iff_ne.2 he, decide_eq_true hi]; rfl
    · rw [if_neg (by simp [hi]), decide_eq_false hi]; rfl
theorem at_ref (s C : ByteArray) (i : Int) (h0 : 0 ≤ i) (hC : C.size ≤ 100) (k : Nat) (hk : 2 * C.size + 1 < k) : copperplateref05_at.f k s i C = some (isAt s i (by_ C)) := by
  unfold copperplateref05_at.f
  rw [at_loop s C i h0 hC C.size k 0 (by omega) (by omega) hk, at_zero]; rfl
theorem upto_dig (s : ByteArray) (p : Int) (h0 : 0 ≤ p) (h1 : p ≤ s.size) : G.upto isDig s p = p + dig (at_ s p) := by unfold G.upto; rw [if_pos ⟨h0, h1⟩]; rfl
theorem fin_ref (s : ByteArray) (hs : s.size ≤ 1000000) (p kk : Int) (h0 : 0 ≤ p) (h1 : p ≤ s.size) (k : Nat) (hk : 200 < k) : copperplateref05_Number.j3 (k + 1) s p kk = some (numFin s kk p) := by
  simp only [copperplateref05_Number.j3]
  rw [at_ref s _ p h0 (by decide) k (by have : (⟨#[48, 49, 50, 51, 52, 53, 54, 55, 56, 57, 46]⟩ : ByteArray).size = 11 := rfl; omega)]
  simp only [Option.bind_some]
  unfold numFin
  have hb : isAt s p (by_ ⟨#[48, 49, 50, 51, 52, 53, 54, 55, 56, 57, 46]⟩) = decide (p < s.size ∧ (bt s p = 46 ∨ isDig (bt s p) = true)) := by
    have e : by_ ⟨#[48, 49, 50, 51, 52, 53, 54, 55, 56, 57, 46]⟩ = [48, 49, 50, 51, 52, 53, 54, 55, 56, 57, 46] := rfl
    rw [e, Bool.eq_iff_iff, decide_eq_true_iff]
    unfold isAt isDig
    simp only [Bool.and_eq_true, decide_eq_true_eq, List.any_cons, List.any_nil, Bool.or_eq_true, beq_iff_eq, Bool.or_false]
    omega
  rw [hb]
  by_cases hp : p < s.size
  · by_cases h2 : bt s p = 46 ∨ isDig (bt s p) = true
    · rw [if_pos (decide_eq_true ⟨hp, h2⟩), if_pos ⟨hp, by rcases h2 with h | h <;> simp [h]⟩]
    · rw [if_neg (by simp only [decide_eq_true_eq]; exact fun x => h2 x.2), if_pos hp, if_pos h0, begins_ref]
      simp only [Option.bind_some]
      by_cases hl : isLet (bt s p) = true
      · rw [if_pos hl, if_pos ⟨hp, .inr (.inl hl)⟩]
      · rw [if_neg hl, if_neg (by rintro ⟨_, h | h | h⟩; exact h2 (.inl h); exact hl h; exact h2 (.inr h))]
  · rw [if_neg (by simp only [decide_eq_true_eq]; exact fun x => hp x.1), if_neg hp, if_neg (fun x => hp x.1)]
theorem exp_ref (s : ByteArray) (hs : s.size ≤ 1000000) (p kk : Int) (h0 : 0 ≤ p) (h1 : p ≤ s.size) (k : Nat) (hk : s.size + 300 < k) : copperplateref05_Number.j2 (k + 1) s p kk = some (numExp s kk p) := by
  obtain ⟨k, rfl⟩ : ∃ m, k = m + 1 := ⟨k - 1, by omega⟩
  simp only [copperplateref05_Number.j2]
  rw [at_ref s _ p h0 (by decide) (k + 1) (by have : (⟨#[101, 69]⟩ : ByteArray).size = 2 := rfl; omega), show by_ ⟨#[101, 69]⟩ = [101, 69] from rfl]
  simp only [Option.bind_some]
  unfold numExp
  by_cases he : isAt s p [101, 69] = true
  · have hlt := isAt_lt he
    rw [if_pos he, if_pos he, wrap_id (x := p + 1) (by omega) (by omega), at_ref s _ (p + 1) (by omega) (by decide) (k + 1) (by have : (⟨#[43, 45]⟩ : ByteArray).size = 2 := rfl; omega), show by_ ⟨#[43, 45]⟩ = [43, 45] from rfl]
    simp only [Option.bind_some]
    by_cases hg : isAt s (p + 1) [43, 45] = true
    · have hlt2 := isAt_lt hg
      have hdl := dig_le s (p + 1 + 1) (by omega) (by omega)
      rw [if_pos hg, wrap_id (x := p + 1 + 1) (by omega) (by omega), digits_ref s (by omega) _ _ (by omega), upto_dig s _ (by omega) (by omega), hg, show mv (p + 1) true = p + 1 + 1 from rfl]
      simp only [Option.bind_some]
      by_cases hd0 : 0 < dig (at_ s (p + 1 + 1))
      · rw [if_neg (by omega), if_pos hd0, fin_ref s hs _ 4 (by omega) (by omega) k (by omega)]
      · rw [if_pos (by omega), if_neg hd0]
    · have hdl := dig_le s (p + 1) (by omega) (by omega)
      rw [if_neg hg, digits_ref s (by omega) _ _ (by omega), upto_dig s _ (by omega) (by omega)]
      rw [Bool.not_eq_true] at hg
      rw [hg, show mv (p + 1) false = p + 1 from rfl]
      simp only [Option.bind_some]
      by_cases hd0 : 0 < dig (at_ s (p + 1))
      · rw [if_neg (by omega), if_pos hd0, fin_ref s hs _ 4 (by omega) (by omega) k (by omega)]
      · rw [if_pos (by omega), if_neg hd0]
  · rw [if_neg he, if_neg he, fin_ref s hs p kk h0 h1 k (by omega)]
theorem int_ref (s : ByteArray) (hs : s.size ≤ 1000000) (p : Int) (h0 : 0 ≤ p) (h1 : p ≤ s.size) (k : Nat) (hk : s.size + 300 < k) : copperplateref05_Number.j1 (k + 1 + 1) s p 3 = some (numInt s p) := by
  simp only [copperplateref05_Number.j1, copperplateref05_whole.f]
  rw [at_ref s _ p h0 (by decide) _ (by have : (⟨#[48]⟩ : ByteArray).size = 1 := rfl; omega), show by_ ⟨#[48]⟩ = [48] from rfl]
  simp only [Option.bind_some]
  have dot : ∀ q : Int, p < q → q ≤ s.size → ((copperplateref05_at.f (k + 1) s q (⟨#[46]⟩ : ByteArray)).bind fun t157 => (if t157 = true then ((copperplateref04_Digits.f (k + 1) s (wrap64 (q + 1))).bind fun t158 => (if t158 = (wrap64 (q + 1)) then (some (0, t158, false)) else (copperplateref05_Number.j2 (k + 1) s t158 4))) else (copperplateref05_Number.j2 (k + 1) s q 3))) = some (numDot s q) := by
    intro q hq hq2
    rw [at_ref s _ q (by omega) (by decide) _ (by have : (⟨#[46]⟩ : ByteArray).size = 1 := rfl; omega), show by_ ⟨#[46]⟩ = [46] from rfl]
    simp only [Option.bind_some]
    unfold numDot
    by_cases hd : isAt s q [46] = true
    · have hlt := isAt_lt hd
      have hdl := dig_le s (q + 1) (by omega) (by omega)
      rw [if_pos hd, if_pos hd, wrap_id (by omega) (by omega), digits_ref s (by omega) _ _ (by omega), upto_dig s _ (by omega) (by omega)]
      simp only [Option.bind_some]
      by_cases hd0 : 0 < dig (at_ s (q + 1))
      · rw [if_neg (by omega), if_pos hd0, exp_ref s hs _ 4 (by omega) (by omega) k (by omega)]
      · rw [if_pos (by omega), if_neg hd0, show dig (at_ s (q + 1)) = 0 by omega]; simp
    · rw [if_neg hd, if_neg hd, exp_ref s hs q 3 (by omega) hq2 k (by omega)]
  unfold numInt
  by_cases hz : isAt s p [48] = true
  · have hlt := isAt_lt hz
    rw [if_pos hz, if_pos hz, wrap_id (by omega) (by omega)]
    simp only [Option.bind_some]
    rw [if_neg (by omega)]
    exact dot (p + 1) (by omega) (by omega)
  · have hdl := dig_le s p h0 h1
    rw [if_neg hz, if_neg hz, digits_ref s (by omega) _ _ (by omega), upto_dig s p h0 h1]
    simp only [Option.bind_some]
    by_cases hd0 : 0 < dig (at_ s p)
    · rw [if_neg (by omega), if_pos hd0]
      exact dot _ (by omega) (by omega)
    · rw [if_pos (by omega), if_neg hd0]
theorem number_ref (s : ByteArray) (hs : s.size ≤ 1000000) (i : Int) (k : Nat) (hk : s.size + 310 < k) : copperplateref05_Number.f k s i = some (number s i) := by
  obtain ⟨k, rfl⟩ : ∃ m, k = m + 3 := ⟨k - 3, by omega⟩
  unfold copperplateref05_Number.f number
  by_cases h : i < 0
  · rw [if_pos h, if_neg (by omega)]; simp only [copperplateref05_Number.j0, if_true]
  · rw [if_neg h]
    simp only [copperplateref05_Number.j0]
    by_cases h1 : i ≥ s.size
    · rw [if_pos (decide_eq_true h1), if_neg (by omega)]
    · have hm := mv_le (s := s) (p := i) [45] (by omega)
      rw [if_neg (by simp; omega), if_pos ⟨by omega, by omega⟩, at_ref s _ i (by omega) (by decide) _ (by have : (⟨#[45]⟩ : ByteArray).size = 1 := rfl; omega), show by_ ⟨#[45]⟩ = [45] from rfl]
      simp only [Option.bind_some]
      by_cases hmi : isAt s i [45] = true
      · have hlt := isAt_lt hmi
        rw [if_pos hmi, wrap_id (by omega) (by omega), hmi, show mv i true = i + 1 from rfl]
        exact int_ref s hs (i + 1) (by omega) (by omega) k (by omega)
      · rw [if_neg hmi]
        rw [Bool.not_eq_true] at hmi
        rw [hmi, show mv i false = i from rfl]
        exact int_ref s hs i (by omega) (by omega) k (by omega)
end Go.Proofs.YtjgpmfjkcioinaaGreatDoor.R
