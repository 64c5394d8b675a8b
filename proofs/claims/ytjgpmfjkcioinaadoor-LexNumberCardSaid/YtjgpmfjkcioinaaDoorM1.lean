/-
  Plain mathematics for the scanner and the numbers: lists of bytes (as whole numbers) and where rows of them end. No program in sight.
-/
import Derived.Test.YtjgpmfjkcioinaaDoorWWords
namespace Go.Proofs.YtjgpmfjkcioinaaDoor.M
open Go.Proofs.YtjgpmfjkcioinaaDoorW.PrintWords
set_option linter.unusedVariables false
set_option linter.unusedSimpArgs false

/-- A text's bytes, as whole numbers. -/
def by_ (s : ByteArray) : List Int := s.data.toList.map fun b => (b.toNat : Int)
theorem by_length (s : ByteArray) : (by_ s).length = s.size := by simp [by_]
theorem by_append (a b : ByteArray) : by_ (a ++ b) = by_ a ++ by_ b := by simp [by_]
theorem by_extract (s : ByteArray) (i j : Nat) : by_ (s.extract i j) = ((by_ s).take j).drop i := by
  simp [by_, List.map_take, List.map_drop, List.extract_eq_take_drop, List.drop_take]
theorem by_mk (l : List UInt8) : by_ ⟨l.toArray⟩ = l.map fun b => (b.toNat : Int) := by simp [by_]
theorem by_range (s : ByteArray) : ∀ c ∈ by_ s, 0 ≤ c ∧ c ≤ 255 := by
  intro c hc
  simp only [by_, List.mem_map] at hc
  obtain ⟨b, _, rfl⟩ := hc
  have := b.toNat_lt
  omega
theorem map_inj {f : UInt8 → Int} (hf : ∀ x y, f x = f y → x = y) : ∀ (l m : List UInt8), l.map f = m.map f → l = m
  | [], [], _ => rfl
  | [], _ :: _, h => by simp at h
  | _ :: _, [], h => by simp at h
  | x :: l, y :: m, h => by
    simp only [List.map_cons, List.cons.injEq] at h
    rw [hf _ _ h.1, map_inj hf l m h.2]
theorem by_inj {a b : ByteArray} (h : by_ a = by_ b) : a = b := by
  have h1 : a.data.toList = b.data.toList := map_inj (fun x y e => UInt8.toNat_inj.1 (by omega)) _ _ h
  cases a; cases b
  simp only [ByteArray.mk.injEq]
  exact Array.toList_inj.1 h1
theorem bt_by (s : ByteArray) (i : Int) (h : i.toNat < s.size) : (by_ s)[i.toNat]? = some (bt s i) := by
  unfold bt by_
  rw [dif_pos h, List.getElem?_map, List.getElem?_eq_getElem (by simpa using h)]
  rfl
/-- What stands from a place on. -/
def at_ (s : ByteArray) (i : Int) : List Int := (by_ s).drop i.toNat
theorem at_nil (s : ByteArray) (i : Int) (h : (s.size : Int) ≤ i) : at_ s i = [] := by
  unfold at_; rw [List.drop_eq_nil_iff, by_length]; omega
theorem at_cons (s : ByteArray) (i : Int) (h0 : 0 ≤ i) (h : i < s.size) : at_ s i = bt s i :: at_ s (i + 1) := by
  have hb := bt_by s i (by omega)
  have hl := by_length s
  unfold at_
  rw [List.getElem?_eq_some_iff] at hb
  obtain ⟨h1, h2⟩ := hb
  rw [List.drop_eq_getElem_cons h1, h2]
  congr 2
  omega
theorem at_length (s : ByteArray) (i : Int) (h0 : 0 ≤ i) (h : i ≤ s.size) : ((at_ s i).length : Int) = s.size - i := by
  unfold at_; rw [List.length_drop, by_length]; omega
theorem at_zero (s : ByteArray) : at_ s 0 = by_ s := by simp [at_]
theorem at_range (s : ByteArray) (i : Int) : ∀ c ∈ at_ s i, 0 ≤ c ∧ c ≤ 255 := fun c hc => by_range s c (List.mem_of_mem_drop hc)
theorem at_add (s : ByteArray) (i : Int) (n : Nat) (h0 : 0 ≤ i) : at_ s (i + n) = (at_ s i).drop n := by
  unfold at_; rw [List.drop_drop]; congr 1; omega

/-- How many signs at the head are so. -/
def cnt (p : Int → Bool) : List Int → Nat
  | [] => 0
  | c :: l => if p c = true then cnt p l + 1 else 0
theorem cnt_le (p : Int → Bool) (l : List Int) : cnt p l ≤ l.length := by
  induction l with
  | nil => simp [cnt]
  | cons c l ih => simp only [cnt]; split <;> simp <;> omega
theorem cnt_nil (p : Int → Bool) : cnt p [] = 0 := rfl
theorem cnt_yes {p : Int → Bool} {c : Int} (l : List Int) (h : p c = true) : cnt p (c :: l) = cnt p l + 1 := by simp [cnt, h]
theorem cnt_no {p : Int → Bool} {c : Int} (l : List Int) (h : p c = false) : cnt p (c :: l) = 0 := by simp [cnt, h]
theorem cnt_all {p : Int → Bool} {a : List Int} (h : cnt p a = a.length) (b : List Int) : cnt p (a ++ b) = a.length + cnt p b := by
  induction a with
  | nil => simp
  | cons c a ih =>
    by_cases hc : p c = true
    · rw [cnt_yes _ hc, List.length_cons] at h
      rw [List.cons_append, cnt_yes _ hc, ih (by omega), List.length_cons]; omega
    · rw [Bool.not_eq_true] at hc
      rw [cnt_no _ hc, List.length_cons] at h; omega
theorem cnt_part {p : Int → Bool} {a : List Int} (h : cnt p a < a.length) (b : List Int) : cnt p (a ++ b) = cnt p a := by
  induction a with
  | nil => simp at h
  | cons c a ih =>
    by_cases hc : p c = true
    · rw [cnt_yes _ hc, List.length_cons] at h
      rw [List.cons_append, cnt_yes _ hc, cnt_yes _ hc, ih (by omega)]
    · rw [Bool.not_eq_true] at hc
      rw [List.cons_append, cnt_no _ hc, cnt_no _ hc]
theorem cnt_get {p : Int → Bool} {l : List Int} {k : Nat} (h : k < cnt p l) : ∃ c, l[k]? = some c ∧ p c = true := by
  induction l generalizing k with
  | nil => simp [cnt] at h
  | cons c l ih =>
    by_cases hc : p c = true
    · cases k with
      | zero => exact ⟨c, rfl, hc⟩
      | succ k => rw [cnt_yes _ hc] at h; exact ih (by omega)
    · rw [Bool.not_eq_true] at hc
      rw [cnt_no _ hc] at h; omega
theorem cnt_stop (p : Int → Bool) (l : List Int) : (l.drop (cnt p l) = []) ∨ ∃ c m, l.drop (cnt p l) = c :: m ∧ p c = false := by
  induction l with
  | nil => simp
  | cons c l ih =>
    by_cases hc : p c = true
    · rw [cnt_yes _ hc, List.drop_succ_cons]; exact ih
    · rw [Bool.not_eq_true] at hc
      rw [cnt_no _ hc]; exact .inr ⟨c, l, rfl, hc⟩
theorem cnt_drop (p : Int → Bool) (l : List Int) : cnt p (l.drop (cnt p l)) = 0 := by
  rcases cnt_stop p l with h | ⟨c, m, h, hc⟩
  · rw [h]; rfl
  · rw [h, cnt_no _ hc]
theorem cnt_take (p : Int → Bool) (l : List Int) : cnt p (l.take (cnt p l)) = cnt p l := by
  induction l with
  | nil => simp [cnt]
  | cons c l ih =>
    by_cases hc : p c = true
    · rw [cnt_yes _ hc, List.take_succ_cons, cnt_yes _ hc, ih]
    · rw [Bool.not_eq_true] at hc
      rw [cnt_no _ hc]; simp [cnt]

/-- Bytes that begin a name; digits; what goes on in a name; a row's blanks. -/
def isLet (c : Int) : Bool := decide (65 ≤ c ∧ c ≤ 90 ∨ 97 ≤ c ∧ c ≤ 122 ∨ c = 95)
def isDig (c : Int) : Bool := decide (48 ≤ c ∧ c ≤ 57)
def isWord (c : Int) : Bool := isLet c || isDig c
def isBl (c : Int) : Bool := decide (c = 9 ∨ c = 10 ∨ c = 13 ∨ c = 32 ∨ c = 44)
def noEnd (c : Int) : Bool := decide (c ≠ 10 ∧ c ≠ 13)
def dig (l : List Int) : Nat := cnt isDig l
def name : List Int → Nat
  | [] => 0
  | c :: l => if isLet c = true then cnt isWord l + 1 else 0
/-- What counts for nothing; in a comment, or not. -/
def bl : Bool → List Int → Nat
  | _, [] => 0
  | b, c :: l =>
    if b = true then (if noEnd c = true then bl true l + 1 else bl false l + 1)
    else if isBl c = true then bl false l + 1
    else if c = 35 then bl true l + 1
    else if c = 239 then (match l with | 187 :: 191 :: m => bl false m + 3 | _ => 0)
    else 0
theorem bl_nil (b : Bool) : bl b [] = 0 := by cases b <;> rfl
theorem bl_true (c : Int) (l : List Int) : bl true (c :: l) = if noEnd c = true then bl true l + 1 else bl false l + 1 := by
  rw [bl.eq_def]; simp
theorem bl_false (c : Int) (l : List Int) : bl false (c :: l) = if isBl c = true then bl false l + 1 else if c = 35 then bl true l + 1 else if c = 239 then (match l with | 187 :: 191 :: m => bl false m + 3 | _ => 0) else 0 := by
  rw [bl.eq_def]; simp
end Go.Proofs.YtjgpmfjkcioinaaDoor.M
