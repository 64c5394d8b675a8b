/-
  Quotients that come out even; the laws RealZeros, RealEdges, as laws on lists of bytes. Plain Lean.
-/
import Derived.Test.YtchbmihhkjpkaaaDoorRX1
namespace Go.Proofs.YtchbmihhkjpkaaaDoor.M
open Ieee
set_option linter.unusedVariables false
set_option linter.unusedSimpArgs false

theorem div_nat {a b : Nat} (h : a * b < 9007199254740992) (hb : b < 9007199254740992) (h0 : b ≠ 0) : F64.div (ofI (a * b : Nat)) (ofI b) = some (ofI a) := by
  rw [ofI_nat, ofI_nat, ofI_nat]
  obtain ⟨k, h1⟩ := read_near (a * b) h
  obtain ⟨j, h2⟩ := read_near b hb
  have hbj : b <<< j ≠ 0 := by rw [Nat.shiftLeft_eq]; exact Nat.mul_ne_zero h0 (by have := Nat.two_pow_pos j; omega)
  have ha : a < 9007199254740992 := Nat.lt_of_le_of_lt (Nat.le_mul_of_pos_right a (by omega)) h
  unfold Format.div
  rw [h1, h2]
  have hq : Datum.quotient (F64.fractionBits + 2) (.number false ((a * b) <<< k) (-(k : Int))) (.number false (b <<< j) (-(j : Int))) =
      some (.number false (2 * ((((a * b) <<< k) <<< (54 + (b <<< j).log2 - ((a * b) <<< k).log2)) / (b <<< j)) + ((((a * b) <<< k) <<< (54 + (b <<< j).log2 - ((a * b) <<< k).log2)) % (b <<< j) != 0).toNat) (-(k : Int) - -(j : Int) - ((54 + (b <<< j).log2 - ((a * b) <<< k).log2 : Nat) : Int) - 1)) := if_neg hbj
  rw [hq]
  show some (F64.nearest false _ _) = _
  obtain ⟨e, he⟩ : ∃ e, 54 + (b <<< j).log2 - ((a * b) <<< k).log2 = e := ⟨_, rfl⟩
  rw [he, shift_shift]
  by_cases ha0 : a = 0
  · subst ha0
    rw [Nat.zero_mul, Nat.zero_shiftLeft, Nat.zero_div, Nat.zero_mod, show 2 * 0 + ((0 : Nat) != 0).toNat = 0 from rfl]
    unfold Format.nearest
    rw [if_pos rfl, if_pos rfl]
  have hab : a * b ≠ 0 := Nat.mul_ne_zero ha0 h0
  have l1 := log2_shift (a * b) k hab
  have l2 := log2_shift b j h0
  have l3 := log2_53 hab h
  have hj : j ≤ k + e := by omega
  have es : (a * b) <<< (k + e) = (a <<< (k + e - j)) * (b <<< j) := by
    rw [Nat.shiftLeft_eq, Nat.shiftLeft_eq, Nat.shiftLeft_eq]
    conv => lhs; rw [show k + e = (k + e - j) + j by omega, Nat.pow_add]
    exact Nat.mul_mul_mul_comm a b _ _
  rw [es, Nat.mul_div_cancel _ (Nat.pos_of_ne_zero hbj), Nat.mul_mod_left]
  have e2 : 2 * (a <<< (k + e - j)) + ((0 : Nat) != 0).toNat = a <<< (k + e - j + 1) := by
    show 2 * (a <<< (k + e - j)) + 0 = _
    rw [Nat.shiftLeft_eq, Nat.shiftLeft_eq, Nat.pow_succ, Nat.add_zero, Nat.mul_comm 2, Nat.mul_assoc]
  rw [e2, show -(k : Int) - -(j : Int) - (e : Int) - 1 = -((k + e - j + 1 : Nat) : Int) by omega, near_shift _ _ ha]
theorem pw_nat : ∀ (k : Nat), k ≤ 15 → pw k = ofI ((10 ^ k : Nat) : Int)
  | 0, _ => one_ofI
  | k + 1, h => by
    have ih := pw_nat k (by omega)
    have hp : 10 ^ k ≤ 10 ^ 14 := Nat.pow_le_pow_right (by decide) (by omega)
    show (F64.mul (pw k) TENF).getD 0 = _
    rw [ih, ten_ofI, mul_nat (by omega) (by omega) (by omega), Option.getD_some, Nat.pow_succ]
/-! ### Texts of digits -/
def Digs (l : List Int) : Prop := ∀ c ∈ l, 48 ≤ c ∧ c ≤ 57
theorem dig_all {l : List Int} (h : Digs l) : dig l = l.length := by
  unfold dig
  induction l with
  | nil => rfl
  | cons c r ih => rw [cnt_yes _ (decide_eq_true (h c (by simp))), ih (fun d hd => h d (by simp [hd]))]; rfl
theorem dig_stop {l : List Int} (h : ∀ c, l.head? = some c → isDig c = false) : dig l = 0 := by
  cases l with
  | nil => rfl
  | cons c r => exact cnt_no _ (h c rfl)
theorem dig_two {l m : List Int} (h : Digs l) (hm : ∀ c, m.head? = some c → isDig c = false) : dig (l ++ m) = l.length := by
  rw [dig_app (dig_all h), dig_stop hm]; rfl
/-- A whole number with an exponent, or none. -/
theorem worth_whole {l m : List Int} (h : Digs l) (h0 : l ≠ []) (hm : ∀ c, m.head? = some c → isDig c = false ∧ c ≠ 46) : worth (l ++ m) = (expo m).map fun x => (l, x) := by
  have hd := dig_two h (fun c hc => (hm c hc).1)
  unfold worth
  rw [hd, if_neg (by intro e; exact h0 (List.eq_nil_of_length_eq_zero e)), List.drop_left, List.take_left, if_neg (fun e => (hm 46 e).2 rfl)]
/-- With a dot. -/
theorem worth_dot {l d m : List Int} (h : Digs l) (h0 : l ≠ []) (hd : Digs d) (hd0 : d ≠ []) (hm : ∀ c, m.head? = some c → isDig c = false) : worth (l ++ 46 :: (d ++ m)) = (expo m).map fun x => (l ++ d, x - (d.length : Int)) := by
  have e1 : dig (l ++ 46 :: (d ++ m)) = l.length := dig_two h (fun c hc => by cases hc; rfl)
  have e2 := dig_two hd hm
  unfold worth
  rw [e1, if_neg (by intro e; exact h0 (List.eq_nil_of_length_eq_zero e)), List.drop_left, List.take_left, if_pos (show (46 :: (d ++ m) : List Int).head? = some 46 from rfl)]
  show (if dig (d ++ m) = 0 then none else (expo ((d ++ m).drop (dig (d ++ m)))).map fun x => (l ++ (d ++ m).take (dig (d ++ m)), x - ((dig (d ++ m) : Nat) : Int))) = _
  rw [e2, if_neg (by intro e; exact hd0 (List.eq_nil_of_length_eq_zero e)), List.drop_left, List.take_left]
theorem expd_all {e : List Int} (h : Digs e) (h0 : e ≠ []) : expd e = some (sat e) := by
  unfold expd
  rw [dig_all h, if_neg]
  rintro (q | q)
  · exact h0 (List.eq_nil_of_length_eq_zero q)
  · omega
theorem expo_nil : expo [] = some 0 := rfl
theorem expo_plain {c : Int} (hc : c = 101 ∨ c = 69) {e : List Int} (h : Digs e) (h0 : e ≠ []) : expo (c :: e) = some (sat e) := by
  unfold expo
  rw [if_neg (by simp), if_pos (by rcases hc with rfl | rfl <;> simp)]
  cases e with
  | nil => exact absurd rfl h0
  | cons d r =>
    have hd := h d (by simp)
    rw [if_neg (by intro q; have q2 : some d = some 45 := q; cases q2; omega), if_neg (by intro q; have q2 : some d = some 43 := q; cases q2; omega)]
    exact expd_all h h0
theorem expo_down {c : Int} (hc : c = 101 ∨ c = 69) {e : List Int} (h : Digs e) (h0 : e ≠ []) : expo (c :: 45 :: e) = some (- sat e) := by
  unfold expo
  rw [if_neg (by simp), if_pos (by rcases hc with rfl | rfl <;> simp), if_pos (show (c :: 45 :: e).tail.head? = some 45 from rfl)]
  show (expd e).map (- ·) = _
  rw [expd_all h h0]; rfl
theorem expo_up {c : Int} (hc : c = 101 ∨ c = 69) {e : List Int} (h : Digs e) (h0 : e ≠ []) : expo (c :: 43 :: e) = some (sat e) := by
  unfold expo
  rw [if_neg (by simp), if_pos (by rcases hc with rfl | rfl <;> simp), if_neg (by show ¬ some (43 : Int) = some 45; decide), if_pos (show (c :: 43 :: e).tail.head? = some 43 from rfl)]
  exact expd_all h h0
theorem noZero_zeros : ∀ n : Nat, noZero (List.replicate n 48) = []
  | 0 => rfl
  | n + 1 => by rw [List.replicate_succ, noZero_zero]; exact noZero_zeros n
theorem digs_zeros (n : Nat) : Digs (List.replicate n 48) := fun c hc => by rw [List.eq_of_mem_replicate hc]; omega
theorem digs_append {a b : List Int} (ha : Digs a) (hb : Digs b) : Digs (a ++ b) := fun c hc => (List.mem_append.1 hc).elim (ha c) (hb c)
/-- The law RealZeros. -/
theorem law_zeros (n m : Nat) (hn : 1 ≤ n) (e : List Int) (he : Digs e) :
    rval (List.replicate n 48 ++ ((if 0 < m then 46 :: List.replicate m 48 else []) ++ (if e = [] then [] else 101 :: e))) = .zero := by
  have hne : List.replicate n (48 : Int) ≠ [] := by intro q; have := congrArg List.length q; simp at this; omega
  have htail : ∀ c, (if e = [] then [] else 101 :: e : List Int).head? = some c → isDig c = false ∧ c ≠ 46 := by
    intro c hc
    split at hc
    · cases hc
    · cases hc; exact ⟨rfl, by decide⟩
  obtain ⟨x, hx⟩ : ∃ x, expo (if e = [] then [] else 101 :: e) = some x := by
    by_cases q : e = []
    · rw [if_pos q]; exact ⟨_, expo_nil⟩
    · rw [if_neg q]; exact ⟨_, expo_plain (.inl rfl) he q⟩
  unfold rval
  by_cases hm : 0 < m
  · have hne2 : List.replicate m (48 : Int) ≠ [] := by intro q; have := congrArg List.length q; simp at this; omega
    rw [if_pos hm, List.cons_append, worth_dot (digs_zeros n) hne (digs_zeros m) hne2 (fun c hc => (htail c hc).1), hx]
    show valOf (noZero (List.replicate n 48 ++ List.replicate m 48)) _ = _
    rw [List.replicate_append_replicate, noZero_zeros]; rfl
  · rw [if_neg hm, List.nil_append, worth_whole (digs_zeros n) hne htail, hx]
    show valOf (noZero (List.replicate n 48)) _ = _
    rw [noZero_zeros]; rfl
/-- Four digits. -/
def four (x : Nat) : List Int := [48 + (x / 1000 : Nat), 48 + (x / 100 % 10 : Nat), 48 + (x / 10 % 10 : Nat), 48 + (x % 10 : Nat)]
theorem four_digs {x : Nat} (h : x ≤ 9999) : Digs (four x) := by
  intro c hc
  unfold four at hc
  simp only [List.mem_cons, List.not_mem_nil, or_false] at hc
  rcases hc with rfl | rfl | rfl | rfl <;> omega
theorem four_sat {x : Nat} (h : x ≤ 9999) : sat (four x) = x := by
  unfold sat four
  simp only [List.foldl_cons, List.foldl_nil]
  omega
/-- The law RealEdges. -/
theorem law_edges {c : Int} (h0 : 49 ≤ c) (h1 : c ≤ 57) {x : Nat} (hx : 402 ≤ x) (hx2 : x ≤ 9999) :
    rval (c :: 101 :: four x) = .inf ∧ rval (c :: 69 :: 45 :: four x) = .zero := by
  have hd : Digs [c] := fun d hd => by rw [List.mem_singleton.1 hd]; omega
  have hz : noZero [c] = [c] := by unfold noZero; rw [List.dropWhile_cons, if_neg (by simp; omega)]
  have hne : four x ≠ [] := by unfold four; simp
  constructor
  · have e := worth_whole (l := [c]) (m := 101 :: four x) hd (by simp) (fun d hd => by cases hd; exact ⟨rfl, by decide⟩)
    rw [expo_plain (.inl rfl) (four_digs hx2) hne, four_sat hx2] at e
    unfold rval
    rw [show c :: 101 :: four x = [c] ++ 101 :: four x from rfl, e]
    show valOf (noZero [c]) (x : Int) = _
    rw [hz]
    unfold valOf
    rw [if_neg (by simp), if_pos (by simp; omega)]
  · have e := worth_whole (l := [c]) (m := 69 :: 45 :: four x) hd (by simp) (fun d hd => by cases hd; exact ⟨rfl, by decide⟩)
    rw [expo_down (.inr rfl) (four_digs hx2) hne, four_sat hx2] at e
    unfold rval
    rw [show c :: 69 :: 45 :: four x = [c] ++ 69 :: 45 :: four x from rfl, e]
    show valOf (noZero [c]) (-(x : Int)) = _
    rw [hz]
    unfold valOf
    rw [if_neg (by simp), if_neg (by simp; omega), if_pos (by simp; omega)]
end Go.Proofs.YtchbmihhkjpkaaaDoor.M
