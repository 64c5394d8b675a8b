/-
  The law ScanFirst, walked: what stands ahead does not matter, nor what stands behind where it ends, but behind a byte 239.
-/
import Derived.Test.YtdhncfkbblfokaaA4
import Derived.Test.YtdhncfkbblfokaaR4b
namespace Go.Proofs.Ytdhncfkbblfokaa.G
open Go.RowKit Go.Proofs.YtdhncfkbblfokaaW.PrintWords Go.Proofs.Ytdhncfkbblfokaa.M
set_option linter.unusedVariables false
set_option linter.unusedSimpArgs false

theorem cnt_behind (p : Int → Bool) (c : Int) (hc : p c = false) (l m : List Int) : cnt p (l ++ c :: m) = cnt p l := by
  rcases Nat.lt_or_ge (cnt p l) l.length with h | h
  · exact cnt_part h _
  · have h2 : cnt p l = l.length := by have := cnt_le p l; omega
    rw [cnt_all h2, cnt_no _ hc]; omega
theorem name_behind (c : Int) (hl : isLet c = false) (hc : isWord c = false) (l m : List Int) : name (l ++ c :: m) = name l := by
  cases l with
  | nil => rw [List.nil_append, R.name_no _ hl]; rfl
  | cons x l =>
    cases h : isLet x with
    | true => rw [List.cons_append, R.name_cnt _ h, R.name_cnt _ h, ← List.cons_append, cnt_behind _ _ hc]
    | false => rw [List.cons_append, R.name_no _ h, R.name_no _ h]
/-- What stands behind where it ends, but behind a byte 239, does not matter. -/
theorem bl_behind : ∀ (b : Bool) (l m : List Int), bl b l < l.length → l[bl b l]? ≠ some 239 → bl b (l ++ m) = bl b l
  | b, [], m, h, _ => by simp at h
  | true, c :: l, m, h, hne => by
    rw [bl_true] at h hne ⊢
    rw [List.cons_append, bl_true]
    rw [List.length_cons] at h
    by_cases hn : noEnd c = true
    · rw [if_pos hn] at h hne ⊢
      rw [if_pos hn, bl_behind true l m (by omega) (by simpa using hne)]
    · rw [if_neg hn] at h hne ⊢
      rw [if_neg hn, bl_behind false l m (by omega) (by simpa using hne)]
  | false, c :: l, m, h, hne => by
    rw [bl_false] at h hne ⊢
    rw [List.cons_append, bl_false]
    rw [List.length_cons] at h
    by_cases h1 : isBl c = true
    · rw [if_pos h1] at h hne ⊢
      rw [if_pos h1, bl_behind false l m (by omega) (by simpa using hne)]
    · rw [if_neg h1] at h hne ⊢
      rw [if_neg h1]
      by_cases h2 : c = 35
      · rw [if_pos h2] at h hne ⊢
        rw [if_pos h2, bl_behind true l m (by omega) (by simpa using hne)]
      · rw [if_neg h2] at h hne ⊢
        rw [if_neg h2]
        by_cases h3 : c = 239
        · rw [if_pos h3] at h hne ⊢
          rw [if_pos h3]
          subst h3
          match l, h, hne with
          | 187 :: 191 :: q, h, hne =>
            simp only [List.length_cons] at h
            have := bl_behind false q m (by omega) (by simpa using hne)
            simp only [List.cons_append]
            omega
          | [], h, hne => simp at hne
          | [x], h, hne => simp at hne
          | x :: y :: q, h, hne =>
            split at hne
            · rename_i z e
              simp only [List.cons.injEq] at e
              obtain ⟨rfl, rfl, rfl⟩ := e
              simp only [List.length_cons] at h
              have := bl_behind false q m (by omega) (by simpa using hne)
              simp only [List.cons_append]
              omega
            · simp at hne
        · rw [if_neg h3] at h hne ⊢
          rw [if_neg h3]
theorem bl_whole : ∀ (b : Bool) (l m : List Int), bl b l = l.length → l.length ≤ bl b (l ++ m)
  | b, [], m, h => by simp
  | true, c :: l, m, h => by
    rw [bl_true] at h
    rw [List.cons_append, bl_true]
    rw [List.length_cons] at h ⊢
    by_cases hn : noEnd c = true
    · rw [if_pos hn] at h ⊢
      have := bl_whole true l m (by omega); omega
    · rw [if_neg hn] at h ⊢
      have := bl_whole false l m (by omega); omega
  | false, c :: l, m, h => by
    rw [bl_false] at h
    rw [List.cons_append, bl_false]
    rw [List.length_cons] at h ⊢
    by_cases h1 : isBl c = true
    · rw [if_pos h1] at h ⊢
      have := bl_whole false l m (by omega); omega
    · rw [if_neg h1] at h ⊢
      by_cases h2 : c = 35
      · rw [if_pos h2] at h ⊢
        have := bl_whole true l m (by omega); omega
      · rw [if_neg h2] at h ⊢
        by_cases h3 : c = 239
        · rw [if_pos h3] at h ⊢
          match l, h with
          | 187 :: 191 :: q, h =>
            simp only [List.length_cons] at h ⊢
            have := bl_whole false q m (by omega)
            simp only [List.cons_append]
            omega
          | [], h => simp at h
          | [x], h => simp at h
          | x :: y :: q, h =>
            split at h
            · rename_i z e
              simp only [List.cons.injEq] at e
              obtain ⟨rfl, rfl, rfl⟩ := e
              simp only [List.length_cons] at h ⊢
              have := bl_whole false q m (by omega)
              simp only [List.cons_append]
              omega
            · simp at h
        · rw [if_neg h3] at h; omega

theorem at_behind (a s : ByteArray) : at_ (a ++ s) a.size = by_ s := by
  unfold at_; rw [by_append, Int.toNat_natCast, ← by_length a, List.drop_left]
theorem nameEnd_behind (a s : ByteArray) : nameEnd (a ++ s) a.size = (a.size : Int) + name (by_ s) := by
  unfold nameEnd; rw [if_pos ⟨by omega, by rw [ByteArray.size_append]; omega⟩, at_behind]
theorem upto_behind (q : Int → Bool) (a s : ByteArray) : upto q (a ++ s) a.size = (a.size : Int) + cnt q (by_ s) := by
  unfold upto; rw [if_pos ⟨by omega, by rw [ByteArray.size_append]; omega⟩, at_behind]
theorem blank_behind (a s : ByteArray) : blank (a ++ s) a.size = (a.size : Int) + bl false (by_ s) := by
  unfold blank; rw [if_pos ⟨by omega, by rw [ByteArray.size_append]; omega⟩, at_behind]

set_option maxHeartbeats 1600000 in
set_option maxRecDepth 100000 in
theorem scanFirst_1 (a0 a1 a2 : ByteArray) (na da ba : Nat) (c : Int) (w : World) (h1' : ¬ (300 : Int) < (a0.size : Int)) (h2' : ¬ (300 : Int) < (a1.size : Int)) (h3' : ¬ (300 : Int) < (a2.size : Int))
    (hv1 : nameEnd a1 0 = (na : Int)) (hv2 : upto isDig a1 0 = (da : Int)) (hv3 : blank a1 0 = (ba : Int))
    (hv4 : nameEnd (a0 ++ a1 ++ ⟨#[32]⟩ ++ a2) a0.size = (a0.size : Int) + (na : Int))
    (hv5 : upto isDig (a0 ++ a1 ++ ⟨#[120]⟩ ++ a2) a0.size = (a0.size : Int) + (da : Int))
    (hn1 : na ≤ a1.size) (hn2 : da ≤ a1.size) (hn3 : ba ≤ a1.size) (hlt : ba < a1.size) (hat : ∀ h : ba < a1.size, (((a1[ba]'h).toNat : Nat) : Int) = c) (hq : decide (ba < a1.size) = true) (hg : decide ((0 : Int) ≤ (ba : Int)) = true) (h239b : (c == 239) = true) :
    Calls Try.prog 5 #[.string a0, .string a1, .string a2] w fun e w' => e = .returned (.bool true) ∧ Below w.heap.size w w' := by
  go_enter Try.func5, Try.ntmps5
  dsimp only [List.append]
  go_wp2_with (first
    | (go_at_call 14; (with_reducible refine (awake4_st w _ ?c2).mono ?_); (case c2 => repeat (first | assumption | exact Below.refl _ _ | apply below_alloc | apply below_drawn | apply below_drew)); rintro e w' ⟨rfl, hb⟩)
    | (go_at_call 17; (with_reducible refine (name_st w _ _ _ ?c1 ?c2).mono ?_); (case c1 => (first | omega | (simp only [ByteArray.size_append, lit_size, List.size_toArray, List.length_cons, List.length_nil, ByteArray.size_extract]; omega))); (case c2 => repeat (first | assumption | exact Below.refl _ _ | apply below_alloc | apply below_drawn | apply below_drew)); rintro e w' ⟨rfl, hb⟩)
    | (go_at_call 19; (with_reducible refine (dig_st w _ _ _ ?c1 ?c2).mono ?_); (case c1 => (first | omega | (simp only [ByteArray.size_append, lit_size, List.size_toArray, List.length_cons, List.length_nil, ByteArray.size_extract]; omega))); (case c2 => repeat (first | assumption | exact Below.refl _ _ | apply below_alloc | apply below_drawn | apply below_drew)); rintro e w' ⟨rfl, hb⟩)
    | (go_at_call 21; (with_reducible refine (blank_st w _ _ _ ?c1 ?c2).mono ?_); (case c1 => (first | omega | (simp only [ByteArray.size_append, lit_size, List.size_toArray, List.length_cons, List.length_nil, ByteArray.size_extract]; omega))); (case c2 => repeat (first | assumption | exact Below.refl _ _ | apply below_alloc | apply below_drawn | apply below_drew)); rintro e w' ⟨rfl, hb⟩))
  all_goals go_ret
  all_goals exact ⟨rfl, by repeat (first | assumption | exact Below.refl _ _ | apply below_alloc | apply below_drawn | apply below_drew)⟩

set_option maxHeartbeats 1600000 in
set_option maxRecDepth 100000 in
theorem scanFirst_2 (a0 a1 a2 : ByteArray) (na da ba : Nat) (c : Int) (w : World) (h1' : ¬ (300 : Int) < (a0.size : Int)) (h2' : ¬ (300 : Int) < (a1.size : Int)) (h3' : ¬ (300 : Int) < (a2.size : Int))
    (hv1 : nameEnd a1 0 = (na : Int)) (hv2 : upto isDig a1 0 = (da : Int)) (hv3 : blank a1 0 = (ba : Int))
    (hv4 : nameEnd (a0 ++ a1 ++ ⟨#[32]⟩ ++ a2) a0.size = (a0.size : Int) + (na : Int))
    (hv5 : upto isDig (a0 ++ a1 ++ ⟨#[120]⟩ ++ a2) a0.size = (a0.size : Int) + (da : Int))
    (hn1 : na ≤ a1.size) (hn2 : da ≤ a1.size) (hn3 : ba ≤ a1.size) (hlt : ba < a1.size) (hat : ∀ h : ba < a1.size, (((a1[ba]'h).toNat : Nat) : Int) = c) (hq : decide (ba < a1.size) = true) (hg : decide ((0 : Int) ≤ (ba : Int)) = true) (h239b : (c == 239) = false) (hv6 : blank (a0 ++ a1 ++ a2) a0.size = (a0.size : Int) + (ba : Int)) :
    Calls Try.prog 5 #[.string a0, .string a1, .string a2] w fun e w' => e = .returned (.bool true) ∧ Below w.heap.size w w' := by
  go_enter Try.func5, Try.ntmps5
  dsimp only [List.append]
  go_wp2_with (first
    | (go_at_call 14; (with_reducible refine (awake4_st w _ ?c2).mono ?_); (case c2 => repeat (first | assumption | exact Below.refl _ _ | apply below_alloc | apply below_drawn | apply below_drew)); rintro e w' ⟨rfl, hb⟩)
    | (go_at_call 17; (with_reducible refine (name_st w _ _ _ ?c1 ?c2).mono ?_); (case c1 => (first | omega | (simp only [ByteArray.size_append, lit_size, List.size_toArray, List.length_cons, List.length_nil, ByteArray.size_extract]; omega))); (case c2 => repeat (first | assumption | exact Below.refl _ _ | apply below_alloc | apply below_drawn | apply below_drew)); rintro e w' ⟨rfl, hb⟩)
    | (go_at_call 19; (with_reducible refine (dig_st w _ _ _ ?c1 ?c2).mono ?_); (case c1 => (first | omega | (simp only [ByteArray.size_append, lit_size, List.size_toArray, List.length_cons, List.length_nil, ByteArray.size_extract]; omega))); (case c2 => repeat (first | assumption | exact Below.refl _ _ | apply below_alloc | apply below_drawn | apply below_drew)); rintro e w' ⟨rfl, hb⟩)
    | (go_at_call 21; (with_reducible refine (blank_st w _ _ _ ?c1 ?c2).mono ?_); (case c1 => (first | omega | (simp only [ByteArray.size_append, lit_size, List.size_toArray, List.length_cons, List.length_nil, ByteArray.size_extract]; omega))); (case c2 => repeat (first | assumption | exact Below.refl _ _ | apply below_alloc | apply below_drawn | apply below_drew)); rintro e w' ⟨rfl, hb⟩))
  all_goals go_ret
  all_goals exact ⟨rfl, by repeat (first | assumption | exact Below.refl _ _ | apply below_alloc | apply below_drawn | apply below_drew)⟩

set_option maxHeartbeats 1600000 in
set_option maxRecDepth 100000 in
theorem scanFirst_3 (a0 a1 a2 : ByteArray) (na da x : Nat) (w : World) (h1' : ¬ (300 : Int) < (a0.size : Int)) (h2' : ¬ (300 : Int) < (a1.size : Int)) (h3' : ¬ (300 : Int) < (a2.size : Int))
    (hv1 : nameEnd a1 0 = (na : Int)) (hv2 : upto isDig a1 0 = (da : Int)) (hv3 : blank a1 0 = (a1.size : Int))
    (hv4 : nameEnd (a0 ++ a1 ++ ⟨#[32]⟩ ++ a2) a0.size = (a0.size : Int) + (na : Int))
    (hv5 : upto isDig (a0 ++ a1 ++ ⟨#[120]⟩ ++ a2) a0.size = (a0.size : Int) + (da : Int))
    (hn1 : na ≤ a1.size) (hn2 : da ≤ a1.size)  (hg : decide ((0 : Int) ≤ (a1.size : Int)) = true) (hq : decide ((a1.size : Int) < (a1.size : Int)) = false) (hq2 : decide (a1.size < a1.size) = false) (hx : blank (a0 ++ a1 ++ ⟨#[10]⟩ ++ a2) a0.size = (a0.size : Int) + (a1.size : Int) + (x : Int)) (hge : decide ((a0.size : Int) + (a1.size : Int) ≤ (a0.size : Int) + (a1.size : Int) + (x : Int)) = true) (hge2 : (a0.size : Int) + (a1.size : Int) ≤ (a0.size : Int) + (a1.size : Int) + (x : Int)) (hx2 : x ≤ 301) :
    Calls Try.prog 5 #[.string a0, .string a1, .string a2] w fun e w' => e = .returned (.bool true) ∧ Below w.heap.size w w' := by
  go_enter Try.func5, Try.ntmps5
  dsimp only [List.append]
  go_wp2_with (first
    | (go_at_call 14; (with_reducible refine (awake4_st w _ ?c2).mono ?_); (case c2 => repeat (first | assumption | exact Below.refl _ _ | apply below_alloc | apply below_drawn | apply below_drew)); rintro e w' ⟨rfl, hb⟩)
    | (go_at_call 17; (with_reducible refine (name_st w _ _ _ ?c1 ?c2).mono ?_); (case c1 => (first | omega | (simp only [ByteArray.size_append, lit_size, List.size_toArray, List.length_cons, List.length_nil, ByteArray.size_extract]; omega))); (case c2 => repeat (first | assumption | exact Below.refl _ _ | apply below_alloc | apply below_drawn | apply below_drew)); rintro e w' ⟨rfl, hb⟩)
    | (go_at_call 19; (with_reducible refine (dig_st w _ _ _ ?c1 ?c2).mono ?_); (case c1 => (first | omega | (simp only [ByteArray.size_append, lit_size, List.size_toArray, List.length_cons, List.length_nil, ByteArray.size_extract]; omega))); (case c2 => repeat (first | assumption | exact Below.refl _ _ | apply below_alloc | apply below_drawn | apply below_drew)); rintro e w' ⟨rfl, hb⟩)
    | (go_at_call 21; (with_reducible refine (blank_st w _ _ _ ?c1 ?c2).mono ?_); (case c1 => (first | omega | (simp only [ByteArray.size_append, lit_size, List.size_toArray, List.length_cons, List.length_nil, ByteArray.size_extract]; omega))); (case c2 => repeat (first | assumption | exact Below.refl _ _ | apply below_alloc | apply below_drawn | apply below_drew)); rintro e w' ⟨rfl, hb⟩))
  all_goals go_ret
  all_goals exact ⟨rfl, by repeat (first | assumption | exact Below.refl _ _ | apply below_alloc | apply below_drawn | apply below_drew)⟩

set_option maxHeartbeats 1600000 in
set_option maxRecDepth 100000 in
theorem copperplatelaw04_ScanFirst.walk (a0 a1 a2 : ByteArray) (w : World) (w0 : a0.size ≤ 140737488351232) (w1 : a1.size ≤ 140737488351232) (w2 : a2.size ≤ 140737488351232) :
    Calls Try.prog 5 #[.string a0, .string a1, .string a2] w fun e w' => e = .returned (.bool true) ∧ Below w.heap.size w w' := by
  by_cases h1 : a0.size ≤ 300
  · by_cases h2 : a1.size ≤ 300
    · by_cases h3 : a2.size ≤ 300
      · have h1' : ¬ (300 : Int) < (a0.size : Int) := by omega
        have h2' : ¬ (300 : Int) < (a1.size : Int) := by omega
        have h3' : ¬ (300 : Int) < (a2.size : Int) := by omega
        have hl1 := by_length a1
        have hv1 : nameEnd a1 0 = (name (by_ a1) : Int) := R.nameEnd_zero a1
        have hv2 : upto isDig a1 0 = (cnt isDig (by_ a1) : Int) := R.upto_zero isDig a1
        have hv3 : blank a1 0 = (bl false (by_ a1) : Int) := blank_nil a1
        have hv4 : nameEnd (a0 ++ a1 ++ ⟨#[32]⟩ ++ a2) a0.size = (a0.size : Int) + (name (by_ a1) : Int) := by
          rw [ByteArray.append_assoc, ByteArray.append_assoc, nameEnd_behind, by_append, by_append, show by_ ⟨#[32]⟩ = [32] from rfl, List.singleton_append, name_behind 32 (by decide) (by decide)]
        have hv5 : upto isDig (a0 ++ a1 ++ ⟨#[120]⟩ ++ a2) a0.size = (a0.size : Int) + (cnt isDig (by_ a1) : Int) := by
          rw [ByteArray.append_assoc, ByteArray.append_assoc, upto_behind, by_append, by_append, show by_ ⟨#[120]⟩ = [120] from rfl, List.singleton_append, cnt_behind _ 120 (by decide)]
        have hn1 := R.name_le (by_ a1)
        have hn2 := cnt_le isDig (by_ a1)
        have hn3 := bl_le false (by_ a1)
        have hb6 : bl false (by_ a1) < a1.size → bt a1 (bl false (by_ a1) : Int) ≠ 239 → blank (a0 ++ a1 ++ a2) a0.size = (a0.size : Int) + (bl false (by_ a1) : Int) := by
          intro hlt hne
          rw [ByteArray.append_assoc, blank_behind, by_append, bl_behind false _ _ (by omega)]
          have := bt_by a1 (bl false (by_ a1) : Int) (by simpa using hlt)
          rw [Int.toNat_natCast] at this
          rw [this]
          intro h
          exact hne (Option.some.inj h)
        have hb7 : bl false (by_ a1) = a1.size → ∃ x : Nat, blank (a0 ++ a1 ++ ⟨#[10]⟩ ++ a2) a0.size = (a0.size : Int) + (a1.size : Int) + (x : Int) ∧ x ≤ 301 := by
          intro he
          rw [ByteArray.append_assoc, ByteArray.append_assoc, blank_behind, by_append]
          have g1 := bl_whole false (by_ a1) (by_ (⟨#[10]⟩ ++ a2)) (by omega)
          have g2 := bl_le false (by_ a1 ++ by_ (⟨#[10]⟩ ++ a2))
          rw [List.length_append, by_length, by_length, ByteArray.size_append, show (⟨#[10]⟩ : ByteArray).size = 1 from rfl] at g2
          refine ⟨bl false (by_ a1 ++ by_ (⟨#[10]⟩ ++ a2)) - a1.size, by omega, by omega⟩
        rw [hl1] at hn1 hn2 hn3
        obtain ⟨na, hna⟩ : ∃ x, name (by_ a1) = x := ⟨_, rfl⟩
        obtain ⟨da, hda⟩ : ∃ x, cnt isDig (by_ a1) = x := ⟨_, rfl⟩
        obtain ⟨ba, hba⟩ : ∃ x, bl false (by_ a1) = x := ⟨_, rfl⟩
        rw [hna] at hv1 hv4 hn1
        rw [hda] at hv2 hv5 hn2
        rw [hba] at hv3 hb6 hb7 hn3
        have HB6 := Lib.hid hb6
        have HB7 := Lib.hid hb7
        clear hna hda hba hl1 hb6 hb7 h1 h2 h3 w0 w1 w2
        by_cases hlt : ba < a1.size
        · have hat : ∀ h : ba < a1.size, (((a1[ba]'h).toNat : Nat) : Int) = bt a1 ba := fun h => bt_at a1 ba h
          obtain ⟨c, hc⟩ : ∃ c, bt a1 (ba : Int) = c := ⟨_, rfl⟩
          rw [hc] at HB6
          simp only [hc] at hat
          clear hc
          have hq : decide (ba < a1.size) = true := decide_eq_true (by omega)
          have hg : decide ((0 : Int) ≤ (ba : Int)) = true := decide_eq_true (by omega)
          by_cases h239 : c = 239
          · have h239b : (c == 239) = true := by rw [h239]; rfl
            exact scanFirst_1 a0 a1 a2 na da ba c w h1' h2' h3' hv1 hv2 hv3 hv4 hv5 hn1 hn2 hn3 hlt hat hq hg h239b
          · have h239b : (c == 239) = false := beq_eq_false_iff_ne.2 h239
            have hv6 := HB6.out hlt h239
            exact scanFirst_2 a0 a1 a2 na da ba c w h1' h2' h3' hv1 hv2 hv3 hv4 hv5 hn1 hn2 hn3 hlt hat hq hg h239b hv6
        · have he : ba = a1.size := by omega
          have hq : decide (ba < a1.size) = false := decide_eq_false (by omega)
          have hg : decide ((0 : Int) ≤ (ba : Int)) = true := decide_eq_true (by omega)
          have heb : ((ba : Int) == (a1.size : Int)) = true := by rw [beq_iff_eq]; omega
          have heb2 : (ba == a1.size) = true := by rw [beq_iff_eq]; omega
          obtain ⟨x, hx, hx2⟩ := HB7.out he
          subst he
          exact scanFirst_3 a0 a1 a2 na da x w h1' h2' h3' hv1 hv2 hv3 hv4 hv5 hn1 hn2 (decide_eq_true (by omega)) (decide_eq_false (by omega)) (decide_eq_false (by omega)) hx (decide_eq_true (by omega)) (by omega) hx2
      · have h1' : ¬ (300 : Int) < (a0.size : Int) := by omega
        have h2' : ¬ (300 : Int) < (a1.size : Int) := by omega
        have h3' : (300 : Int) < (a2.size : Int) := by omega
        go_enter Try.func5, Try.ntmps5
        go_wp2_with (go_at_call 14; (with_reducible refine (awake4_st w _ ?c2).mono ?_); (case c2 => repeat (first | assumption | exact Below.refl _ _ | apply below_alloc | apply below_drawn | apply below_drew)); rintro e w' ⟨rfl, hb⟩)
        all_goals go_ret
        all_goals exact ⟨rfl, by repeat (first | assumption | exact Below.refl _ _ | apply below_alloc | apply below_drawn | apply below_drew)⟩
    · have h1' : ¬ (300 : Int) < (a0.size : Int) := by omega
      have h2' : (300 : Int) < (a1.size : Int) := by omega
      go_enter Try.func5, Try.ntmps5
      go_wp2_with (go_at_call 14; (with_reducible refine (awake4_st w _ ?c2).mono ?_); (case c2 => repeat (first | assumption | exact Below.refl _ _ | apply below_alloc | apply below_drawn | apply below_drew)); rintro e w' ⟨rfl, hb⟩)
      all_goals go_ret
      all_goals exact ⟨rfl, by repeat (first | assumption | exact Below.refl _ _ | apply below_alloc | apply below_drawn | apply below_drew)⟩
  · have h1' : (300 : Int) < (a0.size : Int) := by omega
    go_enter Try.func5, Try.ntmps5
    go_wp2_with (go_at_call 14; (with_reducible refine (awake4_st w _ ?c2).mono ?_); (case c2 => repeat (first | assumption | exact Below.refl _ _ | apply below_alloc | apply below_drawn | apply below_drew)); rintro e w' ⟨rfl, hb⟩)
    all_goals go_ret
    all_goals exact ⟨rfl, by repeat (first | assumption | exact Below.refl _ _ | apply below_alloc | apply below_drawn | apply below_drew)⟩
end Go.Proofs.Ytdhncfkbblfokaa.G
