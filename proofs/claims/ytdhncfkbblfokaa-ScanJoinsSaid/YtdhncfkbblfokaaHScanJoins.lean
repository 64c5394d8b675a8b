/-
  The law ScanJoins, walked: a name, and digits, and a name behind it, are one name; digits behind digits are one row.
-/
import Derived.Test.YtdhncfkbblfokaaA4
import Derived.Test.YtdhncfkbblfokaaR4b
namespace Go.Proofs.Ytdhncfkbblfokaa.G
open Go.RowKit Go.Proofs.YtdhncfkbblfokaaW.PrintWords Go.Proofs.Ytdhncfkbblfokaa.M
set_option linter.unusedVariables false
set_option linter.unusedSimpArgs false

set_option maxHeartbeats 3200000 in
set_option maxRecDepth 100000 in
theorem copperplatelaw04_ScanJoins.walk (a0 a1 : ByteArray) (w : World) (w0 : a0.size ≤ 140737488351232) (w1 : a1.size ≤ 140737488351232) :
    Calls Try.prog 7 #[.string a0, .string a1] w fun e w' => e = .returned (.bool true) ∧ Below w.heap.size w w' := by
  by_cases h1 : a0.size ≤ 300
  · by_cases h2 : a1.size ≤ 300
    · have h1' : ¬ (300 : Int) < (a0.size : Int) := by omega
      have h2' : ¬ (300 : Int) < (a1.size : Int) := by omega
      have hla := by_length a0
      have hlb := by_length a1
      have b97 : by_ (⟨#[97]⟩ ++ a1 : ByteArray) = 97 :: by_ a1 := by rw [by_append]; rfl
      have hN : name (by_ a0) = a0.size → by_ a0 ≠ [] → nameEnd (a0 ++ a1) 0 = (a0.size : Int) + nameEnd (⟨#[97]⟩ ++ a1) 0 - 1 := by
        intro h hne
        have hj := R.name_joins (by_ a0) (by_ a1) hne (by omega)
        rw [R.nameEnd_zero, R.nameEnd_zero, by_append, b97]; omega
      have hD : cnt isDig (by_ a0) = a0.size → upto isDig (a0 ++ a1) 0 = (a0.size : Int) + upto isDig a1 0 := by
        intro h
        rw [R.upto_zero, R.upto_zero, by_append, cnt_all (by omega)]; omega
      have hNB : 0 ≤ nameEnd (⟨#[97]⟩ ++ a1) 0 ∧ nameEnd (⟨#[97]⟩ ++ a1) 0 ≤ 1 + a1.size := by
        rw [R.nameEnd_zero, b97]
        have := R.name_le (97 :: by_ a1)
        rw [List.length_cons] at this
        omega
      have hDB : 0 ≤ upto isDig a1 0 ∧ upto isDig a1 0 ≤ a1.size := by
        rw [R.upto_zero]; have := cnt_le isDig (by_ a1); omega
      have hNA := R.nameEnd_zero a0
      have hDA := R.upto_zero isDig a0
      obtain ⟨NB, hNBe⟩ : ∃ x, nameEnd (⟨#[97]⟩ ++ a1) 0 = x := ⟨_, rfl⟩
      obtain ⟨DB, hDBe⟩ : ∃ x, upto isDig a1 0 = x := ⟨_, rfl⟩
      rw [hNBe] at hN hNB
      rw [hDBe] at hD hDB
      obtain ⟨hNB0, hNB1⟩ := hNB
      obtain ⟨hDB0, hDB1⟩ := hDB
      have hemp : a0.toList = [] ↔ by_ a0 = [] := R.toList_nil a0
      have HHN := Lib.hid hN
      have HHD := Lib.hid hD
      have HHE := Lib.hid hemp
      obtain ⟨na, hna⟩ : ∃ x, name (by_ a0) = x := ⟨_, rfl⟩
      obtain ⟨da, hda⟩ : ∃ x, cnt isDig (by_ a0) = x := ⟨_, rfl⟩
      rw [hna] at hNA HHN
      rw [hda] at hDA HHD
      clear hN hD hemp hna hda b97 hla hlb
      by_cases hE : by_ a0 = []
      · have hE1 : a0.toList = [] := HHE.out.2 hE
        have hE2 : a0.toList.isEmpty = true := by rw [hE1]; rfl
        clear hE hE1
        by_cases hd : da = a0.size
        · have hdb : ((da : Int) == (a0.size : Int)) = true := by rw [beq_iff_eq]; omega
          have hw := HHD.out hd
          clear hd
          go_enter Try.func7, Try.ntmps7
          go_wp2_with (first
            | (go_at_call 14; (with_reducible refine (awake4_st w _ ?c2).mono ?_); (case c2 => repeat (first | assumption | exact Below.refl _ _ | apply below_alloc | apply below_drawn | apply below_drew)); rintro e w' ⟨rfl, hb⟩)
            | (go_at_call 17; (with_reducible refine (name_st w _ _ _ ?c1 ?c2).mono ?_); (case c1 => (first | omega | (simp only [ByteArray.size_append, lit_size, List.size_toArray, List.length_cons, List.length_nil, ByteArray.size_extract]; omega))); (case c2 => repeat (first | assumption | exact Below.refl _ _ | apply below_alloc | apply below_drawn | apply below_drew)); rintro e w' ⟨rfl, hb⟩)
            | (go_at_call 19; (with_reducible refine (dig_st w _ _ _ ?c1 ?c2).mono ?_); (case c1 => (first | omega | (simp only [ByteArray.size_append, lit_size, List.size_toArray, List.length_cons, List.length_nil, ByteArray.size_extract]; omega))); (case c2 => repeat (first | assumption | exact Below.refl _ _ | apply below_alloc | apply below_drawn | apply below_drew)); rintro e w' ⟨rfl, hb⟩))
          go_ret
          exact ⟨rfl, by repeat (first | assumption | exact Below.refl _ _ | apply below_alloc | apply below_drawn | apply below_drew)⟩
        · have hdb : ((da : Int) == (a0.size : Int)) = false := beq_eq_false_iff_ne.2 (by omega)
          clear hd
          go_enter Try.func7, Try.ntmps7
          go_wp2_with (first
            | (go_at_call 14; (with_reducible refine (awake4_st w _ ?c2).mono ?_); (case c2 => repeat (first | assumption | exact Below.refl _ _ | apply below_alloc | apply below_drawn | apply below_drew)); rintro e w' ⟨rfl, hb⟩)
            | (go_at_call 17; (with_reducible refine (name_st w _ _ _ ?c1 ?c2).mono ?_); (case c1 => (first | omega | (simp only [ByteArray.size_append, lit_size, List.size_toArray, List.length_cons, List.length_nil, ByteArray.size_extract]; omega))); (case c2 => repeat (first | assumption | exact Below.refl _ _ | apply below_alloc | apply below_drawn | apply below_drew)); rintro e w' ⟨rfl, hb⟩)
            | (go_at_call 19; (with_reducible refine (dig_st w _ _ _ ?c1 ?c2).mono ?_); (case c1 => (first | omega | (simp only [ByteArray.size_append, lit_size, List.size_toArray, List.length_cons, List.length_nil, ByteArray.size_extract]; omega))); (case c2 => repeat (first | assumption | exact Below.refl _ _ | apply below_alloc | apply below_drawn | apply below_drew)); rintro e w' ⟨rfl, hb⟩))
          go_ret
          exact ⟨rfl, by repeat (first | assumption | exact Below.refl _ _ | apply below_alloc | apply below_drawn | apply below_drew)⟩
      · have hE2 : a0.toList.isEmpty = false := by
          cases h : a0.toList with
          | nil => exact absurd (HHE.out.1 h) hE
          | cons _ _ => rfl
        by_cases hn : na = a0.size
        · have hnb : ((na : Int) == (a0.size : Int)) = true := by rw [beq_iff_eq]; omega
          have hv := HHN.out hn hE
          clear hn
          by_cases hd : da = a0.size
          · have hdb : ((da : Int) == (a0.size : Int)) = true := by rw [beq_iff_eq]; omega
            have hw := HHD.out hd
            clear hd
            go_enter Try.func7, Try.ntmps7
            go_wp2_with (first
              | (go_at_call 14; (with_reducible refine (awake4_st w _ ?c2).mono ?_); (case c2 => repeat (first | assumption | exact Below.refl _ _ | apply below_alloc | apply below_drawn | apply below_drew)); rintro e w' ⟨rfl, hb⟩)
              | (go_at_call 17; (with_reducible refine (name_st w _ _ _ ?c1 ?c2).mono ?_); (case c1 => (first | omega | (simp only [ByteArray.size_append, lit_size, List.size_toArray, List.length_cons, List.length_nil, ByteArray.size_extract]; omega))); (case c2 => repeat (first | assumption | exact Below.refl _ _ | apply below_alloc | apply below_drawn | apply below_drew)); rintro e w' ⟨rfl, hb⟩)
              | (go_at_call 19; (with_reducible refine (dig_st w _ _ _ ?c1 ?c2).mono ?_); (case c1 => (first | omega | (simp only [ByteArray.size_append, lit_size, List.size_toArray, List.length_cons, List.length_nil, ByteArray.size_extract]; omega))); (case c2 => repeat (first | assumption | exact Below.refl _ _ | apply below_alloc | apply below_drawn | apply below_drew)); rintro e w' ⟨rfl, hb⟩))
            go_ret
            exact ⟨rfl, by repeat (first | assumption | exact Below.refl _ _ | apply below_alloc | apply below_drawn | apply below_drew)⟩
          · have hdb : ((da : Int) == (a0.size : Int)) = false := beq_eq_false_iff_ne.2 (by omega)
            clear hd
            go_enter Try.func7, Try.ntmps7
            go_wp2_with (first
              | (go_at_call 14; (with_reducible refine (awake4_st w _ ?c2).mono ?_); (case c2 => repeat (first | assumption | exact Below.refl _ _ | apply below_alloc | apply below_drawn | apply below_drew)); rintro e w' ⟨rfl, hb⟩)
              | (go_at_call 17; (with_reducible refine (name_st w _ _ _ ?c1 ?c2).mono ?_); (case c1 => (first | omega | (simp only [ByteArray.size_append, lit_size, List.size_toArray, List.length_cons, List.length_nil, ByteArray.size_extract]; omega))); (case c2 => repeat (first | assumption | exact Below.refl _ _ | apply below_alloc | apply below_drawn | apply below_drew)); rintro e w' ⟨rfl, hb⟩)
              | (go_at_call 19; (with_reducible refine (dig_st w _ _ _ ?c1 ?c2).mono ?_); (case c1 => (first | omega | (simp only [ByteArray.size_append, lit_size, List.size_toArray, List.length_cons, List.length_nil, ByteArray.size_extract]; omega))); (case c2 => repeat (first | assumption | exact Below.refl _ _ | apply below_alloc | apply below_drawn | apply below_drew)); rintro e w' ⟨rfl, hb⟩))
            go_ret
            exact ⟨rfl, by repeat (first | assumption | exact Below.refl _ _ | apply below_alloc | apply below_drawn | apply below_drew)⟩
        · have hnb : ((na : Int) == (a0.size : Int)) = false := beq_eq_false_iff_ne.2 (by omega)
          clear hn
          by_cases hd : da = a0.size
          · have hdb : ((da : Int) == (a0.size : Int)) = true := by rw [beq_iff_eq]; omega
            have hw := HHD.out hd
            clear hd
            go_enter Try.func7, Try.ntmps7
            go_wp2_with (first
              | (go_at_call 14; (with_reducible refine (awake4_st w _ ?c2).mono ?_); (case c2 => repeat (first | assumption | exact Below.refl _ _ | apply below_alloc | apply below_drawn | apply below_drew)); rintro e w' ⟨rfl, hb⟩)
              | (go_at_call 17; (with_reducible refine (name_st w _ _ _ ?c1 ?c2).mono ?_); (case c1 => (first | omega | (simp only [ByteArray.size_append, lit_size, List.size_toArray, List.length_cons, List.length_nil, ByteArray.size_extract]; omega))); (case c2 => repeat (first | assumption | exact Below.refl _ _ | apply below_alloc | apply below_drawn | apply below_drew)); rintro e w' ⟨rfl, hb⟩)
              | (go_at_call 19; (with_reducible refine (dig_st w _ _ _ ?c1 ?c2).mono ?_); (case c1 => (first | omega | (simp only [ByteArray.size_append, lit_size, List.size_toArray, List.length_cons, List.length_nil, ByteArray.size_extract]; omega))); (case c2 => repeat (first | assumption | exact Below.refl _ _ | apply below_alloc | apply below_drawn | apply below_drew)); rintro e w' ⟨rfl, hb⟩))
            go_ret
            exact ⟨rfl, by repeat (first | assumption | exact Below.refl _ _ | apply below_alloc | apply below_drawn | apply below_drew)⟩
          · have hdb : ((da : Int) == (a0.size : Int)) = false := beq_eq_false_iff_ne.2 (by omega)
            clear hd
            go_enter Try.func7, Try.ntmps7
            go_wp2_with (first
              | (go_at_call 14; (with_reducible refine (awake4_st w _ ?c2).mono ?_); (case c2 => repeat (first | assumption | exact Below.refl _ _ | apply below_alloc | apply below_drawn | apply below_drew)); rintro e w' ⟨rfl, hb⟩)
              | (go_at_call 17; (with_reducible refine (name_st w _ _ _ ?c1 ?c2).mono ?_); (case c1 => (first | omega | (simp only [ByteArray.size_append, lit_size, List.size_toArray, List.length_cons, List.length_nil, ByteArray.size_extract]; omega))); (case c2 => repeat (first | assumption | exact Below.refl _ _ | apply below_alloc | apply below_drawn | apply below_drew)); rintro e w' ⟨rfl, hb⟩)
              | (go_at_call 19; (with_reducible refine (dig_st w _ _ _ ?c1 ?c2).mono ?_); (case c1 => (first | omega | (simp only [ByteArray.size_append, lit_size, List.size_toArray, List.length_cons, List.length_nil, ByteArray.size_extract]; omega))); (case c2 => repeat (first | assumption | exact Below.refl _ _ | apply below_alloc | apply below_drawn | apply below_drew)); rintro e w' ⟨rfl, hb⟩))
            go_ret
            exact ⟨rfl, by repeat (first | assumption | exact Below.refl _ _ | apply below_alloc | apply below_drawn | apply below_drew)⟩
    · have h1' : ¬ (300 : Int) < (a0.size : Int) := by omega
      have h2' : (300 : Int) < (a1.size : Int) := by omega
      go_enter Try.func7, Try.ntmps7
      go_wp2_with (go_at_call 14; (with_reducible refine (awake4_st w _ ?c2).mono ?_); (case c2 => repeat (first | assumption | exact Below.refl _ _ | apply below_alloc | apply below_drawn | apply below_drew)); rintro e w' ⟨rfl, hb⟩)
      go_ret
      exact ⟨rfl, by repeat (first | assumption | exact Below.refl _ _ | apply below_alloc | apply below_drawn | apply below_drew)⟩
  · have h1' : (300 : Int) < (a0.size : Int) := by omega
    go_enter Try.func7, Try.ntmps7
    go_wp2_with (go_at_call 14; (with_reducible refine (awake4_st w _ ?c2).mono ?_); (case c2 => repeat (first | assumption | exact Below.refl _ _ | apply below_alloc | apply below_drawn | apply below_drew)); rintro e w' ⟨rfl, hb⟩)
    go_ret
    exact ⟨rfl, by repeat (first | assumption | exact Below.refl _ _ | apply below_alloc | apply below_drawn | apply below_drew)⟩
end Go.Proofs.Ytdhncfkbblfokaa.G
