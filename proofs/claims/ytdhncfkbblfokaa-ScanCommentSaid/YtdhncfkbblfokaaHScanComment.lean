/-
  The law ScanComment, walked: a comment counts for nothing up to the end of its line, whatever stands in it.
-/
import Derived.Test.YtdhncfkbblfokaaG8
import Derived.Test.YtdhncfkbblfokaaQ1
import Derived.Test.YtdhncfkbblfokaaR4
namespace Go.Proofs.Ytdhncfkbblfokaa.G
open Go.RowKit Go.Proofs.YtdhncfkbblfokaaW.PrintWords Go.Proofs.Ytdhncfkbblfokaa.M
set_option linter.unusedVariables false
set_option linter.unusedSimpArgs false

theorem cnt_full (p : Int → Bool) (l : List Int) (h : ∀ c ∈ l, p c = true) : cnt p l = l.length := by
  induction l with
  | nil => rfl
  | cons c l ih => rw [cnt_yes _ (h c (List.mem_cons_self ..)), ih (fun x hx => h x (List.mem_cons_of_mem _ hx)), List.length_cons]
theorem bl_comment_line (a b : List Int) (h : cnt noEnd a = a.length) (c : Int) (hc : isBl c = true) (hn : noEnd c = false) : bl false (35 :: (a ++ c :: b)) = a.length + 2 + bl false b := by
  have hh : noEnd 35 = true := by decide
  rw [bl_hash, cnt_yes _ hh, cnt_all h, cnt_no _ hn, List.drop_succ_cons, Nat.add_zero, List.drop_left, bl_blank _ hc]
  omega
theorem bl_comment_end (a : List Int) (h : cnt noEnd a = a.length) : bl false (35 :: a) = a.length + 1 := by
  have hh : noEnd 35 = true := by decide
  rw [bl_hash, cnt_yes _ hh, h, List.drop_succ_cons, List.drop_length, bl_nil]

set_option maxHeartbeats 1600000 in
set_option maxRecDepth 100000 in
theorem copperplatelaw04_ScanComment.walk (a0 a1 : ByteArray) (w : World) (w0 : a0.size ≤ 140737488351232) (w1 : a1.size ≤ 140737488351232) :
    Calls Try.prog 6 #[.string a0, .string a1] w fun e w' => e = .returned (.bool true) ∧ Below w.heap.size w w' := by
  have HAw := Lib.hid (fun W => Q.copperplatelaw04_awake.calls true W R.awake_true)
  by_cases h1 : a0.size ≤ 300
  · by_cases h2 : a1.size ≤ 300
    · have h1' : ¬ (300 : Int) < (a0.size : Int) := by omega
      have h2' : ¬ (300 : Int) < (a1.size : Int) := by omega
      go_enter Try.func6, Try.ntmps6
      go_wp2_with (go_at_call 14; (with_reducible refine (HAw.out _).mono ?_); rintro e W1 ⟨rfl, hb1⟩)
      clear HAw
      go_loopg [6] a0.size (fun gf s6 wx => wx = W1 ∧ ∃ j : Nat, s6 = .int .i64 j ∧ j + gf = a0.size ∧ Hid (∀ k : Nat, k < j → noEnd (bt a0 k) = true))
      case atStart => exact ⟨rfl, 0, rfl, by omega, Lib.hid (fun k hk => by omega)⟩
      case round =>
        obtain ⟨rfl, j, rfl, hj, HN⟩ := hrel
        cases gk with
        | zero =>
          obtain rfl : j = a0.size := by omega
          have hall : cnt noEnd (by_ a0) = a0.size := by
            rw [← by_length]
            apply cnt_full
            intro c hc
            obtain ⟨k, hk, e⟩ := List.mem_iff_getElem.1 hc
            rw [by_length] at hk
            have := bt_by a0 k (by simpa using hk)
            have hn := HN.out k hk
            simp only [Int.toNat_natCast] at this
            rw [List.getElem?_eq_getElem (by rw [by_length]; exact hk), e] at this
            rw [Option.some.inj this]; exact hn
          have hl := by_length a0
          have hv1 : blank (⟨#[35]⟩ ++ a0) 0 = 1 + (a0.size : Int) := by
            rw [blank_nil, by_append, show by_ ⟨#[35]⟩ = [35] from rfl, List.singleton_append, bl_comment_end _ (by omega)]; omega
          have hv2 : blank (⟨#[35]⟩ ++ a0 ++ ⟨#[10]⟩ ++ a1) 0 = 1 + (a0.size : Int) + 1 + blank a1 0 := by
            rw [blank_nil, blank_nil, by_append, by_append, by_append, show by_ ⟨#[35]⟩ = [35] from rfl, show by_ ⟨#[10]⟩ = [10] from rfl, List.append_assoc, List.singleton_append, List.cons_append, List.singleton_append, bl_comment_line _ _ (by omega) 10 (by decide) (by decide)]; omega
          have hv3 : blank (⟨#[35]⟩ ++ a0 ++ ⟨#[13]⟩ ++ a1) 0 = 1 + (a0.size : Int) + 1 + blank a1 0 := by
            rw [blank_nil, blank_nil, by_append, by_append, by_append, show by_ ⟨#[35]⟩ = [35] from rfl, show by_ ⟨#[13]⟩ = [13] from rfl, List.append_assoc, List.singleton_append, List.cons_append, List.singleton_append, bl_comment_line _ _ (by omega) 13 (by decide) (by decide)]; omega
          have hv4 : blank (⟨#[32, 44, 9]⟩ ++ a1) 0 = 3 + blank a1 0 := by
            rw [blank_nil, blank_nil, by_append, show by_ ⟨#[32, 44, 9]⟩ = [32, 44, 9] from rfl]
            simp only [List.cons_append, List.nil_append]
            rw [bl_blank _ (by decide), bl_blank _ (by decide), bl_blank _ (by decide)]; omega
          have hB := blank_le a1 0
          obtain ⟨B, hBe⟩ : ∃ B, blank a1 0 = B := ⟨_, rfl⟩
          rw [hBe] at hv2 hv3 hv4 hB
          have hB0 : 0 ≤ B := hB.1
          have hB1 : B ≤ a1.size := hB.2 (by omega) (by omega)
          clear hB hall hl HN hj
          go_wp2_with (first | (go_at_call 21; (with_reducible refine (blank_st w _ _ _ ?c1 ?c2).mono ?_); (case c1 => (first | omega | (simp only [ByteArray.size_append, lit_size, List.size_toArray, List.length_cons, List.length_nil, ByteArray.size_extract]; omega))); (case c2 => repeat (first | assumption | exact Below.refl _ _ | apply below_alloc | apply below_drawn | apply below_drew)); rintro e w' ⟨rfl, hb⟩))
          go_ret
          exact ⟨rfl, by repeat (first | assumption | exact Below.refl _ _ | apply below_alloc | apply below_drawn | apply below_drew)⟩
        | succ g =>
          have hi : j < a0.size := by omega
          have hat : ∀ h : j < a0.size, (((a0[j]'h).toNat : Nat) : Int) = bt a0 j := fun h => bt_at a0 j h
          obtain ⟨b, hb⟩ : ∃ b, bt a0 j = b := ⟨_, rfl⟩
          simp only [hb] at hat
          have Hb := Lib.hid hb
          clear hb
          by_cases h10 : b = 10
          · have h10b : (b == 10) = true := by rw [h10]; rfl
            clear h10
            go_wp2
            go_ret
            exact ⟨rfl, by repeat (first | assumption | exact Below.refl _ _ | apply below_alloc | apply below_drawn | apply below_drew)⟩
          · have h10b : (b == 10) = false := beq_eq_false_iff_ne.2 h10
            by_cases h13 : b = 13
            · have h13b : (b == 13) = true := by rw [h13]; rfl
              clear h13
              go_wp2
              go_ret
              exact ⟨rfl, by repeat (first | assumption | exact Below.refl _ _ | apply below_alloc | apply below_drawn | apply below_drew)⟩
            · have h13b : (b == 13) = false := beq_eq_false_iff_ne.2 h13
              go_wp2
              go_roundg g
              case measure => omega
              case rel => exact ⟨rfl, j + 1, by go_num, by omega, Lib.hid (fun k hk => by
                rcases (show k < j ∨ k = j by omega) with h | rfl
                · exact HN.out k h
                · rw [Hb.out]; simp [noEnd, h10, h13])⟩
    · have h1' : ¬ (300 : Int) < (a0.size : Int) := by omega
      have h2' : (300 : Int) < (a1.size : Int) := by omega
      go_enter Try.func6, Try.ntmps6
      go_wp2_with (go_at_call 14; (with_reducible refine (HAw.out _).mono ?_); rintro e W1 ⟨rfl, hb1⟩)
      go_ret
      exact ⟨rfl, by repeat (first | assumption | exact Below.refl _ _ | apply below_alloc | apply below_drawn | apply below_drew)⟩
  · have h1' : (300 : Int) < (a0.size : Int) := by omega
    go_enter Try.func6, Try.ntmps6
    go_wp2_with (go_at_call 14; (with_reducible refine (HAw.out _).mono ?_); rintro e W1 ⟨rfl, hb1⟩)
    go_ret
    exact ⟨rfl, by repeat (first | assumption | exact Below.refl _ _ | apply below_alloc | apply below_drawn | apply below_drew)⟩
end Go.Proofs.Ytdhncfkbblfokaa.G
