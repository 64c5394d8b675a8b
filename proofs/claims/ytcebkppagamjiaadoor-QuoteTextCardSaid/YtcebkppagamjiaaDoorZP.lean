/-
  The laws QuoteBack, QuoteText, over what their texts compute.
-/
import Derived.Test.YtcebkppagamjiaaDoorYP2
import Derived.Test.YtcebkppagamjiaaDoorWC
import Derived.Test.YtcebkppagamjiaaDoorZ1
namespace Go.Proofs.YtcebkppagamjiaaDoor.G
open Go.RowKit Go.Proofs.YtcebkppagamjiaaDoor.Z Go.Proofs.YtcebkppagamjiaaDoorW.PrintWords Go.Proofs.YtcebkppagamjiaaDoor.M
set_option linter.unusedVariables false
set_option linter.unusedSimpArgs false

/-- A string at the head of a text. -/
def sL (l : List Int) : Bool × List Int × Nat := if l.getD 0 0 = 34 then ((strB (l.drop 1)).1, (strB (l.drop 1)).2.1, 1 + (strB (l.drop 1)).2.2) else (false, [], 0)
theorem sL_no {l : List Int} (h : (sL l).1 = false) : (sL l).2.1 = [] := by
  unfold sL at *
  split
  · rename_i q; rw [if_pos q] at h; exact strB_no _ h
  · rfl
theorem sL_quote (m : List Int) : sL (34 :: m) = ((strB m).1, (strB m).2.1, 1 + (strB m).2.2) := by
  unfold sL; rw [if_pos (show (34 :: m : List Int).getD 0 0 = 34 from rfl)]; rfl
theorem sL_done {b t : List Int} (h : Str b t) (m : List Int) : sL (34 :: (b ++ 34 :: m)) = (true, t, b.length + 2) := by
  rw [sL_quote, strB_done h]; show (true, t, 1 + (b.length + 1)) = _; rw [show 1 + (b.length + 1) = b.length + 2 by omega]
/-- A string that ends: what stands before the place, the string, and whatever behind. -/
theorem sL_tells {l : List Int} (h : (sL l).1 = true) : ∃ b m, Str b (sL l).2.1 ∧ l = 34 :: (b ++ 34 :: m) ∧ (sL l).2.2 = b.length + 2 := by
  unfold sL at *
  split at h
  · rename_i q
    rw [if_pos q]
    obtain ⟨b, m, h1, h2, h3⟩ := (strB_tells (l.drop 1).length (l.drop 1) (Nat.le_refl _)).1 h
    refine ⟨b, m, h1, ?_, ?_⟩
    · match l, q with
      | c :: k, q =>
        rw [List.getD_cons_zero] at q
        rw [q, ← h2]; rfl
    · show 1 + _ = _; rw [h3]; omega
  · cases h
theorem sL_le (l : List Int) : (sL l).1 = false → (sL l).2.2 ≤ l.length := by
  intro h
  unfold sL at *
  split
  · rename_i q
    rw [if_pos q] at h
    have := (strB_tells (l.drop 1).length (l.drop 1) (Nat.le_refl _)).2 h
    have hl : l ≠ [] := fun e => by rw [e] at q; exact absurd q (by decide)
    have := List.length_pos_iff.2 hl
    rw [List.length_drop] at *
    show 1 + _ ≤ _
    omega
  · exact Nat.zero_le _
theorem strAt_nat (s : ByteArray) (n : Nat) : strAt s n = ((sL (at_ s n)).1, (sL (at_ s n)).2.1, (n : Int) + (sL (at_ s n)).2.2) := by
  unfold strAt sL
  rw [hasB_head (by omega)]
  have e : (at_ s n).drop 1 = at_ s ((n : Int) + 1) := by rw [at_drop]; rfl
  by_cases q : (at_ s n).getD 0 0 = 34
  · rw [if_pos (decide_eq_true q), if_pos q, e]
    show (_, _, _) = (_, _, _)
    simp only [Prod.mk.injEq, true_and]
    omega
  · rw [if_neg (by simpa using q), if_neg q]
    show (_, _, _) = (_, _, _)
    simp
theorem strAt_zero (s : ByteArray) : strAt s 0 = ((sL (by_ s)).1, (sL (by_ s)).2.1, ((sL (by_ s)).2.2 : Int)) := by
  have := strAt_nat s 0
  rw [show ((0 : Nat) : Int) = 0 from rfl, at_zero, Int.zero_add] at this
  exact this
theorem it_len {e t : List Int} (h : It e t) : t.length ≤ 4 * e.length := by
  cases h with
  | esc _ h h0 =>
    have hne : (esc e).2 ≠ 0 := by rw [h]; have := List.length_pos_iff.2 h0; omega
    obtain ⟨r, hr, e1, _⟩ := esc_some hne
    have := enc_len r
    have := List.length_pos_iff.2 h0
    rw [e1]; omega
  | plain r h _ _ _ _ => omega
theorem str_len {b t : List Int} (h : Str b t) : t.length ≤ 4 * b.length := by
  induction h with
  | nil => simp
  | cons hi _ ih => have := it_len hi; rw [List.length_append, List.length_append]; omega
theorem sL_len (l : List Int) : (sL l).2.1.length ≤ 4 * l.length := by
  cases h : (sL l).1 with
  | false => rw [sL_no h]; simp
  | true =>
    obtain ⟨b, m, h1, h2, _⟩ := sL_tells h
    have := str_len h1
    have hl : l.length = b.length + m.length + 2 := by conv => lhs; rw [h2]
                                                       simp; omega
    omega
theorem sL_mayv (l : List Int) : mayp isv (sL l).2.1 = true := by
  cases h : (sL l).1 with
  | false => rw [sL_no h, mayp_nil]
  | true =>
    obtain ⟨b, m, h1, _⟩ := sL_tells h
    exact str_mayv h1
theorem mayv_range {l : List Int} (h : mayp isv l = true) : ∀ c ∈ l, 0 ≤ c ∧ c ≤ 255 := by
  obtain ⟨rs, h1, h2⟩ := mayp_runes h
  rw [h2]
  intro c hc
  obtain ⟨r, hr, hcr⟩ := List.mem_flatMap.1 hc
  exact enc_range (h1 r hr) c hcr
theorem fz_String {s : ByteArray} (h : s.size ≤ 1000000) : text_StringA.f s 0 = some (ba (sL (by_ s)).2.1, ((sL (by_ s)).2.2 : Int), (sL (by_ s)).1) := by
  show text_String.f s 0 = _
  unfold text_String.f
  rw [if_pos h]
  unfold StT StI StB
  rw [strAt_zero]
theorem sL_quo {l : List Int} (h : mayp isv l = true) (m : List Int) : sL (quo l ++ m) = (true, l, (quo l).length) := by
  rw [quo_yes h]
  have := sL_done (str_qb h) m
  rw [show 34 :: (qb l ++ [34]) ++ m = 34 :: (qb l ++ 34 :: m) by simp, this]
  simp
theorem awake8z : Go.Proofs.YtcebkppagamjiaaDoor.Z.copperplatelaw08_awake.f = some true := awake8
theorem back_loop (v q T : ByteArray) (I : Int) (hv : v.size ≤ 300) (hq : q = ba (quo (by_ v))) (hm : mayp isv (by_ v) = true) (hT : T = v) (hI : I = (q.size : Int)) : ∀ (r k K : Nat), k + r = q.size → r + 2 ≤ K → copperplatelaw08_QuoteBack.l0 K v q T I true k = some true := by
  have hlen := qb_len hm
  rw [by_length] at hlen
  have hs : q.size = (qb (by_ v)).length + 2 := by rw [hq, ba_size, quo_yes hm]; simp
  have hby : by_ q = 34 :: (qb (by_ v) ++ [34]) := by rw [hq, by_ba (quo_range _), quo_yes hm]
  have low : ∀ c ∈ by_ q, 32 ≤ c := by
    intro c hc
    rw [hby] at hc
    rcases List.mem_cons.1 hc with rfl | hc
    · omega
    · rcases List.mem_append.1 hc with hc | hc
      · exact qb_low hm c hc
      · rw [List.mem_singleton.1 hc]; omega
  intro r
  induction r with
  | zero =>
    intro k K h hK
    obtain ⟨j, rfl⟩ : ∃ j, K = j + 1 := ⟨K - 1, by omega⟩
    have hM : mayp isc (by_ q) = true := by
      have one : ∀ m, mayp isc (34 :: m) = mayp isc m := fun m => by
        have := mayp_enc sort_isc (r := 34) (by decide) m
        exact this
      rw [hby, one, qb_may hm, one, mayp_nil]
    have hL : ((quo (by_ v)).length : Int) = (q.size : Int) := by rw [hq, ba_size]
    rw [copperplatelaw08_QuoteBack.l0, if_neg (by omega), if_pos rfl, if_pos (by rw [hT]), if_pos hI, fu_May (s := q) (by omega), hM]
    simp only [Option.bind_some, if_true]
    rw [show quote_LongA.f v = some ((quo (by_ v)).length : Int) from fq_Long (by omega), Option.bind_some, if_pos hL, w64 (n := (v.size : Int) + 2) (by omega) (by omega), if_pos (by omega), w64 (n := 6 * (v.size : Int)) (by omega) (by omega), w64 (by omega) (by omega), decide_eq_true (by omega)]
  | succ r ih =>
    intro k K h hK
    obtain ⟨j, rfl⟩ : ∃ j, K = j + 1 := ⟨K - 1, by omega⟩
    have hg := bt_by q k (by omega)
    have hc := low _ (List.mem_of_getElem? hg)
    rw [copperplatelaw08_QuoteBack.l0, if_pos (by omega), if_pos (by omega), if_neg (by omega), w64 (by omega) (by omega)]
    exact ih (k + 1) j (by omega) (by omega)
theorem quoteBack_pure : copperplatelaw08_QuoteBack.Pure := by
  intro v b hv hb
  refine ⟨6 * v.size + 10, ?_⟩
  unfold copperplatelaw08_QuoteBack.f
  rw [awake8z]
  simp only [Option.bind_some, if_true]
  by_cases h1 : (v.size : Int) > 300
  · rw [if_pos h1, copperplatelaw08_QuoteBack.j0, if_pos rfl]
  rw [if_neg h1]
  by_cases h2 : (b.size : Int) > 300
  · rw [decide_eq_true h2, copperplatelaw08_QuoteBack.j0, if_pos rfl]
  rw [decide_eq_false h2, copperplatelaw08_QuoteBack.j0, if_neg (by decide), show quote_QuoteA.f v = some (ba (quo (by_ v)), mayp isv (by_ v)) from fq_Quote (by omega)]
  simp only [Option.bind_some]
  cases hm : mayp isv (by_ v) with
  | false =>
    rw [if_neg (by decide), quo_no hm, if_pos (by rw [ba_nil, Lib.toList_data]), show quote_MayA.f v = some (mayp isv (by_ v)) from fq_May (by omega), hm, Option.bind_some, if_neg (by decide), show quote_LongA.f v = some ((quo (by_ v)).length : Int) from fq_Long (by omega), quo_no hm]
    rfl
  | true =>
    have hlen := qb_len hm
    rw [by_length] at hlen
    have hs : (ba (quo (by_ v))).size = (qb (by_ v)).length + 2 := by rw [ba_size, quo_yes hm]; simp
    have hby : by_ (ba (quo (by_ v)) ++ b) = quo (by_ v) ++ by_ b := by rw [by_append, by_ba (quo_range _)]
    rw [if_pos rfl, if_pos (by omega), fz_String (by rw [ByteArray.size_append]; omega), hby, sL_quo hm]
    simp only [Option.bind_some]
    exact back_loop v _ _ _ (by omega) rfl hm (ba_by v) (by rw [ba_size]) (ba (quo (by_ v))).size 0 _ (by omega) (by omega)
theorem quoteText_pure : copperplatelaw08_QuoteText.Pure := by
  intro s hs
  refine ⟨1, ?_⟩
  unfold copperplatelaw08_QuoteText.f
  rw [awake8z]
  simp only [Option.bind_some, if_true]
  rw [copperplatelaw08_QuoteText.j0]
  by_cases h1 : (s.size : Int) > 600
  · rw [decide_eq_true h1, if_pos rfl]
  have hl := sL_len (by_ s)
  rw [by_length] at hl
  have hm := sL_mayv (by_ s)
  obtain ⟨t, ht⟩ : ∃ t, (sL (by_ s)).2.1 = t := ⟨_, rfl⟩
  have hS := fz_String (s := s) (by omega)
  rw [ht] at hl hm hS
  have hbt : by_ (ba t) = t := by_ba (mayv_range hm)
  have hlen := qb_len hm
  have hz : (ba (quo t)).size = (qb t).length + 2 := by rw [ba_size, quo_yes hm]; simp
  have hQ : quote_QuoteA.f (ba t) = some (ba (quo t), true) := by
    have : quote_QuoteA.f (ba t) = some (ba (quo (by_ (ba t))), mayp isv (by_ (ba t))) := fq_Quote (by rw [ba_size]; omega)
    rw [this, hbt, hm]
  have hW := fz_String (s := ba (quo t)) (by omega)
  have hq := sL_quo hm []
  rw [List.append_nil] at hq
  rw [by_ba (quo_range _), hq] at hW
  rw [decide_eq_false h1, if_neg (by decide), hS]
  simp only [Option.bind_some]
  rw [hQ]
  simp only [Option.bind_some]
  rw [hW]
  simp only [Option.bind_some, if_true]
  rw [ba_size, beq_self_eq_true]
  split <;> rfl
end Go.Proofs.YtcebkppagamjiaaDoor.G
