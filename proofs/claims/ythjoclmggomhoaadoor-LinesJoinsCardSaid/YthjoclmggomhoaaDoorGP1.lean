/-
  The laws over lines, over what their texts compute: what they share; LinesMargin, LinesOne. Plain Lean, no program's walk in sight.
-/
import Derived.Test.YthjoclmggomhoaaDoorS8
import Derived.IntWalk
import Derived.Test.YthjoclmggomhoaaDoorQ1
import Derived.Test.YthjoclmggomhoaaDoorQ6
import Derived.Test.YthjoclmggomhoaaDoorQ7
namespace Go.Proofs.YthjoclmggomhoaaDoor.G
open Go.RowKit Go.Proofs.YthjoclmggomhoaaDoor.Q Go.Proofs.YthjoclmggomhoaaDoorW.PrintWords Go.Proofs.YthjoclmggomhoaaDoor.M
set_option linter.unusedVariables false
set_option linter.unusedSimpArgs false

theorem w64' {n : Int} (h0 : -9223372036854775808 ≤ n) (h1 : n ≤ 9223372036854775807) : wrap64 n = n := IntWalk.wrap64_in n ⟨h0, h1⟩
theorem f_Lines {s : ByteArray} (h : s.size ≤ 1000000) : lines_Lines.f s = some (lns s) := if_pos h
theorem f_Over {s : ByteArray} (h : s.size ≤ 1000000) (v : Int) : lines_Over.f s v = some (over (by_ s) v) := if_pos h
theorem f_Widest {s : ByteArray} (h : s.size ≤ 1000000) : lines_Widest.f s = some ((widest (by_ s) : Nat) : Int) := if_pos h
theorem f_Margin {s : ByteArray} (h : s.size ≤ 140737488351232) : lines_Margin.f s = some ((marg (by_ s) : Nat) : Int) := if_pos h
theorem f_Clean {s : ByteArray} (h : s.size ≤ 1000000) : lines_Clean.f s = some (clean (by_ s)) := if_pos h
theorem f_Cols {s : ByteArray} (h : s.size ≤ 1000000) : span_Cols.f s = some ((cols (by_ s) : Nat) : Int) := if_pos h
theorem fu_May {s : ByteArray} (h : s.size ≤ 1000000) : utf_May.f s = some (mayp isc (by_ s)) := if_pos h
theorem lns_len (s : ByteArray) : (lns s).length = (spl (by_ s)).length := by rw [← lns_by, List.length_map]
theorem cols_lows : ∀ (l : List Int), (∀ c ∈ l, c < 128) → cols l = l.length
  | [], _ => cols_nil
  | c :: l, h => by rw [cols_low (h c (by simp)), cols_lows l (fun x hx => h x (by simp [hx]))]; rfl
theorem may_lows : ∀ (l : List Int), (∀ c ∈ l, c < 128 ∧ isc c = true) → mayp isc l = true
  | [], _ => mayp_nil _
  | c :: l, h => by rw [may_low (h c (by simp)).1 (h c (by simp)).2, may_lows l (fun x hx => h x (by simp [hx]))]
theorem awake21 : copperplatelaw21_awake.f = some true := by
  have a1 : by_ (⟨#[97, 10, 32, 32, 98]⟩ : ByteArray) = [97, 10, 32, 32, 98] := rfl
  have a2 : by_ (⟨#[32, 32, 98]⟩ : ByteArray) = [32, 32, 98] := rfl
  have a3 : by_ (⟨#[97, 32, 10, 98]⟩ : ByteArray) = [97, 32, 10, 98] := rfl
  have l1 : (lns (⟨#[97, 10, 32, 32, 98]⟩ : ByteArray)).length = 2 := by rw [lns_len, a1]; decide
  have s1 : spl [97, 10, 32, 32, 98] = [[97], [32, 32, 98]] := by decide
  have c1 : cols [97] = 1 := cols_lows _ (by decide)
  have c2 : cols [32, 32, 98] = 3 := cols_lows _ (by decide)
  have w1 : widest [97, 10, 32, 32, 98] = 3 := by unfold widest; rw [s1]; show most [cols [97], cols [32, 32, 98]] = 3; rw [c1, c2]; decide
  have m1 : marg [32, 32, 98] = 2 := by decide
  have k1 : clean [97, 10, 32, 32, 98] = true := by unfold clean; rw [may_lows _ (by decide)]; decide
  have k2 : clean [97, 32, 10, 98] = false := by unfold clean; rw [may_lows _ (by decide)]; decide
  have o1 : over [97, 10, 32, 32, 98] 2 = [1] := by
    unfold over; rw [s1]
    show (if (2 : Int) < (cols [97] : Int) then _ else if (2 : Int) < (cols [32, 32, 98] : Int) then _ else _) = _
    rw [c1, c2]; rfl
  unfold copperplatelaw21_awake.f
  rw [f_Lines (by decide), f_Widest (by decide), f_Margin (by decide), f_Clean (by decide), f_Clean (by decide), f_Over (by decide), a1, a2, a3, w1, m1, k1, k2, o1]
  simp only [Option.bind_some]
  rw [l1]
  rfl
theorem bt_mem (s : ByteArray) (k : Nat) (h : k < s.size) : bt s k ∈ by_ s := List.mem_of_getElem? (bt_by s k (by omega))
theorem take_succ_by (s : ByteArray) (k : Nat) (h : k < s.size) : (by_ s).take (k + 1) = (by_ s).take k ++ [bt s k] := by
  have hg := bt_by s k (by omega)
  rw [Int.toNat_natCast] at hg
  rw [List.take_add_one, hg]; rfl
theorem linesMargin_pure : copperplatelaw21_LinesMargin.Pure := by
  intro s hs
  refine ⟨s.size + 5, ?_⟩
  unfold copperplatelaw21_LinesMargin.f
  rw [awake21]
  simp only [Option.bind_some, if_true]
  rw [f_Margin hs, Option.bind_some]
  by_cases h2 : (s.size : Int) > 600
  · rw [if_pos h2, copperplatelaw21_LinesMargin.j0, if_pos rfl, if_pos rfl, decide_eq_true h2]
  · have h1 : s.size ≤ 1000000 := by omega
    have hm : marg (by_ s) ≤ s.size := by have := cnt_le isSp (by_ s); rw [by_length] at this; exact this
    rw [if_neg h2, if_neg (by omega), decide_eq_false (by omega), copperplatelaw21_LinesMargin.j0, if_neg (by decide)]
    obtain ⟨m, hmm⟩ : ∃ m, marg (by_ s) = m := ⟨_, rfl⟩
    have hcol := cols_marg (by_ s)
    have hd : marg ((by_ s).drop (marg (by_ s))) = 0 := cnt_drop isSp (by_ s)
    have hst : m < s.size → bt s m ≠ 32 := by
      intro h e
      rcases cnt_stop isSp (by_ s) with q | ⟨c, l, q, hc⟩
      · have := List.drop_eq_nil_iff.1 q; rw [by_length] at this; unfold marg at hmm; omega
      · have hg := bt_by s m (by omega)
        rw [Int.toNat_natCast] at hg
        have : (by_ s)[m]? = some c := by
          have h0 : ((by_ s).drop (cnt isSp (by_ s)))[0]? = some c := by rw [q]; rfl
          rw [List.getElem?_drop] at h0
          unfold marg at hmm
          rw [hmm, Nat.add_zero] at h0; exact h0
        rw [this] at hg
        cases hg
        rw [e] at hc; cases hc
    have hall : ∀ k, k < m → bt s k = 32 := by
      intro k hk
      obtain ⟨c, q1, q2⟩ := cnt_get (p := isSp) (l := by_ s) (k := k) (by unfold marg at hmm; omega)
      have hg := bt_by s k (by omega)
      rw [Int.toNat_natCast, q1] at hg
      cases hg
      simpa [isSp] using q2
    rw [hmm] at hm hcol hd ⊢
    have hx : by_ (s.extract m s.size) = (by_ s).drop m := by
      rw [by_extract, List.take_of_length_le (by rw [by_length]; exact Nat.le_refl _)]
    have loop : ∀ (r k K : Nat), k + r = m → r + 2 ≤ K → copperplatelaw21_LinesMargin.l0 K s m k = some true := by
      intro r
      induction r with
      | zero =>
        intro k K h hK
        obtain ⟨j, rfl⟩ : ∃ j, K = j + 1 := ⟨K - 1, by omega⟩
        have hsz : (s.extract m s.size).size ≤ 1000000 := by rw [ByteArray.size_extract]; omega
        have hcb : cols ((by_ s).drop m) ≤ 1000000 := by
          have := cols_le _ ((by_ s).drop m) (Nat.le_refl _); rw [List.length_drop, by_length] at this; omega
        rw [copperplatelaw21_LinesMargin.l0, if_neg (by omega), if_pos (by omega), if_pos (by omega), Int.toNat_natCast, f_Margin (Nat.le_trans hsz (by decide)), hx, hd, Option.bind_some, if_pos (show ((0 : Nat) : Int) = 0 from rfl), f_Cols h1, Option.bind_some, f_Cols hsz, hx, Option.bind_some, w64' (by omega) (by omega), if_pos (by omega)]
        by_cases q : (m : Int) = (s.size : Int)
        · rw [if_pos q]
        · rw [if_neg q, if_pos (by omega), bne_iff_ne.2 (hst (by omega))]
      | succ r ih =>
        intro k K h hK
        obtain ⟨j, rfl⟩ : ∃ j, K = j + 1 := ⟨K - 1, by omega⟩
        rw [copperplatelaw21_LinesMargin.l0, if_pos (by omega), if_pos (by omega), if_pos (by omega), if_pos (hall k (by omega)), w64' (by omega) (by omega)]
        exact ih (k + 1) j (by omega) (by omega)
    exact loop m 0 (s.size + 4) (by omega) (by omega)
theorem last_by (s : ByteArray) (h : 0 < s.size) : (by_ s).getLast? = some (bt s ((s.size : Int) - 1)) := by
  rw [List.getLast?_eq_getElem?, by_length]
  have hg := bt_by s ((s.size : Int) - 1) (by omega)
  rw [show ((s.size : Int) - 1).toNat = s.size - 1 by omega] at hg
  exact hg
theorem endSp_last (s : ByteArray) (h : 0 < s.size) : endSp (by_ s) = (bt s ((s.size : Int) - 1) == 32) := by
  unfold endSp
  rw [last_by s h, Bool.eq_iff_iff, decide_eq_true_eq, beq_iff_eq]
  exact ⟨fun q => Option.some.inj q, fun q => by rw [q]⟩
theorem one_j2 (s : ByteArray) (hs : s.size ≤ 600) (h10 : ∀ c ∈ by_ s, c ≠ 10) (b : Bool) (hb : endSp (by_ s) = b) (K : Nat) (hK : 1 ≤ K) : copperplatelaw21_LinesOne.j2 K s (odd (by_ s)) b = some true := by
  obtain ⟨j, rfl⟩ : ∃ j, K = j + 1 := ⟨K - 1, by omega⟩
  have hsz : s.size ≤ 1000000 := by omega
  have hsp := spl_plain h10
  have hl : ((lns s).length : Int) = 1 := by rw [lns_len, hsp]; rfl
  have hw : widest (by_ s) = cols (by_ s) := by unfold widest; rw [hsp]; show max (cols (by_ s)) 0 = _; omega
  have hc : clean (by_ s) = (mayp isc (by_ s) && (!odd (by_ s) && !b)) := by
    unfold clean neat
    rw [hsp, ← hb]
    simp
  rw [copperplatelaw21_LinesOne.j2, f_Lines hsz, Option.bind_some, if_pos hl, f_Widest hsz, Option.bind_some, f_Cols hsz, Option.bind_some, hw, if_pos rfl, f_Clean hsz, fu_May hsz, hc]
  simp only [Option.bind_some]
  cases mayp isc (by_ s) <;> cases odd (by_ s) <;> cases b <;> rfl
theorem one_loop (s : ByteArray) (hs : s.size ≤ 600) : ∀ (r k K : Nat), k + r = s.size → r + 3 ≤ K → (∀ c ∈ (by_ s).take k, c ≠ 10) → copperplatelaw21_LinesOne.l0 K s (odd ((by_ s).take k)) k = some true := by
  intro r
  induction r with
  | zero =>
    intro k K h hK hp
    obtain ⟨j, rfl⟩ : ∃ j, K = j + 1 := ⟨K - 1, by omega⟩
    have e : (by_ s).take k = by_ s := List.take_of_length_le (by rw [by_length]; omega)
    rw [e] at hp ⊢
    rw [copperplatelaw21_LinesOne.l0, if_neg (by omega)]
    by_cases h0 : 0 < s.size
    · rw [if_pos (by omega), w64' (by omega) (by omega), if_pos (by omega), if_pos (by omega)]
      exact one_j2 s hs hp _ (endSp_last s h0) j (by omega)
    · rw [if_neg (by omega)]
      have hn : by_ s = [] := List.eq_nil_of_length_eq_zero (by rw [by_length]; omega)
      exact one_j2 s hs hp false (by rw [hn]; rfl) j (by omega)
  | succ r ih =>
    intro k K h hK hp
    obtain ⟨j, rfl⟩ : ∃ j, K = j + 1 := ⟨K - 1, by omega⟩
    have hk : k < s.size := by omega
    have ht := take_succ_by s k hk
    rw [copperplatelaw21_LinesOne.l0, if_pos (by omega), if_pos (by omega)]
    by_cases c1 : bt s k = 10
    · rw [if_pos c1]
    rw [if_neg c1, w64' (by omega) (by omega)]
    have ho : odd ((by_ s).take (k + 1)) = (odd ((by_ s).take k) || (decide (bt s k = 9 ∨ bt s k = 13))) := by
      rw [ht, odd_append]; simp [odd]
    have next := ih (k + 1) j (by omega) (by omega) (fun c hc => by
      rw [ht] at hc
      rcases List.mem_append.1 hc with hc | hc
      · exact hp c hc
      · rw [List.mem_singleton.1 hc]; exact c1)
    rw [ho] at next
    cases hb : odd ((by_ s).take k) with
    | true =>
      rw [hb, Bool.true_or] at next
      rw [if_pos rfl]; exact next
    | false =>
      rw [hb, Bool.false_or] at next
      rw [if_neg (by decide)]
      by_cases c2 : bt s k = 9
      · rw [if_pos c2]
        rw [decide_eq_true (.inl c2)] at next; exact next
      · rw [if_neg c2]
        have e : (bt s k == 13) = decide (bt s k = 9 ∨ bt s k = 13) := by
          rw [Bool.eq_iff_iff, beq_iff_eq, decide_eq_true_eq]; omega
        rw [e]; exact next
theorem linesOne_pure : copperplatelaw21_LinesOne.Pure := by
  intro s hs
  refine ⟨s.size + 5, ?_⟩
  unfold copperplatelaw21_LinesOne.f
  rw [awake21]
  simp only [Option.bind_some, if_true]
  rw [copperplatelaw21_LinesOne.j0]
  by_cases h1 : (s.size : Int) > 600
  · rw [decide_eq_true h1, if_pos rfl]
  rw [decide_eq_false h1, if_neg (by decide)]
  exact one_loop s (by omega) s.size 0 (s.size + 4) (by omega) (by omega) (fun c hc => by rw [List.take_zero] at hc; cases hc)
end Go.Proofs.YthjoclmggomhoaaDoor.G
