/-
  The law FoldTells, over what its text computes: the document's block strings, lines, indents, folding.
-/
import Derived.Test.YthcneciafiaphaaDoorEP0
import Derived.Test.YthcneciafiaphaaDoorRN
import Derived.Test.YthcneciafiaphaaDoorQ5
import Derived.Test.YthcneciafiaphaaDoorQ1
import Derived.Test.YthcneciafiaphaaDoorQ2
import Derived.Test.YthcneciafiaphaaDoorQ3
import Derived.Test.YthcneciafiaphaaDoorQ4
namespace Go.Proofs.YthcneciafiaphaaDoor.G
open Go.RowKit Go.Proofs.YthcneciafiaphaaDoor.Q Go.Proofs.YthcneciafiaphaaDoorW.PrintWords Go.Proofs.YthcneciafiaphaaDoor.M
set_option linter.unusedVariables false
set_option linter.unusedSimpArgs false

theorem toList3 (x : ByteArray) : (x.toList == ([34, 34, 34] : List UInt8)) = decide (by_ x = [34, 34, 34]) := by
  rw [Bool.eq_iff_iff, beq_iff_eq, decide_eq_true_eq]
  constructor
  · intro h
    have e : x.data.toList = [34, 34, 34] := by rw [← Lib.toList_data x]; exact h
    unfold by_; rw [e]; rfl
  · exact three_b
theorem ref_three (s : ByteArray) (hs : s.size ≤ 1000000) (i : Int) : copperplateref07_three.f s i = some (decide (0 ≤ i) && three (at_ s i)) := by
  unfold copperplateref07_three.f
  by_cases h0 : i ≥ 0
  · rw [if_pos h0, decide_eq_true h0, Bool.true_and]
    obtain ⟨n, rfl⟩ : ∃ n : Nat, i = n := ⟨i.toNat, by omega⟩
    by_cases h1 : (n : Int) < s.size
    · have hl := at_length s n (by omega) (by omega)
      rw [if_pos h1, w64' (n := (s.size : Int) - n) (by omega) (by omega)]
      by_cases h2 : (s.size : Int) - n ≥ 3
      · rw [if_pos h2, if_pos (by omega), w64' (by omega) (by omega), if_pos (by omega), if_pos (by omega), show ((n : Int) + 3).toNat = n + 3 by omega, Int.toNat_natCast, toList3, own_by]
        rfl
      · rw [if_neg h2]
        cases q : three (at_ s n) with
        | false => rfl
        | true =>
          obtain ⟨m, hm⟩ := three_iff.1 q
          rw [hm] at hl
          simp only [List.length_cons] at hl
          omega
    · rw [if_neg h1, at_nil s n (by omega)]; rfl
  · rw [if_neg h0, decide_eq_false h0]; rfl
/-! ### The document's block strings -/
def rawOut (x : ByteArray) (n : Nat) (q : Bool × List Int × Nat) : ByteArray × Int × Bool := if q.1 = true then (x ++ ba q.2.1, ((n + q.2.2 : Nat) : Int), true) else (⟨#[]⟩, ((n + q.2.2 : Nat) : Int), false)
theorem rawOut_radd (x : ByteArray) (n k : Nat) (t : List Int) (q : Bool × List Int × Nat) : rawOut (x ++ ba t) (n + k) q = rawOut x n (radd k t q) := by
  unfold rawOut radd
  cases h : q.1 with
  | true => rw [if_pos rfl, if_pos rfl, if_pos rfl, ba_append, ByteArray.append_assoc, Nat.add_assoc]
  | false => simp only [Bool.false_eq_true, if_false, Nat.add_assoc]
theorem thre4_it (s : ByteArray) (n : Nat) (h : n < s.size) (h3 : three (at_ s n) = false) : thre4 (at_ s n) = (decide (bt s n = 92) && three (at_ s ((n : Int) + 1))) := by
  rw [at_cons s n (by omega) (by omega)]
  unfold thre4 three
  rw [Bool.eq_iff_iff, Bool.and_eq_true, decide_eq_true_eq, decide_eq_true_eq, decide_eq_true_eq]
  rw [List.take_succ_cons]
  constructor
  · intro e; exact ⟨(List.cons.inj e).1, (List.cons.inj e).2⟩
  · rintro ⟨e1, e2⟩; rw [e1, e2]
theorem ref_Raw_l0 (s : ByteArray) (hs : s.size ≤ 600) : ∀ (r n K : Nat) (x : ByteArray), n + r = s.size → 2 * r + 30 ≤ K → x.size ≤ n → copperplateref07_Raw.l0 K s x n = some (rawOut x n (rawB (at_ s n))) := by
  intro r
  induction r using Nat.strongRecOn with
  | _ r ih =>
    intro n K x h hK hx
    obtain ⟨j, rfl⟩ : ∃ j, K = j + 1 := ⟨K - 1, by omega⟩
    rw [copperplateref07_Raw.l0]
    by_cases h0 : n = s.size
    · rw [if_neg (by omega), at_nil s n (by omega), rawB_nil]; rfl
    have hlt : n < s.size := by omega
    rw [if_pos (by omega), ref_three s (by omega), Option.bind_some, w64' (n := (n : Int) + 1) (by omega) (by omega), ref_three s (by omega), Option.bind_some, decide_eq_true (show (0 : Int) ≤ (n : Int) by omega), Bool.true_and, decide_eq_true (show (0 : Int) ≤ (n : Int) + 1 by omega), Bool.true_and]
    have hl := at_length s n (by omega) (by omega)
    cases h3 : three (at_ s n) with
    | true =>
      rw [if_pos rfl, rawB_end h3, w64' (by omega) (by omega)]
      unfold rawOut
      rw [if_pos rfl, ba_nil, show x ++ (⟨#[]⟩ : ByteArray) = x from ByteArray.append_empty]
      rfl
    | false =>
      have h4 := thre4_it s n hlt h3
      rw [if_neg (by decide), if_pos (by omega)]
      have step : thre4 (at_ s n) = false → copperplateref07_Raw.j1 j s x n false = some (rawOut x n (rawB (at_ s n))) := by
        intro h4f
        obtain ⟨j, rfl⟩ : ∃ k, j = k + 1 := ⟨j - 1, by omega⟩
        have hle := nxp_le isc (at_ s n)
        have hnn : nxn s n = ((nxp isc (at_ s n)).2 : Int) := if_neg (by omega)
        rw [copperplateref07_Raw.j1, if_neg (by decide), ref_Next j (by omega) s n (by omega), Option.bind_some]
        simp only []
        rw [hnn]
        by_cases q : (nxp isc (at_ s n)).2 = 0
        · rw [if_pos (by omega), rawB_no h3 h4f q]; rfl
        · have hb := rawB_step h3 h4f q
          obtain ⟨m, hm⟩ : ∃ m, (nxp isc (at_ s n)).2 = m := ⟨_, rfl⟩
          rw [hm] at q hle hb ⊢
          have e1 : s.extract n (n + m) = ba ((at_ s n).take m) := by rw [← own_by, ba_by]
          rw [if_neg (by omega), if_pos (by omega), w64' (by omega) (by omega), if_pos (by omega), if_pos (by omega), show ((n : Int) + (m : Int)).toNat = n + m by omega, Int.toNat_natCast, if_pos (by rw [ByteArray.size_extract]; omega), e1,
            show (n : Int) + (m : Int) = ((n + m : Nat) : Int) by omega, ih (r - m) (by omega) (n + m) j _ (by omega) (by omega) (by rw [ByteArray.size_append, ba_size, List.length_take]; omega), rawOut_radd, hb, ← at_add s n m (by omega), show (n : Int) + (m : Int) = ((n + m : Nat) : Int) by omega]
      by_cases c : bt s n = 92
      · rw [if_pos c]
        cases h5 : three (at_ s ((n : Int) + 1)) with
        | true =>
          rw [decide_eq_true c, h5] at h4
          have h4t : thre4 (at_ s n) = true := h4
          have hb := rawB_esc h4t
          obtain ⟨m, hm⟩ := thre4_iff.1 h4t
          have hl4 : n + 4 ≤ s.size := by rw [hm] at hl; simp only [List.length_cons] at hl; omega
          obtain ⟨j, rfl⟩ : ∃ k, j = k + 1 := ⟨j - 1, by omega⟩
          rw [copperplateref07_Raw.j1, if_pos rfl, if_pos (by omega), w64' (by omega) (by omega), show (n : Int) + 4 = ((n + 4 : Nat) : Int) from rfl, show (⟨#[34, 34, 34]⟩ : ByteArray) = ba [34, 34, 34] from rfl, ih (r - 4) (by omega) (n + 4) j _ (by omega) (by omega) (by rw [ByteArray.size_append]; show x.size + 3 ≤ _; omega), rawOut_radd, hb, ← at_add s n 4 (by omega)]
          rfl
        | false =>
          rw [decide_eq_true c, h5] at h4
          exact step h4
      · rw [if_neg c]
        rw [decide_eq_false c] at h4
        exact step h4
theorem ref_Raw_f (K : Nat) (s : ByteArray) (i : Int) (hs : s.size ≤ 600) (hK : 1500 ≤ K) : copperplateref07_Raw.f K s i = some (ba (rawAt s i).2.1, (rawAt s i).2.2, (rawAt s i).1) := by
  unfold copperplateref07_Raw.f rawAt
  rw [ref_three s (by omega), Option.bind_some]
  by_cases h : i < 0 ∨ three (at_ s i) = false
  · have e : (decide (0 ≤ i) && three (at_ s i)) = false := by
      rcases h with h | h
      · rw [decide_eq_false (by omega)]; rfl
      · rw [h, Bool.and_false]
    rw [e, if_neg (by decide), if_pos h]; rfl
  · have h0 : 0 ≤ i := by omega
    have h3 : three (at_ s i) = true := by
      cases q : three (at_ s i) with
      | true => rfl
      | false => exact absurd (.inr q) h
    rw [if_neg h, decide_eq_true h0, h3, Bool.true_and, if_pos rfl]
    obtain ⟨m, hm⟩ := three_iff.1 h3
    have hsz : i + 3 + m.length = s.size := by
      by_cases c : i ≤ s.size
      · have := at_length s i h0 c
        rw [hm] at this
        simp only [List.length_cons] at this
        omega
      · have := at_nil s i (by omega)
        rw [hm] at this; cases this
    obtain ⟨n, hn⟩ : ∃ n : Nat, i + 3 = n := ⟨(i + 3).toNat, by omega⟩
    rw [hn, w64' (by omega) (by omega), ref_Raw_l0 s hs (s.size - n) n K ⟨#[]⟩ (by omega) (by omega) (Nat.zero_le _)]
    have hf := rawB_false (at_ s n)
    unfold rawOut
    cases q : (rawB (at_ s n)).1 with
    | true => rw [if_pos rfl, show (⟨#[]⟩ : ByteArray) ++ ba (rawB (at_ s n)).2.1 = ba (rawB (at_ s n)).2.1 from ByteArray.empty_append]; rfl
    | false => rw [if_neg (by decide), (hf q).1]; rfl
/-! ### The document's lines -/
def flw (x : List Int) (b : Bool) (l : List Int) : List (List Int) := (x ++ (fl b l).headD []) :: (fl b l).tail
theorem flw_nil (b : Bool) (l : List Int) : flw [] b l = fl b l := (fl_head b l).symm
theorem by_ext_nil (s : ByteArray) (i : Nat) : by_ (s.extract i i) = [] := by rw [by_extract, List.drop_eq_nil_iff, List.length_take]; omega
theorem bt_mem (s : ByteArray) (k : Nat) (h : k < s.size) : bt s k ∈ by_ s := List.mem_of_getElem? (bt_by s k (by omega))
theorem take_succ_by (s : ByteArray) (k : Nat) (h : k < s.size) : (by_ s).take (k + 1) = (by_ s).take k ++ [bt s k] := by
  have hg := bt_by s k (by omega)
  rw [Int.toNat_natCast] at hg
  rw [List.take_add_one, hg]; rfl
theorem by_ext_succ (s : ByteArray) (f i : Nat) (h : f ≤ i) (hi : i < s.size) : by_ (s.extract f (i + 1)) = by_ (s.extract f i) ++ [bt s i] := by
  rw [by_extract, by_extract, take_succ_by s i hi, List.drop_append_of_le_length (by rw [List.length_take, by_length]; omega)]
theorem ref_Lines (s : ByteArray) (hs : s.size ≤ 1000000) : ∀ (r i f K : Nat) (b : Bool) (out : List ByteArray), i + r = s.size → 2 * r + 2 ≤ K → f ≤ i → out.length + r ≤ 1000000 → b = decide (0 < i ∧ bt s ((i : Int) - 1) = 13) → (b = true → f = i) →
    copperplateref07_Lines.l0 K s out f i = some (out ++ (flw (by_ (s.extract f i)) b (at_ s i)).map ba) := by
  intro r
  induction r with
  | zero =>
    intro i f K b out h hK hf ho hb hbf
    obtain ⟨j, rfl⟩ : ∃ j, K = j + 1 := ⟨K - 1, by omega⟩
    rw [copperplateref07_Lines.l0, if_neg (by omega), if_pos (by omega), if_pos (by omega), if_pos (by omega), at_nil s i (by omega), Int.toNat_natCast]
    unfold flw
    rw [fl_nil]
    show _ = some (out ++ [ba (by_ (s.extract f i) ++ [])])
    rw [List.append_nil, ba_by, show i = s.size by omega]
  | succ r ih =>
    intro i f K b out h hK hf ho hb hbf
    obtain ⟨j, rfl⟩ : ∃ j, K = j + 1 + 1 := ⟨K - 2, by omega⟩
    have hlt : i < s.size := by omega
    have nx : (i : Int) + 1 = ((i + 1 : Nat) : Int) := rfl
    have e10 : ∀ out, out.length + r ≤ 1000000 → bt s i ≠ 13 → copperplateref07_Lines.l0 j s out ((i + 1 : Nat) : Int) ((i + 1 : Nat) : Int) = some (out ++ (fl false (at_ s ((i + 1 : Nat) : Int))).map ba) := by
      intro out ho hc
      rw [ih (i + 1) (i + 1) j false out (by omega) (by omega) (by omega) ho (by symm; apply decide_eq_false; intro q; apply hc; rw [← q.2]; congr 1; omega) (by intro q; cases q), by_ext_nil, flw_nil]
    have first : (if (bt s i) = 10 then (if (i : Int) > 0 then (if 0 ≤ (wrap64 ((i : Int) - 1)) then (if (wrap64 ((i : Int) - 1)) < (s.size : Int) then (copperplateref07_Lines.j1 (j + 1) s out f i ((bt s (wrap64 ((i : Int) - 1))) == 13)) else (none)) else (none)) else (copperplateref07_Lines.j1 (j + 1) s out f i false)) else (copperplateref07_Lines.j1 (j + 1) s out f i false)) = copperplateref07_Lines.j1 (j + 1) s out f i (decide (bt s i = 10) && b) := by
      by_cases c : bt s i = 10
      · rw [if_pos c, decide_eq_true c, Bool.true_and]
        by_cases c2 : (i : Int) > 0
        · rw [if_pos c2, w64' (by omega) (by omega), if_pos (by omega), if_pos (by omega), hb]
          congr 1
          rw [Bool.eq_iff_iff, beq_iff_eq, decide_eq_true_eq]
          exact ⟨fun q => ⟨by omega, q⟩, fun q => q.2⟩
        · rw [if_neg c2, hb, decide_eq_false (by omega)]
      · rw [if_neg c, decide_eq_false c, Bool.false_and]
    rw [copperplateref07_Lines.l0, if_pos (by omega), if_pos (by omega), first, at_cons s i (by omega) (by omega), copperplateref07_Lines.j1, w64' (n := (i : Int) + 1) (by omega) (by omega), nx]
    by_cases c : bt s i = 10
    · rw [c, decide_eq_true rfl, Bool.true_and]
      cases hbb : b with
      | true =>
        have hfi := hbf hbb
        subst hfi
        rw [if_pos rfl, e10 out (by omega) (by omega), by_ext_nil, flw_nil, fl_ten']
      | false =>
        rw [if_neg (by decide), if_pos (by omega), if_pos (by omega), if_pos rfl, if_pos (by omega), if_pos (by omega), if_pos (by omega), if_pos (by omega), Int.toNat_natCast, Int.toNat_natCast, e10 _ (by rw [List.length_append]; show out.length + 1 + r ≤ _; omega) (by omega)]
        unfold flw
        rw [fl_ten]
        show _ = some (out ++ List.map ba ((by_ (s.extract f i) ++ []) :: fl false (at_ s ((i + 1 : Nat) : Int))))
        rw [List.append_nil, List.map_cons, ba_by, List.append_assoc]; rfl
    · rw [decide_eq_false c, Bool.false_and, if_neg (by decide), if_pos (by omega), if_pos (by omega), if_neg c]
      by_cases c2 : bt s i = 13
      · rw [if_pos c2, if_pos (by omega), if_pos (by omega), if_pos (by omega), if_pos (by omega), Int.toNat_natCast, Int.toNat_natCast, ih (i + 1) (i + 1) j true _ (by omega) (by omega) (by omega) (by rw [List.length_append]; show out.length + 1 + r ≤ _; omega) (by symm; apply decide_eq_true; refine ⟨by omega, ?_⟩; rw [← c2]; congr 1; omega) (fun _ => rfl), by_ext_nil, flw_nil, c2]
        unfold flw
        rw [fl_cr]
        show _ = some (out ++ List.map ba ((by_ (s.extract f i) ++ []) :: fl true (at_ s ((i + 1 : Nat) : Int))))
        rw [List.append_nil, List.map_cons, ba_by, List.append_assoc]; rfl
      · rw [if_neg c2, ih (i + 1) f j false out (by omega) (by omega) (by omega) (by omega) (by symm; apply decide_eq_false; intro q; apply c2; rw [← q.2]; congr 1; omega) (by intro q; cases q), by_ext_succ s f i hf hlt]
        unfold flw
        rw [fl_other c c2]
        show some (out ++ List.map ba ((by_ (s.extract f i) ++ [bt s i] ++ (fl false (at_ s ((i + 1 : Nat) : Int))).headD []) :: (fl false (at_ s ((i + 1 : Nat) : Int))).tail)) = some (out ++ List.map ba ((by_ (s.extract f i) ++ (bt s i :: (fl false (at_ s ((i + 1 : Nat) : Int))).headD [])) :: (fl false (at_ s ((i + 1 : Nat) : Int))).tail))
        rw [List.append_assoc]; rfl
theorem ref_Lines_f (K : Nat) (s : ByteArray) (hs : s.size ≤ 1000000) (hK : 2 * s.size + 2 ≤ K) : copperplateref07_Lines.f K s = some (fls s) := by
  have := ref_Lines s hs s.size 0 0 K false [] (by omega) hK (Nat.le_refl _) (by simp; omega) (by rfl) (by intro q; cases q)
  unfold copperplateref07_Lines.f
  rw [show ((0 : Nat) : Int) = 0 from rfl] at this
  rw [this, at_zero, by_ext_nil, flw_nil]
  rfl
theorem texts_same (l : List ByteArray) (hl : l.length ≤ 10000000) : ∀ (r k K : Nat), k + r = l.length → r + 2 ≤ K → copperplateref07_Texts.l0 K l l k = some true := by
  intro r
  induction r with
  | zero =>
    intro k K h hK
    obtain ⟨j, rfl⟩ : ∃ j, K = j + 1 := ⟨K - 1, by omega⟩
    rw [copperplateref07_Texts.l0, if_neg (by omega)]
  | succ r ih =>
    intro k K h hK
    obtain ⟨j, rfl⟩ : ∃ j, K = j + 1 := ⟨K - 1, by omega⟩
    rw [copperplateref07_Texts.l0, if_pos (by omega), if_pos (by omega), if_pos (by omega), if_pos rfl, w64' (by omega) (by omega)]
    exact ih (k + 1) j (by omega) (by omega)
theorem texts_f (l : List ByteArray) (hl : l.length ≤ 10000000) (K : Nat) (hK : l.length + 2 ≤ K) : copperplateref07_Texts.f K l l = some true := by
  unfold copperplateref07_Texts.f
  rw [if_pos rfl]
  exact texts_same l hl l.length 0 K (by omega) (by omega)
end Go.Proofs.YthcneciafiaphaaDoor.G
