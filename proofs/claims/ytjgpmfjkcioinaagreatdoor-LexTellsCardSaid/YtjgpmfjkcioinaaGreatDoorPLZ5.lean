/-
  The document's layer 7, over what its text computes.
-/
import Derived.Test.YtjgpmfjkcioinaaGreatDoorPLZ3
import Derived.Test.YtjgpmfjkcioinaaGreatDoorPLF9
import Derived.Test.YtjgpmfjkcioinaaGreatDoorPLGG2
import Derived.Test.YtjgpmfjkcioinaaGreatDoorPLQ6
import Derived.Test.YtjgpmfjkcioinaaGreatDoorPLQ5
import Derived.Test.YtjgpmfjkcioinaaGreatDoorPLQ7
namespace Go.Proofs.YtjgpmfjkcioinaaGreatDoor.G
open Go.RowKit Go.Proofs.YtjgpmfjkcioinaaGreatDoor.Q Go.Proofs.YtjgpmfjkcioinaaGreatDoorW.PrintWords Go.Proofs.YtjgpmfjkcioinaaGreatDoor.M
set_option linter.unusedVariables false
set_option linter.unusedSimpArgs false
theorem w64' {n : Int} (h0 : -9223372036854775808 ≤ n) (h1 : n ≤ 9223372036854775807) : wrap64 n = n := IntWalk.wrap64_in n ⟨h0, h1⟩
theorem fls_len (s : ByteArray) : (fls s).length = (fl false (by_ s)).length := by rw [← fls_by, List.length_map]
theorem three_b {x : ByteArray} (h : by_ x = [34, 34, 34]) : x.toList = ([34, 34, 34] : List UInt8) := by
  rw [by_inj (h.trans (show ([34, 34, 34] : List Int) = by_ ⟨#[34, 34, 34]⟩ from rfl)), Lib.toList_data]
theorem ref_Margin (s : ByteArray) (hs : s.size ≤ 1000000) : ∀ (r k K : Nat), k + r = s.size → r + 2 ≤ K → copperplateref07_Margin.l0 K s k = some (((k + marg (at_ s k) : Nat)) : Int) := by
  intro r
  induction r with
  | zero =>
    intro k K h hK
    obtain ⟨j, rfl⟩ : ∃ j, K = j + 1 := ⟨K - 1, by omega⟩
    rw [copperplateref07_Margin.l0, if_neg (by omega), at_nil s k (by omega)]; rfl
  | succ r ih =>
    intro k K h hK
    obtain ⟨j, rfl⟩ : ∃ j, K = j + 1 := ⟨K - 1, by omega⟩
    rw [copperplateref07_Margin.l0, if_pos (by omega), if_pos (by omega), at_cons s k (by omega) (by omega), w64' (by omega) (by omega), show (k : Int) + 1 = ((k + 1 : Nat) : Int) from rfl, ih (k + 1) j (by omega) (by omega)]
    by_cases c : bt s k = 9
    · have e : marg (bt s k :: at_ s ((k + 1 : Nat) : Int)) = marg (at_ s ((k + 1 : Nat) : Int)) + 1 := cnt_yes _ (decide_eq_true (.inl c))
      rw [if_pos c, e]; congr 2; omega
    by_cases c2 : bt s k = 32
    · have e : marg (bt s k :: at_ s ((k + 1 : Nat) : Int)) = marg (at_ s ((k + 1 : Nat) : Int)) + 1 := cnt_yes _ (decide_eq_true (.inr c2))
      rw [if_neg c, if_pos c2, e]; congr 2; omega
    · have e : marg (bt s k :: at_ s ((k + 1 : Nat) : Int)) = 0 := cnt_no _ (decide_eq_false (by omega))
      rw [if_neg c, if_neg c2, e]; rfl
theorem ref_Margin_f (K : Nat) (s : ByteArray) (hs : s.size ≤ 1000000) (hK : s.size + 2 ≤ K) : copperplateref07_Margin.f K s = some ((marg (by_ s) : Nat) : Int) := by
  have := ref_Margin s hs s.size 0 K (by omega) hK
  unfold copperplateref07_Margin.f
  rw [show ((0 : Nat) : Int) = 0 from rfl, at_zero, Nat.zero_add] at this
  exact this
theorem sz_mem : ∀ (r : List (List Int)) (x : List Int), x ∈ r → x.length + 1 ≤ sz r
  | [], x, h => absurd h (by simp)
  | y :: r, x, h => by
    rw [sz_cons]
    rcases List.mem_cons.1 h with rfl | h
    · omega
    · have := sz_mem r x h; omega
theorem toList3 (x : ByteArray) : (x.toList == ([34, 34, 34] : List UInt8)) = decide (by_ x = [34, 34, 34]) := by
  rw [Bool.eq_iff_iff, beq_iff_eq, decide_eq_true_eq]
  constructor
  · intro h
    have e : x.data.toList = [34, 34, 34] := by rw [← Lib.toList_data x]; exact h
    unfold by_; rw [e]; rfl
  · exact three_b
theorem ref_three (s : ByteArray) (hs : s.size ≤ 1000000) (i : Int) : copperplateref07_three.f s i = some (decide (0 ≤ i) && three (at_ s i)) := by
  unfold copperplateref07_three.f
  by_cases h0 : i ≥ 0
  · rw [if_pos h0, decide_eq_true h0, Bool.true_and]
    obtain ⟨n, rfl⟩ : ∃ n : Nat, i = n := ⟨i.toNat, by omega⟩
    by_cases h1 : (n : Int) < s.size
    · have hl := at_length s n (by omega) (by omega)
      rw [if_pos h1, w64' (n := (s.size : Int) - n) (by omega) (by omega)]
      by_cases h2 : (s.size : Int) - n ≥ 3
      · rw [if_pos h2, if_pos (by omega), w64' (by omega) (by omega), if_pos (by omega), if_pos (by omega), show ((n : Int) + 3).toNat = n + 3 by omega, Int.toNat_natCast, toList3, own_by]
        rfl
      · rw [if_neg h2]
        cases q : three (at_ s n) with
        | false => rfl
        | true =>
          obtain ⟨m, hm⟩ := three_iff.1 q
          rw [hm] at hl
          simp only [List.length_cons] at hl
          omega
    · rw [if_neg h1, at_nil s n (by omega)]; rfl
  · rw [if_neg h0, decide_eq_false h0]; rfl
def rawOut (x : ByteArray) (n : Nat) (q : Bool × List Int × Nat) : ByteArray × Int × Bool := if q.1 = true then (x ++ ba q.2.1, ((n + q.2.2 : Nat) : Int), true) else (⟨#[]⟩, ((n + q.2.2 : Nat) : Int), false)
theorem rawOut_radd (x : ByteArray) (n k : Nat) (t : List Int) (q : Bool × List Int × Nat) : rawOut (x ++ ba t) (n + k) q = rawOut x n (radd k t q) := by
  unfold rawOut radd
  cases h : q.1 with
  | true => rw [if_pos rfl, if_pos rfl, if_pos rfl, ba_append, ByteArray.append_assoc, Nat.add_assoc]
  | false => simp only [Bool.false_eq_true, if_false, Nat.add_assoc]
theorem thre4_it (s : ByteArray) (n : Nat) (h : n < s.size) (h3 : three (at_ s n) = false) : thre4 (at_ s n) = (decide (bt s n = 92) && three (at_ s ((n : Int) + 1))) := by
  rw [at_cons s n (by omega) (by omega)]
  unfold thre4 three
  rw [Bool.eq_iff_iff, Bool.and_eq_true, decide_eq_true_eq, decide_eq_true_eq, decide_eq_true_eq]
  rw [List.take_succ_cons]
  constructor
  · intro e; exact ⟨(List.cons.inj e).1, (List.cons.inj e).2⟩
  · rintro ⟨e1, e2⟩; rw [e1, e2]
theorem ref_Raw_l0 (s : ByteArray) (hs : s.size ≤ 600) : ∀ (r n K : Nat) (x : ByteArray), n + r = s.size → 2 * r + 30 ≤ K → x.size ≤ n → copperplateref07_Raw.l0 K s x n = some (rawOut x n (rawB (at_ s n))) := by
  intro r
  induction r using Nat.strongRecOn with
  | _ r ih =>
    intro n K x h hK hx
    obtain ⟨j, rfl⟩ : ∃ j, K = j + 1 := ⟨K - 1, by omega⟩
    rw [copperplateref07_Raw.l0]
    by_cases h0 : n = s.size
    · rw [if_neg (by omega), at_nil s n (by omega), rawB_nil]; rfl
    have hlt : n < s.size := by omega
    rw [if_pos (by omega), ref_three s (by omega), Option.bind_some, w64' (n := (n : Int) + 1) (by omega) (by omega), ref_three s (by omega), Option.bind_some, decide_eq_true (show (0 : Int) ≤ (n : Int) by omega), Bool.true_and, decide_eq_true (show (0 : Int) ≤ (n : Int) + 1 by omega), Bool.true_and]
    have hl := at_length s n (by omega) (by omega)
    cases h3 : three (at_ s n) with
    | true =>
      rw [if_pos rfl, rawB_end h3, w64' (by omega) (by omega)]
      unfold rawOut
      rw [if_pos rfl, ba_nil, show x ++ (⟨#[]⟩ : ByteArray) = x from ByteArray.append_empty]
      rfl
    | false =>
      have h4 := thre4_it s n hlt h3
      rw [if_neg (by decide), if_pos (by omega)]
      have step : thre4 (at_ s n) = false → copperplateref07_Raw.j1 j s x n false = some (rawOut x n (rawB (at_ s n))) := by
        intro h4f
        obtain ⟨j, rfl⟩ : ∃ k, j = k + 1 := ⟨j - 1, by omega⟩
        have hle := nxp_le isc (at_ s n)
        have hnn : nxn s n = ((nxp isc (at_ s n)).2 : Int) := if_neg (by omega)
        rw [copperplateref07_Raw.j1, if_neg (by decide), ref_Next j (by omega) s n (by omega), Option.bind_some]
        simp only []
        rw [hnn]
        by_cases q : (nxp isc (at_ s n)).2 = 0
        · rw [if_pos (by omega), rawB_no h3 h4f q]; rfl
        · have hb := rawB_step h3 h4f q
          obtain ⟨m, hm⟩ : ∃ m, (nxp isc (at_ s n)).2 = m := ⟨_, rfl⟩
          rw [hm] at q hle hb ⊢
          have e1 : s.extract n (n + m) = ba ((at_ s n).take m) := by rw [← own_by, ba_by]
          rw [if_neg (by omega), if_pos (by omega), w64' (by omega) (by omega), if_pos (by omega), if_pos (by omega), show ((n : Int) + (m : Int)).toNat = n + m by omega, Int.toNat_natCast, if_pos (by rw [ByteArray.size_extract]; omega), e1,
            show (n : Int) + (m : Int) = ((n + m : Nat) : Int) by omega, ih (r - m) (by omega) (n + m) j _ (by omega) (by omega) (by rw [ByteArray.size_append, ba_size, List.length_take]; omega), rawOut_radd, hb, ← at_add s n m (by omega), show (n : Int) + (m : Int) = ((n + m : Nat) : Int) by omega]
      by_cases c : bt s n = 92
      · rw [if_pos c]
        cases h5 : three (at_ s ((n : Int) + 1)) with
        | true =>
          rw [decide_eq_true c, h5] at h4
          have h4t : thre4 (at_ s n) = true := h4
          have hb := rawB_esc h4t
          obtain ⟨m, hm⟩ := thre4_iff.1 h4t
          have hl4 : n + 4 ≤ s.size := by rw [hm] at hl; simp only [List.length_cons] at hl; omega
          obtain ⟨j, rfl⟩ : ∃ k, j = k + 1 := ⟨j - 1, by omega⟩
          rw [copperplateref07_Raw.j1, if_pos rfl, if_pos (by omega), w64' (by omega) (by omega), show (n : Int) + 4 = ((n + 4 : Nat) : Int) from rfl, show (⟨#[34, 34, 34]⟩ : ByteArray) = ba [34, 34, 34] from rfl, ih (r - 4) (by omega) (n + 4) j _ (by omega) (by omega) (by rw [ByteArray.size_append]; show x.size + 3 ≤ _; omega), rawOut_radd, hb, ← at_add s n 4 (by omega)]
          rfl
        | false =>
          rw [decide_eq_true c, h5] at h4
          exact step h4
      · rw [if_neg c]
        rw [decide_eq_false c] at h4
        exact step h4
theorem ref_Raw_f (K : Nat) (s : ByteArray) (i : Int) (hs : s.size ≤ 600) (hK : 1500 ≤ K) : copperplateref07_Raw.f K s i = some (ba (rawAt s i).2.1, (rawAt s i).2.2, (rawAt s i).1) := by
  unfold copperplateref07_Raw.f rawAt
  rw [ref_three s (by omega), Option.bind_some]
  by_cases h : i < 0 ∨ three (at_ s i) = false
  · have e : (decide (0 ≤ i) && three (at_ s i)) = false := by
      rcases h with h | h
      · rw [decide_eq_false (by omega)]; rfl
      · rw [h, Bool.and_false]
    rw [e, if_neg (by decide), if_pos h]; rfl
  · have h0 : 0 ≤ i := by omega
    have h3 : three (at_ s i) = true := by
      cases q : three (at_ s i) with
      | true => rfl
      | false => exact absurd (.inr q) h
    rw [if_neg h, decide_eq_true h0, h3, Bool.true_and, if_pos rfl]
    obtain ⟨m, hm⟩ := three_iff.1 h3
    have hsz : i + 3 + m.length = s.size := by
      by_cases c : i ≤ s.size
      · have := at_length s i h0 c
        rw [hm] at this
        simp only [List.length_cons] at this
        omega
      · have := at_nil s i (by omega)
        rw [hm] at this; cases this
    obtain ⟨n, hn⟩ : ∃ n : Nat, i + 3 = n := ⟨(i + 3).toNat, by omega⟩
    rw [hn, w64' (by omega) (by omega), ref_Raw_l0 s hs (s.size - n) n K ⟨#[]⟩ (by omega) (by omega) (Nat.zero_le _)]
    have hf := rawB_false (at_ s n)
    unfold rawOut
    cases q : (rawB (at_ s n)).1 with
    | true => rw [if_pos rfl, show (⟨#[]⟩ : ByteArray) ++ ba (rawB (at_ s n)).2.1 = ba (rawB (at_ s n)).2.1 from ByteArray.empty_append]; rfl
    | false => rw [if_neg (by decide), (hf q).1]; rfl
def flw (x : List Int) (b : Bool) (l : List Int) : List (List Int) := (x ++ (fl b l).headD []) :: (fl b l).tail
theorem flw_nil (b : Bool) (l : List Int) : flw [] b l = fl b l := (fl_head b l).symm
theorem by_ext_nil (s : ByteArray) (i : Nat) : by_ (s.extract i i) = [] := by rw [by_extract, List.drop_eq_nil_iff, List.length_take]; omega
theorem take_succ_by (s : ByteArray) (k : Nat) (h : k < s.size) : (by_ s).take (k + 1) = (by_ s).take k ++ [bt s k] := by
  have hg := bt_by s k (by omega)
  rw [Int.toNat_natCast] at hg
  rw [List.take_add_one, hg]; rfl
theorem by_ext_succ (s : ByteArray) (f i : Nat) (h : f ≤ i) (hi : i < s.size) : by_ (s.extract f (i + 1)) = by_ (s.extract f i) ++ [bt s i] := by
  rw [by_extract, by_extract, take_succ_by s i hi, List.drop_append_of_le_length (by rw [List.length_take, by_length]; omega)]
theorem ref_Lines (s : ByteArray) (hs : s.size ≤ 1000000) : ∀ (r i f K : Nat) (b : Bool) (out : List ByteArray), i + r = s.size → 2 * r + 2 ≤ K → f ≤ i → out.length + r ≤ 1000000 → b = decide (0 < i ∧ bt s ((i : Int) - 1) = 13) → (b = true → f = i) →
    copperplateref07_Lines.l0 K s out f i = some (out ++ (flw (by_ (s.extract f i)) b (at_ s i)).map ba) := by
  intro r
  induction r with
  | zero =>
    intro i f K b out h hK hf ho hb hbf
    obtain ⟨j, rfl⟩ : ∃ j, K = j + 1 := ⟨K - 1, by omega⟩
    rw [copperplateref07_Lines.l0, if_neg (by omega), if_pos (by omega), if_pos (by omega), if_pos (by omega), at_nil s i (by omega), Int.toNat_natCast]
    unfold flw
    rw [fl_nil]
    show _ = some (out ++ [ba (by_ (s.extract f i) ++ [])])
    rw [List.append_nil, ba_by, show i = s.size by omega]
  | succ r ih =>
    intro i f K b out h hK hf ho hb hbf
    obtain ⟨j, rfl⟩ : ∃ j, K = j + 1 + 1 := ⟨K - 2, by omega⟩
    have hlt : i < s.size := by omega
    have nx : (i : Int) + 1 = ((i + 1 : Nat) : Int) := rfl
    have e10 : ∀ out, out.length + r ≤ 1000000 → bt s i ≠ 13 → copperplateref07_Lines.l0 j s out ((i + 1 : Nat) : Int) ((i + 1 : Nat) : Int) = some (out ++ (fl false (at_ s ((i + 1 : Nat) : Int))).map ba) := by
      intro out ho hc
      rw [ih (i + 1) (i + 1) j false out (by omega) (by omega) (by omega) ho (by symm; apply decide_eq_false; intro q; apply hc; rw [← q.2]; congr 1; omega) (by intro q; cases q), by_ext_nil, flw_nil]
    have first : (if (bt s i) = 10 then (if (i : Int) > 0 then (if 0 ≤ (wrap64 ((i : Int) - 1)) then (if (wrap64 ((i : Int) - 1)) < (s.size : Int) then (copperplateref07_Lines.j1 (j + 1) s out f i ((bt s (wrap64 ((i : Int) - 1))) == 13)) else (none)) else (none)) else (copperplateref07_Lines.j1 (j + 1) s out f i false)) else (copperplateref07_Lines.j1 (j + 1) s out f i false)) = copperplateref07_Lines.j1 (j + 1) s out f i (decide (bt s i = 10) && b) := by
      by_cases c : bt s i = 10
      · rw [if_pos c, decide_eq_true c, Bool.true_and]
        by_cases c2 : (i : Int) > 0
        · rw [if_pos c2, w64' (by omega) (by omega), if_pos (by omega), if_pos (by omega), hb]
          congr 1
          rw [Bool.eq_iff_iff, beq_iff_eq, decide_eq_true_eq]
          exact ⟨fun q => ⟨by omega, q⟩, fun q => q.2⟩
        · rw [if_neg c2, hb, decide_eq_false (by omega)]
      · rw [if_neg c, decide_eq_false c, Bool.false_and]
    rw [copperplateref07_Lines.l0, if_pos (by omega), if_pos (by omega), first, at_cons s i (by omega) (by omega), copperplateref07_Lines.j1, w64' (n := (i : Int) + 1) (by omega) (by omega), nx]
    by_cases c : bt s i = 10
    · rw [c, decide_eq_true rfl, Bool.true_and]
      cases hbb : b with
      | true =>
        have hfi := hbf hbb
        subst hfi
        rw [if_pos rfl, e10 out (by omega) (by omega), by_ext_nil, flw_nil, fl_ten']
      | false =>
        rw [if_neg (by decide), if_pos (by omega), if_pos (by omega), if_pos rfl, if_pos (by omega), if_pos (by omega), if_pos (by omega), if_pos (by omega), Int.toNat_natCast, Int.toNat_natCast, e10 _ (by rw [List.length_append]; show out.length + 1 + r ≤ _; omega) (by omega)]
        unfold flw
        rw [fl_ten]
        show _ = some (out ++ List.map ba ((by_ (s.extract f i) ++ []) :: fl false (at_ s ((i + 1 : Nat) : Int))))
        rw [List.append_nil, List.map_cons, ba_by, List.append_assoc]; rfl
    · rw [decide_eq_false c, Bool.false_and, if_neg (by decide), if_pos (by omega), if_pos (by omega), if_neg c]
      by_cases c2 : bt s i = 13
      · rw [if_pos c2, if_pos (by omega), if_pos (by omega), if_pos (by omega), if_pos (by omega), Int.toNat_natCast, Int.toNat_natCast, ih (i + 1) (i + 1) j true _ (by omega) (by omega) (by omega) (by rw [List.length_append]; show out.length + 1 + r ≤ _; omega) (by symm; apply decide_eq_true; refine ⟨by omega, ?_⟩; rw [← c2]; congr 1; omega) (fun _ => rfl), by_ext_nil, flw_nil, c2]
        unfold flw
        rw [fl_cr]
        show _ = some (out ++ List.map ba ((by_ (s.extract f i) ++ []) :: fl true (at_ s ((i + 1 : Nat) : Int))))
        rw [List.append_nil, List.map_cons, ba_by, List.append_assoc]; rfl
      · rw [if_neg c2, ih (i + 1) f j false out (by omega) (by omega) (by omega) (by omega) (by symm; apply decide_eq_false; intro q; apply c2; rw [← q.2]; congr 1; omega) (by intro q; cases q), by_ext_succ s f i hf hlt]
        unfold flw
        rw [fl_other c c2]
        show some (out ++ List.map ba ((by_ (s.extract f i) ++ [bt s i] ++ (fl false (at_ s ((i + 1 : Nat) : Int))).headD []) :: (fl false (at_ s ((i + 1 : Nat) : Int))).tail)) = some (out ++ List.map ba ((by_ (s.extract f i) ++ (bt s i :: (fl false (at_ s ((i + 1 : Nat) : Int))).headD [])) :: (fl false (at_ s ((i + 1 : Nat) : Int))).tail))
        rw [List.append_assoc]; rfl
theorem ref_Lines_f (K : Nat) (s : ByteArray) (hs : s.size ≤ 1000000) (hK : 2 * s.size + 2 ≤ K) : copperplateref07_Lines.f K s = some (fls s) := by
  have := ref_Lines s hs s.size 0 0 K false [] (by omega) hK (Nat.le_refl _) (by simp; omega) (by rfl) (by intro q; cases q)
  unfold copperplateref07_Lines.f
  rw [show ((0 : Nat) : Int) = 0 from rfl] at this
  rw [this, at_zero, by_ext_nil, flw_nil]
  rfl
theorem rdOf_get (l : List ByteArray) (k : Nat) (h : k < l.length) : rdOf ByteArray.empty l (k : Int) = l[k] := by
  unfold rdOf
  rw [Int.toNat_natCast, List.getD_eq_getElem?_getD, List.getElem?_eq_getElem h]; rfl
theorem blk_size (y : ByteArray) : blk (by_ y) = decide (((marg (by_ y) : Nat) : Int) = (y.size : Int)) := by
  unfold blk
  rw [by_length, decide_eq_decide]; omega
theorem ref_Indent (l : List ByteArray) (hl : l.length ≤ 100000) (hs : ∀ x ∈ l, x.size ≤ 1000) : ∀ (r k K : Nat) (a : Int), k + r = l.length → r + 1500 ≤ K → -1 ≤ a → copperplateref07_Indent.l0 K l a k = some (ind a ((l.drop k).map by_)) := by
  intro r
  induction r with
  | zero =>
    intro k K a h hK ha
    obtain ⟨j, rfl⟩ : ∃ j, K = j + 1 := ⟨K - 1, by omega⟩
    rw [copperplateref07_Indent.l0, if_neg (by omega), List.drop_eq_nil_iff.2 (by omega)]; rfl
  | succ r ih =>
    intro k K a h hK ha
    obtain ⟨j, rfl⟩ : ∃ j, K = j + 1 := ⟨K - 1, by omega⟩
    have hk : k < l.length := by omega
    have hg := rdOf_get l k hk
    have hd := List.drop_eq_getElem_cons hk
    have hz := hs _ (List.getElem_mem hk)
    obtain ⟨y, hy⟩ : ∃ y, l[k] = y := ⟨_, rfl⟩
    rw [hy] at hg hd hz
    have hb := blk_size y
    have hml := marg_le (by_ y)
    rw [by_length] at hml
    rw [copperplateref07_Indent.l0, if_pos (by omega), if_pos (by omega), hg, ref_Margin_f j y (by omega) (by omega), Option.bind_some, w64' (by omega) (by omega), show (k : Int) + 1 = ((k + 1 : Nat) : Int) from rfl, hd, List.map_cons, ind]
    by_cases c : ((marg (by_ y) : Nat) : Int) < (y.size : Int)
    · have hbf : blk (by_ y) = false := by rw [hb]; exact decide_eq_false (by omega)
      rw [if_pos c]
      by_cases c2 : a = -1
      · rw [if_pos c2, if_pos ⟨hbf, .inl (by omega)⟩]
        exact ih (k + 1) j _ (by omega) (by omega) (by omega)
      · rw [if_neg c2]
        by_cases c3 : ((marg (by_ y) : Nat) : Int) < a
        · rw [if_pos c3, if_pos ⟨hbf, .inr c3⟩]
          exact ih (k + 1) j _ (by omega) (by omega) (by omega)
        · rw [if_neg c3, if_neg (fun q => by rcases q.2 with q | q <;> omega)]
          exact ih (k + 1) j _ (by omega) (by omega) ha
    · have hbt : blk (by_ y) = true := by rw [hb]; exact decide_eq_true (by omega)
      rw [if_neg c, if_neg (fun q => by rw [hbt] at q; cases q.1)]
      exact ih (k + 1) j _ (by omega) (by omega) ha
theorem ref_Indent_f (K : Nat) (l : List ByteArray) (hl : l.length ≤ 100000) (hs : ∀ x ∈ l, x.size ≤ 1000) (hK : l.length + 1500 ≤ K) : copperplateref07_Indent.f K l = some (indent (l.map by_)) := by
  unfold copperplateref07_Indent.f indent
  cases l with
  | nil =>
    obtain ⟨j, rfl⟩ : ∃ j, K = j + 1 := ⟨K - 1, by omega⟩
    rw [copperplateref07_Indent.l0, if_neg (by simp)]; rfl
  | cons x r =>
    have hl2 : (x :: r).length = r.length + 1 := rfl
    have := ref_Indent (x :: r) hl hs r.length 1 K (-1) (by omega) (by omega) (Int.le_refl _)
    exact this
theorem jn_snoc (r : List (List Int)) (x : List Int) (h : r ≠ []) : jn (r ++ [x]) = jn r ++ 10 :: x := by
  cases r with
  | nil => exact absurd rfl h
  | cons y t => unfold jn; simp
theorem ref_l3 (X : List ByteArray) (hl : X.length ≤ 1000) (hs : ∀ x ∈ X, x.size ≤ 1000) : ∀ (r k K : Nat) (acc : ByteArray), k + r = X.length → r + 2 ≤ K → by_ acc = jn ((X.map by_).take k) → acc.size ≤ 1001 * k →
    copperplateref07_Fold.l3 K X acc k = some (ba (jn (X.map by_))) := by
  intro r
  induction r with
  | zero =>
    intro k K acc h hK ha hz
    obtain ⟨j, rfl⟩ : ∃ j, K = j + 1 := ⟨K - 1, by omega⟩
    rw [List.take_of_length_le (by rw [List.length_map]; omega)] at ha
    rw [copperplateref07_Fold.l3, if_neg (by omega), ← ha, ba_by]
  | succ r ih =>
    intro k K acc h hK ha hz
    obtain ⟨j, rfl⟩ : ∃ j, K = j + 1 := ⟨K - 1, by omega⟩
    have hk : k < X.length := by omega
    have hg := rdOf_get X k hk
    have hy2 := hs _ (List.getElem_mem hk)
    have ht : (X.map by_).take (k + 1) = (X.map by_).take k ++ [by_ X[k]] := by
      rw [List.take_add_one, List.getElem?_map, List.getElem?_eq_getElem hk]; rfl
    obtain ⟨y, hy⟩ : ∃ y, X[k] = y := ⟨_, rfl⟩
    rw [hy] at hg hy2 ht
    have z1 : (acc ++ (⟨#[10]⟩ : ByteArray)).size = acc.size + 1 := by rw [ByteArray.size_append]; rfl
    rw [copperplateref07_Fold.l3, if_pos (by omega), hg, w64' (by omega) (by omega), show (k : Int) + 1 = ((k + 1 : Nat) : Int) from rfl]
    by_cases h0 : k = 0
    · subst h0
      rw [if_neg (by omega), if_pos (by omega), if_pos (by omega)]
      refine ih (0 + 1) j _ (by omega) (by omega) ?_ (by rw [ByteArray.size_append]; omega)
      rw [by_append, ha, ht]
      show [] ++ by_ y = by_ y ++ []
      rw [List.nil_append, List.append_nil]
    · rw [if_pos (by omega), if_pos (by omega), if_pos (by omega), if_pos (by omega)]
      refine ih (k + 1) j _ (by omega) (by omega) ?_ (by rw [ByteArray.size_append, z1]; omega)
      have hne : (X.map by_).take k ≠ [] := by
        intro e
        have := congrArg List.length e
        rw [List.length_take, List.length_map] at this
        have e0 : ([] : List (List Int)).length = 0 := rfl
        omega
      rw [by_append, by_append, ha, ht, jn_snoc _ _ hne, List.append_assoc]; rfl
theorem ref_l3_f (X : List ByteArray) (hl : X.length ≤ 1000) (hs : ∀ x ∈ X, x.size ≤ 1000) (K : Nat) (hK : X.length + 2 ≤ K) : copperplateref07_Fold.l3 K X ⟨#[]⟩ 0 = some (ba (jn (X.map by_))) :=
  ref_l3 X hl hs X.length 0 K ⟨#[]⟩ (by omega) hK (by rw [List.take_zero]; rfl) (Nat.zero_le _)
theorem ref_l2 : ∀ (n : Nat) (X : List ByteArray) (K : Nat), X.length = n → n ≤ 1000 → (∀ x ∈ X, x.size ≤ 1000) → 2 * n + 1500 ≤ K → copperplateref07_Fold.l2 K X = some (ba (jn (tailless (X.map by_)))) := by
  intro n
  induction n with
  | zero =>
    intro X K h hn hs hK
    obtain ⟨j, rfl⟩ : ∃ j, K = j + 1 + 1 := ⟨K - 2, by omega⟩
    obtain rfl : X = [] := List.eq_nil_of_length_eq_zero h
    rw [copperplateref07_Fold.l2, if_neg (by simp), copperplateref07_Fold.j4, ref_l3_f [] (by simp) (by simp) j (by simp; omega)]
    rfl
  | succ n ih =>
    intro X K h hn hs hK
    obtain ⟨j, rfl⟩ : ∃ j, K = j + 1 + 1 := ⟨K - 2, by omega⟩
    have hk : n < X.length := by omega
    have hg := rdOf_get X n hk
    have hy2 := hs _ (List.getElem_mem hk)
    have hX : X = X.take n ++ [X[n]] := by
      conv => lhs; rw [← List.take_append_drop n X, List.drop_eq_getElem_cons hk, List.drop_eq_nil_iff.2 (by omega)]
    obtain ⟨y, hy⟩ : ∃ y, X[n] = y := ⟨_, rfl⟩
    rw [hy] at hg hy2 hX
    have hm : X.map by_ = (X.take n).map by_ ++ [by_ y] := by have q := congrArg (List.map by_) hX; rw [List.map_append] at q; exact q
    have hb := blk_size y
    have e1 : (X.length : Int) - 1 = (n : Int) := by omega
    rw [copperplateref07_Fold.l2, if_pos (by omega), e1, w64' (by omega) (by omega), if_pos (by omega), if_pos (by omega), hg, ref_Margin_f (j + 1) y (by omega) (by omega), Option.bind_some]
    by_cases c : ((marg (by_ y) : Nat) : Int) = (y.size : Int)
    · rw [if_pos c, if_pos (by omega), Int.toNat_natCast, ih (X.take n) (j + 1) (by rw [List.length_take]; omega) (by omega) (fun x hx => hs x (List.mem_of_mem_take hx)) (by omega), hm, tailless_blk _ (by rw [hb]; exact decide_eq_true c)]
    · rw [if_neg c, copperplateref07_Fold.j4, ref_l3_f X (by omega) hs j (by omega), tailless_id]
      intro x hx
      rw [hm, List.getLast?_append] at hx
      simp only [List.getLast?_singleton, Option.some_or, Option.some.injEq] at hx
      rw [← hx, hb]
      exact decide_eq_false c
theorem ref_l1 : ∀ (X : List ByteArray) (K : Nat), X.length ≤ 1000 → (∀ x ∈ X, x.size ≤ 1000) → 3 * X.length + 1510 ≤ K → copperplateref07_Fold.l1 K X = some (ba (jn (strip (X.map by_)))) := by
  intro X
  induction X with
  | nil =>
    intro K hl hs hK
    obtain ⟨j, rfl⟩ : ∃ j, K = j + 1 + 1 := ⟨K - 2, by omega⟩
    rw [copperplateref07_Fold.l1, if_neg (by simp), copperplateref07_Fold.j2, ref_l2 0 [] j rfl (by omega) (by simp) (by simp at hK; omega)]
    rfl
  | cons y r ih =>
    intro K hl hs hK
    obtain ⟨j, rfl⟩ : ∃ j, K = j + 1 + 1 := ⟨K - 2, by omega⟩
    have hlen : (y :: r).length = r.length + 1 := rfl
    have hg : rdOf ByteArray.empty (y :: r) 0 = y := rfl
    have hy2 := hs y (by simp)
    have hb := blk_size y
    rw [copperplateref07_Fold.l1, if_pos (by omega), if_pos (by omega), hg, ref_Margin_f (j + 1) y (by omega) (by omega), Option.bind_some, List.map_cons]
    by_cases c : ((marg (by_ y) : Nat) : Int) = (y.size : Int)
    · rw [if_pos c, if_pos (by omega), strip_blk (by rw [hb]; exact decide_eq_true c)]
      exact ih (j + 1) (by omega) (fun x hx => hs x (by simp [hx])) (by omega)
    · rw [if_neg c, copperplateref07_Fold.j2, ref_l2 (y :: r).length (y :: r) j rfl hl hs (by omega)]
      unfold strip
      rw [headless_no (by rw [hb]; exact decide_eq_false c)]; rfl
def cutb (n : Int) (s : ByteArray) : ByteArray := ba ((by_ s).drop n.toNat)
theorem cutb_no {n : Int} (h : ¬ n > 0) (s : ByteArray) : cutb n s = s := by unfold cutb; rw [show n.toNat = 0 by omega, List.drop_zero, ba_by]
theorem ref_cut (s : ByteArray) (n : Int) (h : 0 ≤ n) : copperplateref07_cut.f s n = some (cutb n s) := by
  unfold copperplateref07_cut.f cutb
  by_cases c : n > (s.size : Int)
  · rw [if_pos c, List.drop_eq_nil_iff.2 (by rw [by_length]; omega)]; rfl
  · rw [if_neg c, if_pos h, if_pos (by omega)]
    have e : by_ (s.extract n.toNat s.size) = (by_ s).drop n.toNat := by rw [by_extract, List.take_of_length_le (by rw [by_length]; exact Nat.le_refl _)]
    rw [← e, ba_by]
theorem ref_l0 (L : List ByteArray) (n : Int) (hl : L.length ≤ 1000) : ∀ (r k J : Nat) (out : List ByteArray), k + r = L.length → 1 ≤ k → out.length ≤ k → copperplateref07_Fold.l0 (J + r + 1) L n out k = copperplateref07_Fold.l1 J (out ++ (L.drop k).map (cutb n)) := by
  intro r
  induction r with
  | zero =>
    intro k J out h hk ho
    rw [copperplateref07_Fold.l0, if_neg (by omega), List.drop_eq_nil_iff.2 (by omega), List.map_nil, List.append_nil]
  | succ r ih =>
    intro k J out h hk ho
    have hlt : k < L.length := by omega
    have hg := rdOf_get L k hlt
    have hd := List.drop_eq_getElem_cons hlt
    obtain ⟨y, hy⟩ : ∃ y, L[k] = y := ⟨_, rfl⟩
    rw [hy] at hg hd
    have fin : copperplateref07_Fold.l0 (J + r + 1) L n (out ++ [cutb n y]) ((k + 1 : Nat) : Int) = copperplateref07_Fold.l1 J (out ++ (L.drop k).map (cutb n)) := by
      rw [ih (k + 1) J _ (by omega) (by omega) (by rw [List.length_append]; show out.length + 1 ≤ _; omega), hd, List.map_cons, List.append_assoc]; rfl
    rw [show J + (r + 1) + 1 = (J + r + 1) + 1 by omega, copperplateref07_Fold.l0, if_pos (by omega), if_pos (by omega), if_pos (by omega), hg, w64' (by omega) (by omega), show (k : Int) + 1 = ((k + 1 : Nat) : Int) from rfl]
    by_cases c : n > 0
    · rw [if_pos c, ref_cut y n (by omega), Option.bind_some, if_pos (by omega)]; exact fin
    · rw [if_neg c, if_pos (by omega)]
      rw [cutb_no c] at fin; exact fin
theorem fls_all (s : ByteArray) (x : ByteArray) (h : x ∈ fls s) : x.size ≤ s.size := by
  have h1 : by_ x ∈ fl false (by_ s) := by rw [← fls_by]; exact List.mem_map_of_mem h
  have h2 := sz_mem _ _ h1
  have h3 := sz_fl false (by_ s)
  rw [by_length] at h2 h3
  omega
theorem ref_Fold_f (K : Nat) (s : ByteArray) (hs : s.size ≤ 600) (hK : 10000 ≤ K) : copperplateref07_Fold.f K s = some (ba (foldL (by_ s))) := by
  have hll := fls_length s
  have hall := fls_all s
  unfold copperplateref07_Fold.f
  rw [ref_Lines_f K s (by omega) (by omega), Option.bind_some, ref_Indent_f K (fls s) (by omega) (fun x hx => by have := hall x hx; omega) (by omega), Option.bind_some, fls_by]
  unfold foldL foldl_
  obtain ⟨n, hn⟩ : ∃ n, indent (fl false (by_ s)) = n := ⟨_, rfl⟩
  rw [hn]
  have hby := fls_by s
  cases hf : fls s with
  | nil =>
    have := fls_len s
    have hp := fl_pos false (by_ s)
    rw [hf] at this; simp at this; omega
  | cons x r =>
    rw [hf] at hll hall hby
    have hlen : (x :: r).length = r.length + 1 := rfl
    obtain ⟨J, rfl⟩ : ∃ J, K = (J + r.length + 1) + 1 := ⟨K - r.length - 2, by omega⟩
    have e := ref_l0 (x :: r) n (by omega) r.length 1 J [x] (by omega) (Nat.le_refl _) (Nat.le_refl _)
    rw [copperplateref07_Fold.l0, if_pos (by omega), if_pos (by omega), if_neg (by omega), if_pos (by simp), w64' (by omega) (by omega)]
    show copperplateref07_Fold.l0 (J + r.length + 1) (x :: r) n ([] ++ [x]) ((1 : Nat) : Int) = _
    rw [List.nil_append, e]
    show copperplateref07_Fold.l1 J (x :: r.map (cutb n)) = _
    have hc : ∀ y ∈ r, by_ (cutb n y) = (by_ y).drop n.toNat := fun y hy => by_ba (fun c hc => by_range y c (List.mem_of_mem_drop hc))
    rw [ref_l1 (x :: r.map (cutb n)) J (by rw [List.length_cons, List.length_map]; omega) ?_ (by rw [List.length_cons, List.length_map]; omega)]
    · congr 3
      rw [← hby, List.map_cons, List.map_map, List.map_cons]
      show strip (by_ x :: _) = strip (by_ x :: _)
      congr 2
      rw [List.map_map]
      exact List.map_congr_left hc
    · intro y hy
      rcases List.mem_cons.1 hy with rfl | hy
      · have := hall y (by simp); omega
      · obtain ⟨z, hz, rfl⟩ := List.mem_map.1 hy
        have h1 := hall z (by simp [hz])
        unfold cutb
        rw [ba_size, List.length_drop, by_length]; omega
end Go.Proofs.YtjgpmfjkcioinaaGreatDoor.G
