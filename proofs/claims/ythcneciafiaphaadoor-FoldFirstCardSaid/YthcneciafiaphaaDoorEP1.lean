/-
  The laws over block strings, over what their texts compute: what they share; FoldEnds, FoldBlank. Plain Lean, no program's walk in sight.
-/
import Derived.Test.YthcneciafiaphaaDoorFC
import Derived.Test.YthcneciafiaphaaDoorF3
import Derived.IntWalk
import Derived.Test.YthcneciafiaphaaDoorQ1
import Derived.Test.YthcneciafiaphaaDoorQ5
import Derived.Test.YthcneciafiaphaaDoorQ8
namespace Go.Proofs.YthcneciafiaphaaDoor.G
open Go.RowKit Go.Proofs.YthcneciafiaphaaDoor.Q Go.Proofs.YthcneciafiaphaaDoorW.PrintWords Go.Proofs.YthcneciafiaphaaDoor.M
set_option linter.unusedVariables false
set_option linter.unusedSimpArgs false

theorem w64' {n : Int} (h0 : -9223372036854775808 ≤ n) (h1 : n ≤ 9223372036854775807) : wrap64 n = n := IntWalk.wrap64_in n ⟨h0, h1⟩
theorem f_Lines {s : ByteArray} (h : s.size ≤ 1000000) : fold_Lines.f s = some (fls s) := if_pos h
theorem f_Raw {s : ByteArray} (h : s.size ≤ 1000000) (i : Int) : fold_Raw.f s i = some (ba (rawAt s i).2.1, (rawAt s i).2.2, (rawAt s i).1) := if_pos h
theorem f_Fold {s : ByteArray} (h : s.size ≤ 1000000) : fold_Fold.f s = some (ba (foldL (by_ s))) := if_pos h
theorem f_Indent {l : List ByteArray} (h : l.length ≤ 10000000 ∧ ∀ x ∈ l, x.size ≤ 1000000) : fold_Indent.f l = some (indent (l.map by_)) := if_pos h
theorem fls_len (s : ByteArray) : (fls s).length = (fl false (by_ s)).length := by rw [← fls_by, List.length_map]
theorem awake7 : copperplatelaw07_awake.f = some true := by
  have a1 : by_ (⟨#[10, 32, 32, 97, 10, 32, 32, 32, 32, 98, 10]⟩ : ByteArray) = [10, 32, 32, 97, 10, 32, 32, 32, 32, 98, 10] := rfl
  have a2 : by_ (⟨#[97, 13, 10, 98]⟩ : ByteArray) = [97, 13, 10, 98] := rfl
  have v1 : foldL [10, 32, 32, 97, 10, 32, 32, 32, 32, 98, 10] = [97, 10, 32, 32, 98] := by decide
  have l1 : (fls (⟨#[97, 13, 10, 98]⟩ : ByteArray)).length = 2 := by rw [fls_len, a2]; decide
  have i1 : indent ([(⟨#[]⟩ : ByteArray), (⟨#[32, 32, 97]⟩ : ByteArray)].map by_) = 2 := by
    show indent [by_ (⟨#[]⟩ : ByteArray), by_ (⟨#[32, 32, 97]⟩ : ByteArray)] = 2
    rw [show by_ (⟨#[]⟩ : ByteArray) = [] from rfl, show by_ (⟨#[32, 32, 97]⟩ : ByteArray) = [32, 32, 97] from rfl]; decide
  have r1 : rawAt (⟨#[34, 34, 34, 97, 92, 34, 34, 34, 34, 34, 34, 34]⟩ : ByteArray) 0 = (true, [97, 34, 34, 34], 11) := by
    have e0 : at_ (⟨#[34, 34, 34, 97, 92, 34, 34, 34, 34, 34, 34, 34]⟩ : ByteArray) 0 = [34, 34, 34, 97, 92, 34, 34, 34, 34, 34, 34, 34] := rfl
    have e3 : at_ (⟨#[34, 34, 34, 97, 92, 34, 34, 34, 34, 34, 34, 34]⟩ : ByteArray) (0 + 3) = [97, 92, 34, 34, 34, 34, 34, 34, 34] := rfl
    have hn : nxp isc [97, 92, 34, 34, 34, 34, 34, 34, 34] = (97, 1) := nxp_low (by decide) _
    have b1 : rawB [34, 34, 34, 34] = (true, [], 3) := rawB_end (by decide)
    have b2 : rawB [92, 34, 34, 34, 34, 34, 34, 34] = radd 4 [34, 34, 34] (rawB [34, 34, 34, 34]) := rawB_esc (by decide)
    have b3 : rawB [97, 92, 34, 34, 34, 34, 34, 34, 34] = radd 1 [97] (rawB [92, 34, 34, 34, 34, 34, 34, 34]) := by
      rw [rawB_step (by decide) (by decide) (by rw [hn]; decide), hn]; rfl
    unfold rawAt
    rw [e0, e3, if_neg (by decide), b3, b2, b1]; rfl
  unfold copperplatelaw07_awake.f
  rw [f_Fold (by decide), f_Raw (by decide), f_Lines (by decide), f_Indent (by decide), a1, v1, r1, i1]
  simp only [Option.bind_some]
  rw [l1]
  simp only [Lib.toList_data]
  decide
theorem three_b {x : ByteArray} (h : by_ x = [34, 34, 34]) : x.toList = ([34, 34, 34] : List UInt8) := by
  rw [by_inj (h.trans (show ([34, 34, 34] : List Int) = by_ ⟨#[34, 34, 34]⟩ from rfl)), Lib.toList_data]
theorem i64_bounds {n : Int} (h : (Lit.int .i64 n).wf = true) : -9223372036854775808 ≤ n ∧ n ≤ 9223372036854775807 := by
  simp [Lit.wf, IntKind.min, IntKind.max, IntKind.signed, IntKind.bits] at h
  omega
theorem foldEnds_pure : copperplatelaw07_FoldEnds.Pure := by
  intro s i b hs hi hb
  have hib := i64_bounds hi
  refine ⟨5, ?_⟩
  unfold copperplatelaw07_FoldEnds.f
  rw [awake7]
  simp only [Option.bind_some, if_true]
  by_cases h1 : (s.size : Int) > 300
  · rw [if_pos h1, copperplatelaw07_FoldEnds.j0, if_pos rfl]
  rw [if_neg h1]
  by_cases h2 : (b.size : Int) > 300
  · rw [decide_eq_true h2, copperplatelaw07_FoldEnds.j0, if_pos rfl]
  rw [decide_eq_false h2, copperplatelaw07_FoldEnds.j0, if_neg (by decide), f_Raw (by omega), Option.bind_some]
  by_cases h3 : i < 0 ∨ three (at_ s i) = false
  · have e : rawAt s i = (false, [], i) := if_pos h3
    rw [e]
    simp only []
    rw [if_neg (by decide), ba_nil, if_pos (by rw [Lib.toList_data]), if_pos trivial]
  have e : rawAt s i = ((rawB (at_ s (i + 3))).1, (rawB (at_ s (i + 3))).2.1, i + 3 + (rawB (at_ s (i + 3))).2.2) := if_neg h3
  have h0 : 0 ≤ i := by omega
  have h3' : three (at_ s i) = true := by
    cases q : three (at_ s i) with
    | true => rfl
    | false => exact absurd (.inr q) h3
  obtain ⟨m, hm⟩ := three_iff.1 h3'
  have hm3 : at_ s (i + 3) = m := by
    have := at_add s i 3 h0
    rw [show ((3 : Nat) : Int) = 3 from rfl, hm] at this
    exact this
  have hsz : i + 3 + m.length = s.size := by
    by_cases c : i ≤ s.size
    · have := at_length s i h0 c
      rw [hm] at this
      simp only [List.length_cons] at this
      omega
    · have := at_nil s i (by omega)
      rw [hm] at this; cases this
  rw [e, hm3]
  have hfalse := rawB_false m
  have hown := rawB_own m
  cases q : (rawB m).1 with
  | false =>
    obtain ⟨q1, q2⟩ := hfalse q
    simp only []
    rw [if_neg (by decide), q1, ba_nil, if_pos (by rw [Lib.toList_data]), if_neg (by omega), if_pos (by omega), decide_eq_true (by omega)]
  | true =>
    obtain ⟨N, hN⟩ : ∃ N, (rawB m).2.2 = N := ⟨_, rfl⟩
    obtain ⟨q1, q2, q3, q4⟩ := hown q
    rw [hN] at q1 q2 q3 q4 ⊢
    simp only []
    have hown : by_ (s.extract i.toNat (i + 3 + N).toNat) = 34 :: 34 :: 34 :: m.take N := by
      rw [show (i + 3 + N).toNat = i.toNat + (3 + N) by omega, by_extract, List.drop_take, Nat.add_sub_cancel_left]
      show (at_ s i).take _ = _
      rw [hm, show 3 + N = N + 1 + 1 + 1 by omega]; rfl
    have hos : (s.extract i.toNat (i + 3 + N).toNat).size = 3 + N := by
      rw [← by_length, hown]; simp only [List.length_cons, List.length_take]; omega
    obtain ⟨o, ho⟩ : ∃ o, s.extract i.toNat (i + 3 + N).toNat = o := ⟨_, rfl⟩
    rw [ho] at hown hos ⊢
    have e0 : at_ (o ++ b) 0 = 34 :: 34 :: 34 :: (m.take N ++ by_ b) := by rw [at_zero, by_append, hown]; rfl
    have e3 : at_ (o ++ b) (0 + 3) = m.take N ++ by_ b := by rw [show ((0 : Int) + 3) = 0 + ((3 : Nat) : Int) from rfl, at_add _ 0 3 (by omega), e0]; rfl
    have er : rawAt (o ++ b) 0 = (true, (rawB m).2.1, ((3 + N : Nat) : Int)) := by
      unfold rawAt
      rw [e0, e3, q4, if_neg (by rw [three_iff.2 ⟨_, rfl⟩]; decide), q, hN]
      congr 2 <;> omega
    have hob : (o ++ b).size ≤ 1000000 := by rw [ByteArray.size_append]; omega
    have hl3 : by_ (o.extract 0 3) = [34, 34, 34] := by rw [by_extract, hown]; rfl
    have hr3 : by_ (o.extract N o.size) = [34, 34, 34] := by
      rw [by_extract, List.take_of_length_le (by rw [by_length]; exact Nat.le_refl _), hown]
      obtain ⟨p, rfl⟩ : ∃ p, N = p + 3 := ⟨N - 3, by omega⟩
      rw [Nat.add_sub_cancel] at q3
      exact q3
    rw [if_pos trivial, if_neg (by omega), if_neg (by omega), w64' (by omega) (by omega), if_neg (by omega), if_pos h0, if_pos (by omega), if_pos (by omega), if_pos (by rw [ByteArray.size_append] at hob; omega), f_Raw hob, er, Option.bind_some]
    simp only []
    rw [if_pos trivial, if_pos trivial, hos, if_pos rfl, if_pos (by decide), if_pos (by omega), if_pos (three_b hl3), w64' (by omega) (by omega), if_pos (by omega), if_pos (by omega), show (((3 + N : Nat) : Int) - 3).toNat = N by omega]
    rw [hos] at hr3
    rw [three_b hr3]; rfl
/-! ### FoldBlank -/
theorem sp9 (n : Nat) (h : n ≤ 9) : by_ ((⟨#[32, 32, 32, 32, 32, 32, 32, 32, 32]⟩ : ByteArray).extract 0 n) = List.replicate n 32 := by
  rw [by_extract, show by_ (⟨#[32, 32, 32, 32, 32, 32, 32, 32, 32]⟩ : ByteArray) = List.replicate 9 32 from rfl, List.take_replicate, List.drop_zero, Nat.min_eq_left h]
theorem blk_sp (n : Nat) : blk (List.replicate n 32) = true := blk_iff.2 fun c hc => by rw [List.eq_of_mem_replicate hc]; rfl
theorem noEnd_sp (n : Nat) : ∀ c ∈ List.replicate n (32 : Int), noEnd c = true := fun c hc => by rw [List.eq_of_mem_replicate hc]; rfl
theorem last_sp (n : Nat) : (List.replicate n (32 : Int)).getLast? ≠ some 13 := fun h => by
  have := List.eq_of_mem_replicate (List.mem_of_getLast? h)
  cases this
theorem last_by (s : ByteArray) (h : 0 < s.size) : (by_ s).getLast? = some (bt s ((s.size : Int) - 1)) := by
  rw [List.getLast?_eq_getElem?, by_length]
  have hg := bt_by s ((s.size : Int) - 1) (by omega)
  rw [show ((s.size : Int) - 1).toNat = s.size - 1 by omega] at hg
  exact hg
theorem foldBlank_pure : copperplatelaw07_FoldBlank.Pure := by
  intro s n hs hn
  have hnb := i64_bounds hn
  refine ⟨5, ?_⟩
  unfold copperplatelaw07_FoldBlank.f
  rw [awake7]
  simp only [Option.bind_some, if_true]
  by_cases h1 : (s.size : Int) > 300
  · rw [if_pos h1, copperplatelaw07_FoldBlank.j0, if_pos rfl]
  rw [if_neg h1]
  by_cases h2 : n < 0
  · rw [if_pos h2, copperplatelaw07_FoldBlank.j0, if_pos rfl]
  rw [if_neg h2]
  by_cases h3 : n > 9
  · rw [decide_eq_true h3, copperplatelaw07_FoldBlank.j0, if_pos rfl]
  rw [decide_eq_false h3, copperplatelaw07_FoldBlank.j0, if_neg (by decide), if_pos (by omega), if_pos (by omega), if_pos (by omega)]
  obtain ⟨k, rfl⟩ : ∃ k : Nat, n = k := ⟨n.toNat, by omega⟩
  rw [Int.toNat_natCast]
  have hsp := sp9 k (by omega)
  obtain ⟨x, hx⟩ : ∃ x, (⟨#[32, 32, 32, 32, 32, 32, 32, 32, 32]⟩ : ByteArray).extract 0 k = x := ⟨_, rfl⟩
  rw [hx] at hsp ⊢
  have hxs : x.size = k := by rw [← by_length, hsp, List.length_replicate]
  have z1 : ((⟨#[10]⟩ : ByteArray) ++ s).size = 1 + s.size := by rw [ByteArray.size_append]; rfl
  have z2 : (x ++ (⟨#[10, 10]⟩ : ByteArray)).size = k + 2 := by rw [ByteArray.size_append, hxs]; rfl
  have z3 : (x ++ (⟨#[10, 10]⟩ : ByteArray) ++ s).size = k + 2 + s.size := by rw [ByteArray.size_append, z2]
  have z4 : ((⟨#[10]⟩ : ByteArray) ++ s ++ (⟨#[10]⟩ : ByteArray)).size = 1 + s.size + 1 := by rw [ByteArray.size_append, z1]; rfl
  have z5 : ((⟨#[10]⟩ : ByteArray) ++ s ++ (⟨#[10]⟩ : ByteArray) ++ x).size = 1 + s.size + 1 + k := by rw [ByteArray.size_append, z4, hxs]
  have z6 : ((⟨#[9, 13, 10]⟩ : ByteArray) ++ s).size = 3 + s.size := by rw [ByteArray.size_append]; rfl
  have b1 : fl false (by_ ((⟨#[10]⟩ : ByteArray) ++ s)) = [] :: fl false (by_ s) := by rw [by_append]; exact fl_ten _
  have b2 : fl false (by_ (x ++ (⟨#[10, 10]⟩ : ByteArray) ++ s)) = List.replicate k 32 :: [] :: fl false (by_ s) := by
    rw [by_append, by_append, hsp, List.append_assoc, show by_ (⟨#[10, 10]⟩ : ByteArray) ++ by_ s = 10 :: 10 :: by_ s from rfl, fl_join_ten (last_sp k), fl_ten, fl_plain false _ (noEnd_sp k)]; rfl
  have b6 : fl false (by_ ((⟨#[9, 13, 10]⟩ : ByteArray) ++ s)) = [9] :: fl false (by_ s) := by
    rw [by_append, show by_ (⟨#[9, 13, 10]⟩ : ByteArray) ++ by_ s = [9] ++ 13 :: 10 :: by_ s from rfl, fl_join_crlf (by decide)]; rfl
  have f2 : foldL (by_ (x ++ (⟨#[10, 10]⟩ : ByteArray) ++ s)) = foldL (by_ ((⟨#[10]⟩ : ByteArray) ++ s)) := by
    unfold foldL; rw [b1, b2, fold_blank1 (blk_sp k)]
  have f6 : foldL (by_ ((⟨#[9, 13, 10]⟩ : ByteArray) ++ s)) = foldL (by_ ((⟨#[10]⟩ : ByteArray) ++ s)) := by
    unfold foldL; rw [b1, b6, fold_blank3 (by decide)]
  rw [hxs, z1, z2, z4, f_Fold (by omega), Option.bind_some, if_pos (by omega), if_pos (by omega), f_Fold (by omega), Option.bind_some, f2, if_pos rfl, if_pos (by omega), if_pos (by omega), f_Fold (by omega), Option.bind_some]
  have tail : s.size > 0 → bt s ((s.size : Int) - 1) = 13 → (if (s.size : Int) > 0 then (if 0 < (s.size : Int) then (if (bt s 0) = 10 then (some true) else (if 0 ≤ (wrap64 ((s.size : Int) - 1)) then (if (wrap64 ((s.size : Int) - 1)) < (s.size : Int) then (some ((bt s (wrap64 ((s.size : Int) - 1))) == 13)) else (none)) else (none))) else (none)) else (some false)) = some true := by
    intro q1 q2
    rw [if_pos (by omega), if_pos (by omega)]
    by_cases q3 : bt s 0 = 10
    · rw [if_pos q3]
    · rw [if_neg q3, w64' (by omega) (by omega), if_pos (by omega), if_pos (by omega), q2]; rfl
  by_cases c : 0 < s.size ∧ bt s ((s.size : Int) - 1) = 13
  · rw [tail c.1 c.2]
    split
    · rw [if_pos (by omega), f_Fold (by omega), Option.bind_some, f6, if_pos rfl]
    · rfl
  have hl : (10 :: by_ s).getLast? ≠ some 13 := by
    by_cases c0 : 0 < s.size
    · intro e
      have hne : by_ s ≠ [] := fun q => by have := by_length s; rw [q] at this; simp at this; omega
      rw [List.getLast?_cons_of_ne_nil hne, last_by s c0] at e
      exact c ⟨c0, Option.some.inj e⟩
    · have hn : by_ s = [] := List.eq_nil_of_length_eq_zero (by rw [by_length]; omega)
      rw [hn]; decide
  have b5 : fl false (by_ ((⟨#[10]⟩ : ByteArray) ++ s ++ (⟨#[10]⟩ : ByteArray) ++ x)) = [] :: (fl false (by_ s) ++ [List.replicate k 32]) := by
    rw [by_append, by_append, by_append, hsp, List.append_assoc, show by_ (⟨#[10]⟩ : ByteArray) ++ by_ s = 10 :: by_ s from rfl, show by_ (⟨#[10]⟩ : ByteArray) ++ List.replicate k 32 = 10 :: List.replicate k 32 from rfl, fl_join_ten hl, fl_ten, fl_plain false _ (noEnd_sp k)]; rfl
  have f5 : foldL (by_ ((⟨#[10]⟩ : ByteArray) ++ s ++ (⟨#[10]⟩ : ByteArray) ++ x)) = foldL (by_ ((⟨#[10]⟩ : ByteArray) ++ s)) := by
    unfold foldL; rw [b1, b5, fold_blank2 (blk_sp k)]
  rw [f5, if_pos rfl, if_pos (by omega), f_Fold (by omega), Option.bind_some, f6, if_pos rfl]
end Go.Proofs.YthcneciafiaphaaDoor.G
