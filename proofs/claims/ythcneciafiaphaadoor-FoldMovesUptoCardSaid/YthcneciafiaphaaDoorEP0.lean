/-
  The laws over block strings, over what their texts compute: what they share. Plain Lean, no program's walk in sight.
-/
import Derived.Test.YthcneciafiaphaaDoorFC
import Derived.Test.YthcneciafiaphaaDoorF3
import Derived.IntWalk
import Derived.Test.YthcneciafiaphaaDoorQ1
import Derived.Test.YthcneciafiaphaaDoorQ3
namespace Go.Proofs.YthcneciafiaphaaDoor.G
open Go.RowKit Go.Proofs.YthcneciafiaphaaDoor.Q Go.Proofs.YthcneciafiaphaaDoorW.PrintWords Go.Proofs.YthcneciafiaphaaDoor.M
set_option linter.unusedVariables false
set_option linter.unusedSimpArgs false

theorem w64' {n : Int} (h0 : -9223372036854775808 ≤ n) (h1 : n ≤ 9223372036854775807) : wrap64 n = n := IntWalk.wrap64_in n ⟨h0, h1⟩
theorem f_Lines {s : ByteArray} (h : s.size ≤ 2000000) : fold_Lines.f s = some (fls s) := if_pos h
theorem f_Raw {s : ByteArray} (h : s.size ≤ 1000000) (i : Int) : fold_Raw.f s i = some (ba (rawAt s i).2.1, (rawAt s i).2.2, (rawAt s i).1) := if_pos h
theorem f_Fold {s : ByteArray} (h : s.size ≤ 2000000) : fold_Fold.f s = some (ba (foldL (by_ s))) := if_pos h
theorem f_Indent {l : List ByteArray} (h : l.length ≤ 10000000 ∧ ∀ x ∈ l, x.size ≤ 2000000) : fold_Indent.f l = some (indent (l.map by_)) := if_pos h
theorem fls_len (s : ByteArray) : (fls s).length = (fl false (by_ s)).length := by rw [← fls_by, List.length_map]
theorem awake7 : copperplatelaw07_awake.f = some true := by
  have a1 : by_ (⟨#[10, 32, 32, 97, 10, 32, 32, 32, 32, 98, 10]⟩ : ByteArray) = [10, 32, 32, 97, 10, 32, 32, 32, 32, 98, 10] := rfl
  have a2 : by_ (⟨#[97, 13, 10, 98]⟩ : ByteArray) = [97, 13, 10, 98] := rfl
  have v1 : foldL [10, 32, 32, 97, 10, 32, 32, 32, 32, 98, 10] = [97, 10, 32, 32, 98] := by decide
  have l1 : (fls (⟨#[97, 13, 10, 98]⟩ : ByteArray)).length = 2 := by rw [fls_len, a2]; decide
  have i1 : indent ([(⟨#[]⟩ : ByteArray), (⟨#[32, 32, 97]⟩ : ByteArray)].map by_) = 2 := by
    show indent [by_ (⟨#[]⟩ : ByteArray), by_ (⟨#[32, 32, 97]⟩ : ByteArray)] = 2
    rw [show by_ (⟨#[]⟩ : ByteArray) = [] from rfl, show by_ (⟨#[32, 32, 97]⟩ : ByteArray) = [32, 32, 97] from rfl]; decide
  have r1 : rawAt (⟨#[34, 34, 34, 97, 92, 34, 34, 34, 34, 34, 34, 34]⟩ : ByteArray) 0 = (true, [97, 34, 34, 34], 11) := by
    have e0 : at_ (⟨#[34, 34, 34, 97, 92, 34, 34, 34, 34, 34, 34, 34]⟩ : ByteArray) 0 = [34, 34, 34, 97, 92, 34, 34, 34, 34, 34, 34, 34] := rfl
    have e3 : at_ (⟨#[34, 34, 34, 97, 92, 34, 34, 34, 34, 34, 34, 34]⟩ : ByteArray) (0 + 3) = [97, 92, 34, 34, 34, 34, 34, 34, 34] := rfl
    have hn : nxp isc [97, 92, 34, 34, 34, 34, 34, 34, 34] = (97, 1) := nxp_low (by decide) _
    have b1 : rawB [34, 34, 34, 34] = (true, [], 3) := rawB_end (by decide)
    have b2 : rawB [92, 34, 34, 34, 34, 34, 34, 34] = radd 4 [34, 34, 34] (rawB [34, 34, 34, 34]) := rawB_esc (by decide)
    have b3 : rawB [97, 92, 34, 34, 34, 34, 34, 34, 34] = radd 1 [97] (rawB [92, 34, 34, 34, 34, 34, 34, 34]) := by
      rw [rawB_step (by decide) (by decide) (by rw [hn]; decide), hn]; rfl
    unfold rawAt
    rw [e0, e3, if_neg (by decide), b3, b2, b1]; rfl
  unfold copperplatelaw07_awake.f
  rw [f_Fold (by decide), f_Raw (by decide), f_Lines (by decide), f_Indent (by decide), a1, v1, r1, i1]
  simp only [Option.bind_some]
  rw [l1]
  simp only [Lib.toList_data]
  decide
theorem three_b {x : ByteArray} (h : by_ x = [34, 34, 34]) : x.toList = ([34, 34, 34] : List UInt8) := by
  rw [by_inj (h.trans (show ([34, 34, 34] : List Int) = by_ ⟨#[34, 34, 34]⟩ from rfl)), Lib.toList_data]
theorem i64_bounds {n : Int} (h : (Lit.int .i64 n).wf = true) : -9223372036854775808 ≤ n ∧ n ≤ 9223372036854775807 := by
  simp [Lit.wf, IntKind.min, IntKind.max, IntKind.signed, IntKind.bits] at h
  omega
theorem last_by (s : ByteArray) (h : 0 < s.size) : (by_ s).getLast? = some (bt s ((s.size : Int) - 1)) := by
  rw [List.getLast?_eq_getElem?, by_length]
  have hg := bt_by s ((s.size : Int) - 1) (by omega)
  rw [show ((s.size : Int) - 1).toNat = s.size - 1 by omega] at hg
  exact hg
theorem ref_Margin (s : ByteArray) (hs : s.size ≤ 1000000) : ∀ (r k K : Nat), k + r = s.size → r + 2 ≤ K → copperplateref07_Margin.l0 K s k = some (((k + marg (at_ s k) : Nat)) : Int) := by
  intro r
  induction r with
  | zero =>
    intro k K h hK
    obtain ⟨j, rfl⟩ : ∃ j, K = j + 1 := ⟨K - 1, by omega⟩
    rw [copperplateref07_Margin.l0, if_neg (by omega), at_nil s k (by omega)]; rfl
  | succ r ih =>
    intro k K h hK
    obtain ⟨j, rfl⟩ : ∃ j, K = j + 1 := ⟨K - 1, by omega⟩
    rw [copperplateref07_Margin.l0, if_pos (by omega), if_pos (by omega), at_cons s k (by omega) (by omega), w64' (by omega) (by omega), show (k : Int) + 1 = ((k + 1 : Nat) : Int) from rfl, ih (k + 1) j (by omega) (by omega)]
    by_cases c : bt s k = 9
    · have e : marg (bt s k :: at_ s ((k + 1 : Nat) : Int)) = marg (at_ s ((k + 1 : Nat) : Int)) + 1 := cnt_yes _ (decide_eq_true (.inl c))
      rw [if_pos c, e]; congr 2; omega
    by_cases c2 : bt s k = 32
    · have e : marg (bt s k :: at_ s ((k + 1 : Nat) : Int)) = marg (at_ s ((k + 1 : Nat) : Int)) + 1 := cnt_yes _ (decide_eq_true (.inr c2))
      rw [if_neg c, if_pos c2, e]; congr 2; omega
    · have e : marg (bt s k :: at_ s ((k + 1 : Nat) : Int)) = 0 := cnt_no _ (decide_eq_false (by omega))
      rw [if_neg c, if_neg c2, e]; rfl
theorem ref_Margin_f (K : Nat) (s : ByteArray) (hs : s.size ≤ 1000000) (hK : s.size + 2 ≤ K) : copperplateref07_Margin.f K s = some ((marg (by_ s) : Nat) : Int) := by
  have := ref_Margin s hs s.size 0 K (by omega) hK
  unfold copperplateref07_Margin.f
  rw [show ((0 : Nat) : Int) = 0 from rfl, at_zero, Nat.zero_add] at this
  exact this
/-- The line at a place. -/
theorem fls_get (s : ByteArray) (k : Nat) (h : k < (fls s).length) : (fl false (by_ s))[k]? = some (by_ (rdOf ByteArray.empty (fls s) k)) := by
  have e : rdOf ByteArray.empty (fls s) k = (fls s)[k] := by
    unfold rdOf
    rw [Int.toNat_natCast, List.getD_eq_getElem?_getD, List.getElem?_eq_getElem h]; rfl
  rw [e, ← fls_by, List.getElem?_map, List.getElem?_eq_getElem h]; rfl
theorem sz_mem : ∀ (r : List (List Int)) (x : List Int), x ∈ r → x.length + 1 ≤ sz r
  | [], x, h => absurd h (by simp)
  | y :: r, x, h => by
    rw [sz_cons]
    rcases List.mem_cons.1 h with rfl | h
    · omega
    · have := sz_mem r x h; omega
theorem fls_short (s : ByteArray) (k : Nat) (h : k < (fls s).length) : (rdOf ByteArray.empty (fls s) k).size ≤ s.size := by
  have h1 := sz_mem _ _ (List.mem_of_getElem? (fls_get s k h))
  have h2 := sz_fl false (by_ s)
  rw [by_length] at h1 h2
  omega
theorem foldL_range (s : ByteArray) : ∀ c ∈ foldL (by_ s), 0 ≤ c ∧ c ≤ 255 := by
  intro c hc
  rcases jn_mem _ _ hc with rfl | ⟨x, hx, hcx⟩
  · omega
  have : ∀ y ∈ cutAll (indent (fl false (by_ s))).toNat (fl false (by_ s)), ∀ d ∈ y, 0 ≤ d ∧ d ≤ 255 := by
    have base : ∀ y ∈ fl false (by_ s), ∀ d ∈ y, 0 ≤ d ∧ d ≤ 255 := fun y hy d hd => by_range s d (fl_mem _ _ y hy d hd).2
    intro y hy
    cases hf : fl false (by_ s) with
    | nil => rw [hf] at hy; cases hy
    | cons z r =>
      rw [hf] at hy base
      rcases List.mem_cons.1 hy with rfl | hy
      · exact base _ (by simp)
      · obtain ⟨z2, hz, rfl⟩ := List.mem_map.1 hy
        exact fun d hd => base z2 (by simp [hz]) d (List.mem_of_mem_drop hd)
  exact this x (strip_sub _ x hx) c hcx
theorem by_fold (s : ByteArray) : by_ (ba (foldL (by_ s))) = foldL (by_ s) := by_ba (foldL_range s)
theorem fold_size (s : ByteArray) : (ba (foldL (by_ s))).size ≤ s.size := by
  rw [← by_length, by_fold]
  have := foldL_length (by_ s)
  rw [by_length] at this; exact this
theorem toList_nil {x : ByteArray} : x.toList = ([] : List UInt8) ↔ by_ x = [] := by
  constructor
  · intro h
    have e : x.data.toList = [] := by
      have : (⟨x.data⟩ : ByteArray).toList = ([] : List UInt8) := h
      rw [← Lib.toList_data x]; exact h
    unfold by_; rw [e]; rfl
  · intro h
    rw [by_inj (h.trans (show ([] : List Int) = by_ ⟨#[]⟩ from rfl)), Lib.toList_data]
end Go.Proofs.YthcneciafiaphaaDoor.G
