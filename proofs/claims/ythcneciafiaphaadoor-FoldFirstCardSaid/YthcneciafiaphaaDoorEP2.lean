/-
  The laws FoldOnce, FoldFirst, over what their texts compute.
-/
import Derived.Test.YthcneciafiaphaaDoorEP1
import Derived.Test.YthcneciafiaphaaDoorQ3
import Derived.Test.YthcneciafiaphaaDoorQ6
import Derived.Test.YthcneciafiaphaaDoorQ8
namespace Go.Proofs.YthcneciafiaphaaDoor.G
open Go.RowKit Go.Proofs.YthcneciafiaphaaDoor.Q Go.Proofs.YthcneciafiaphaaDoorW.PrintWords Go.Proofs.YthcneciafiaphaaDoor.M
set_option linter.unusedVariables false
set_option linter.unusedSimpArgs false

theorem ref_Margin (s : ByteArray) (hs : s.size ≤ 1000000) : ∀ (r k K : Nat), k + r = s.size → r + 2 ≤ K → copperplateref07_Margin.l0 K s k = some (((k + marg (at_ s k) : Nat)) : Int) := by
  intro r
  induction r with
  | zero =>
    intro k K h hK
    obtain ⟨j, rfl⟩ : ∃ j, K = j + 1 := ⟨K - 1, by omega⟩
    rw [copperplateref07_Margin.l0, if_neg (by omega), at_nil s k (by omega)]; rfl
  | succ r ih =>
    intro k K h hK
    obtain ⟨j, rfl⟩ : ∃ j, K = j + 1 := ⟨K - 1, by omega⟩
    rw [copperplateref07_Margin.l0, if_pos (by omega), if_pos (by omega), at_cons s k (by omega) (by omega), w64' (by omega) (by omega), show (k : Int) + 1 = ((k + 1 : Nat) : Int) from rfl, ih (k + 1) j (by omega) (by omega)]
    by_cases c : bt s k = 9
    · have e : marg (bt s k :: at_ s ((k + 1 : Nat) : Int)) = marg (at_ s ((k + 1 : Nat) : Int)) + 1 := cnt_yes _ (decide_eq_true (.inl c))
      rw [if_pos c, e]; congr 2; omega
    by_cases c2 : bt s k = 32
    · have e : marg (bt s k :: at_ s ((k + 1 : Nat) : Int)) = marg (at_ s ((k + 1 : Nat) : Int)) + 1 := cnt_yes _ (decide_eq_true (.inr c2))
      rw [if_neg c, if_pos c2, e]; congr 2; omega
    · have e : marg (bt s k :: at_ s ((k + 1 : Nat) : Int)) = 0 := cnt_no _ (decide_eq_false (by omega))
      rw [if_neg c, if_neg c2, e]; rfl
theorem ref_Margin_f (K : Nat) (s : ByteArray) (hs : s.size ≤ 1000000) (hK : s.size + 2 ≤ K) : copperplateref07_Margin.f K s = some ((marg (by_ s) : Nat) : Int) := by
  have := ref_Margin s hs s.size 0 K (by omega) hK
  unfold copperplateref07_Margin.f
  rw [show ((0 : Nat) : Int) = 0 from rfl, at_zero, Nat.zero_add] at this
  exact this
/-- The line at a place. -/
theorem fls_get (s : ByteArray) (k : Nat) (h : k < (fls s).length) : (fl false (by_ s))[k]? = some (by_ (rdOf ByteArray.empty (fls s) k)) := by
  have e : rdOf ByteArray.empty (fls s) k = (fls s)[k] := by
    unfold rdOf
    rw [Int.toNat_natCast, List.getD_eq_getElem?_getD, List.getElem?_eq_getElem h]; rfl
  rw [e, ← fls_by, List.getElem?_map, List.getElem?_eq_getElem h]; rfl
theorem sz_mem : ∀ (r : List (List Int)) (x : List Int), x ∈ r → x.length + 1 ≤ sz r
  | [], x, h => absurd h (by simp)
  | y :: r, x, h => by
    rw [sz_cons]
    rcases List.mem_cons.1 h with rfl | h
    · omega
    · have := sz_mem r x h; omega
theorem fls_short (s : ByteArray) (k : Nat) (h : k < (fls s).length) : (rdOf ByteArray.empty (fls s) k).size ≤ s.size := by
  have h1 := sz_mem _ _ (List.mem_of_getElem? (fls_get s k h))
  have h2 := sz_fl false (by_ s)
  rw [by_length] at h1 h2
  omega
theorem foldL_range (s : ByteArray) : ∀ c ∈ foldL (by_ s), 0 ≤ c ∧ c ≤ 255 := by
  intro c hc
  rcases jn_mem _ _ hc with rfl | ⟨x, hx, hcx⟩
  · omega
  have : ∀ y ∈ cutAll (indent (fl false (by_ s))).toNat (fl false (by_ s)), ∀ d ∈ y, 0 ≤ d ∧ d ≤ 255 := by
    have base : ∀ y ∈ fl false (by_ s), ∀ d ∈ y, 0 ≤ d ∧ d ≤ 255 := fun y hy d hd => by_range s d (fl_mem _ _ y hy d hd).2
    intro y hy
    cases hf : fl false (by_ s) with
    | nil => rw [hf] at hy; cases hy
    | cons z r =>
      rw [hf] at hy base
      rcases List.mem_cons.1 hy with rfl | hy
      · exact base _ (by simp)
      · obtain ⟨z2, hz, rfl⟩ := List.mem_map.1 hy
        exact fun d hd => base z2 (by simp [hz]) d (List.mem_of_mem_drop hd)
  exact this x (strip_sub _ x hx) c hcx
theorem by_fold (s : ByteArray) : by_ (ba (foldL (by_ s))) = foldL (by_ s) := by_ba (foldL_range s)
theorem fold_size (s : ByteArray) : (ba (foldL (by_ s))).size ≤ s.size := by
  rw [← by_length, by_fold]
  have := foldL_length (by_ s)
  rw [by_length] at this; exact this
theorem toList_nil {x : ByteArray} : x.toList = ([] : List UInt8) ↔ by_ x = [] := by
  constructor
  · intro h
    have e : x.data.toList = [] := by
      have : (⟨x.data⟩ : ByteArray).toList = ([] : List UInt8) := h
      rw [← Lib.toList_data x]; exact h
    unfold by_; rw [e]; rfl
  · intro h
    rw [by_inj (h.trans (show ([] : List Int) = by_ ⟨#[]⟩ from rfl)), Lib.toList_data]
/-! ### FoldOnce -/
theorem once_j3 (s : ByteArray) (hs : s.size ≤ 600) (K : Nat) (hK : s.size + 3 ≤ K) : copperplatelaw07_FoldOnce.j3 K s (ba (foldL (by_ s))) false = some true := by
  obtain ⟨j, rfl⟩ : ∃ j, K = j + 1 := ⟨K - 1, by omega⟩
  rw [copperplatelaw07_FoldOnce.j3, if_neg (by decide), f_Lines (by omega), Option.bind_some]
  by_cases c : ((fls s).length : Int) = 1
  · rw [if_pos c]
    rcases foldL_single (l := by_ s) (by rw [← fls_len]; omega) with e | ⟨e, e2⟩
    · rw [e, ba_by, if_pos rfl]
    · by_cases c2 : (ba (foldL (by_ s))).toList = s.toList
      · rw [if_pos c2]
      · rw [if_neg c2, if_pos (by rw [e]; rw [ba_nil, Lib.toList_data]), ref_Margin_f j s (by omega) (by omega), Option.bind_some, e2, by_length]
        simp
  · rw [if_neg c]
theorem once_loop (s : ByteArray) (hs : s.size ≤ 600) : ∀ (r k K : Nat), k + r = (ba (foldL (by_ s))).size → r + 1500 ≤ K → copperplatelaw07_FoldOnce.l0 K s (ba (foldL (by_ s))) (fls (ba (foldL (by_ s)))) k = some true := by
  have hz := fold_size s
  intro r
  induction r with
  | zero =>
    intro k K h hK
    obtain ⟨j, rfl⟩ : ∃ j, K = j + 1 := ⟨K - 1, by omega⟩
    obtain ⟨v, hv⟩ : ∃ v, ba (foldL (by_ s)) = v := ⟨_, rfl⟩
    have hbv : by_ v = foldL (by_ s) := by rw [← hv]; exact by_fold s
    have hj3 := once_j3 s hs j (by omega)
    have hne := fl_pos false (by_ v)
    rw [hv] at hz h hj3 ⊢
    have hl := fls_len v
    have hll := fls_length v
    obtain ⟨y, hy⟩ : ∃ y, rdOf ByteArray.empty (fls v) 0 = y := ⟨_, rfl⟩
    obtain ⟨z, hzz⟩ : ∃ z, rdOf ByteArray.empty (fls v) (((fls v).length : Int) - 1) = z := ⟨_, rfl⟩
    have g1 := fls_get v 0 (by omega)
    have s1 := fls_short v 0 (by omega)
    have g2 := fls_get v ((fls v).length - 1) (by omega)
    have s2 := fls_short v ((fls v).length - 1) (by omega)
    rw [show ((0 : Nat) : Int) = 0 from rfl, hy] at g1 s1
    rw [show (((fls v).length - 1 : Nat) : Int) = ((fls v).length : Int) - 1 by omega, hzz] at g2 s2
    rw [copperplatelaw07_FoldOnce.l0, if_neg (by omega), if_pos (by omega), w64' (by omega) (by omega), hy, hzz, ref_Margin_f j y (by omega) (by omega), Option.bind_some, if_pos (by omega), if_pos (by omega), ref_Margin_f j z (by omega) (by omega), Option.bind_some]
    by_cases c : v.toList = ([] : List UInt8)
    · rw [if_pos c]; exact hj3
    have hne : foldL (by_ s) ≠ [] := fun e => c (toList_nil.2 (hbv.trans e))
    have hfl : fl false (by_ v) = foldl_ (fl false (by_ s)) := by rw [hbv]; exact lines_fold (foldL_ne hne)
    have n1 : marg (by_ y) ≠ y.size := by
      rw [hfl] at g1
      cases hf : foldl_ (fl false (by_ s)) with
      | nil => rw [hf] at g1; cases g1
      | cons a t =>
        have := foldl_ends hf
        rw [hf] at g1
        cases g1
        intro e
        rw [show blk (by_ y) = true from decide_eq_true (by rw [by_length]; exact e)] at this
        cases this
    have n2 : marg (by_ z) ≠ z.size := by
      rw [hl, hfl, ← List.getLast?_eq_getElem?] at g2
      have := foldl_last g2
      intro e
      rw [show blk (by_ z) = true from decide_eq_true (by rw [by_length]; exact e)] at this
      cases this
    have e2 : (((marg (by_ z) : Nat) : Int) == (z.size : Int)) = false := beq_eq_false_iff_ne.2 (by omega)
    rw [if_neg c, if_neg (by omega), e2]
    exact hj3
  | succ r ih =>
    intro k K h hK
    obtain ⟨j, rfl⟩ : ∃ j, K = j + 1 := ⟨K - 1, by omega⟩
    have next := ih (k + 1) j (by omega) (by omega)
    have h13 : bt (ba (foldL (by_ s))) k ≠ 13 := by
      have hg := bt_by (ba (foldL (by_ s))) k (by omega)
      rw [by_fold] at hg
      exact foldL_no13 _ _ (List.mem_of_getElem? hg)
    rw [copperplatelaw07_FoldOnce.l0, if_pos (by omega), if_pos (by omega), if_neg h13, w64' (by omega) (by omega)]
    exact next
theorem foldOnce_pure : copperplatelaw07_FoldOnce.Pure := by
  intro s hs
  refine ⟨s.size + 2000, ?_⟩
  have hz := fold_size s
  unfold copperplatelaw07_FoldOnce.f
  rw [awake7]
  simp only [Option.bind_some, if_true]
  rw [copperplatelaw07_FoldOnce.j0]
  by_cases h1 : (s.size : Int) > 600
  · rw [decide_eq_true h1, if_pos rfl]
  have hl := fls_len (ba (foldL (by_ s)))
  have hp := fl_pos false (by_ (ba (foldL (by_ s))))
  have e : (((fls (ba (foldL (by_ s)))).length : Int) == 0) = false := beq_eq_false_iff_ne.2 (by omega)
  rw [decide_eq_false h1, if_neg (by decide), f_Fold (by omega), Option.bind_some, f_Lines (by omega), Option.bind_some, if_neg (by omega), e, copperplatelaw07_FoldOnce.j1, if_neg (by decide)]
  exact once_loop s (by omega) (ba (foldL (by_ s))).size 0 _ (by omega) (by omega)
/-! ### FoldFirst -/
def noMarg (x : List Int) : Bool := decide (marg x = 0 ∧ x ≠ [])
theorem first_loop (v : ByteArray) (hv : v.size ≤ 600) (hE : v.toList ≠ ([] : List UInt8) → (fl false (by_ v)).any noMarg = true ∧ ba (foldL (by_ ((⟨#[10]⟩ : ByteArray) ++ v))) = v) :
    ∀ (r k K : Nat), k + r = (fls v).length → r + 1500 ≤ K → copperplatelaw07_FoldFirst.l0 K v (fls v) (((fl false (by_ v)).take k).any noMarg) k = some true := by
  have hl := fls_len v
  have hll := fls_length v
  intro r
  induction r with
  | zero =>
    intro k K h hK
    obtain ⟨j, rfl⟩ : ∃ j, K = j + 1 := ⟨K - 1, by omega⟩
    rw [List.take_of_length_le (by omega), copperplatelaw07_FoldFirst.l0, if_neg (by omega)]
    by_cases c : v.toList = ([] : List UInt8)
    · rw [if_pos c]
    obtain ⟨e1, e2⟩ := hE c
    have z1 : ((⟨#[10]⟩ : ByteArray) ++ v).size = 1 + v.size := by rw [ByteArray.size_append]; rfl
    rw [if_neg c, e1, if_pos rfl, if_pos (by omega), f_Fold (by omega), Option.bind_some, e2]
    simp
  | succ r ih =>
    intro k K h hK
    obtain ⟨j, rfl⟩ : ∃ j, K = j + 1 := ⟨K - 1, by omega⟩
    have next := ih (k + 1) j (by omega) (by omega)
    have g := fls_get v k (by omega)
    have sh := fls_short v k (by omega)
    obtain ⟨y, hy⟩ : ∃ y, rdOf ByteArray.empty (fls v) (k : Int) = y := ⟨_, rfl⟩
    rw [hy] at g sh
    have ht : ((fl false (by_ v)).take (k + 1)).any noMarg = (((fl false (by_ v)).take k).any noMarg || noMarg (by_ y)) := by
      rw [List.take_add_one, g, List.any_append]
      show _ = (_ || noMarg (by_ y))
      simp
    rw [ht] at next
    rw [copperplatelaw07_FoldFirst.l0, if_pos (by omega), w64' (by omega) (by omega), hy]
    cases hb : ((fl false (by_ v)).take k).any noMarg with
    | true => rw [hb, Bool.true_or] at next; rw [if_pos rfl]; exact next
    | false =>
      rw [hb, Bool.false_or] at next
      rw [if_neg (by decide), if_pos (by omega), ref_Margin_f j y (by omega) (by omega), Option.bind_some]
      by_cases c : ((marg (by_ y) : Nat) : Int) = 0
      · have e : noMarg (by_ y) = (y.toList != ([] : List UInt8)) := by
          rw [Bool.eq_iff_iff, bne_iff_ne, ne_eq, toList_nil]
          unfold noMarg
          rw [decide_eq_true_eq]
          exact ⟨fun q => q.2, fun q => ⟨by omega, q⟩⟩
        rw [if_pos c, ← e]; exact next
      · have e : noMarg (by_ y) = false := decide_eq_false (fun q => c (by omega))
        rw [if_neg c, ← e]; exact next
theorem foldFirst_pure : copperplatelaw07_FoldFirst.Pure := by
  intro s hs
  refine ⟨3000, ?_⟩
  unfold copperplatelaw07_FoldFirst.f
  rw [awake7]
  simp only [Option.bind_some, if_true]
  rw [copperplatelaw07_FoldFirst.j0]
  by_cases h1 : (s.size : Int) > 300
  · rw [decide_eq_true h1, if_pos rfl]
  have z1 : ((⟨#[10]⟩ : ByteArray) ++ s).size = 1 + s.size := by rw [ByteArray.size_append]; rfl
  have hz := fold_size ((⟨#[10]⟩ : ByteArray) ++ s)
  have hbf := by_fold ((⟨#[10]⟩ : ByteArray) ++ s)
  have b1 : fl false (by_ ((⟨#[10]⟩ : ByteArray) ++ s)) = [] :: fl false (by_ s) := by rw [by_append]; exact fl_ten _
  rw [decide_eq_false h1, if_neg (by decide), if_pos (by omega), f_Fold (by omega), Option.bind_some, f_Lines (by omega), Option.bind_some]
  obtain ⟨v, hv⟩ : ∃ v, ba (foldL (by_ ((⟨#[10]⟩ : ByteArray) ++ s))) = v := ⟨_, rfl⟩
  rw [hv] at hz hbf ⊢
  have hll := fls_length v
  refine first_loop v (by omega) ?_ (fls v).length 0 _ (by omega) (by omega)
  intro c
  have hne : foldL (by_ ((⟨#[10]⟩ : ByteArray) ++ s)) ≠ [] := fun e => c (toList_nil.2 (hbf.trans e))
  have hfl : fl false (by_ v) = foldl_ ([] :: fl false (by_ s)) := by rw [hbf, ← b1]; exact lines_fold (foldL_ne hne)
  have hfn := foldL_ne hne
  rw [b1] at hfn
  obtain ⟨⟨x, q1, q2, q3⟩, q4⟩ := fold_first hfn
  refine ⟨?_, ?_⟩
  · rw [hfl, List.any_eq_true]
    exact ⟨x, q1, decide_eq_true ⟨q2, q3⟩⟩
  · have e : foldL (by_ ((⟨#[10]⟩ : ByteArray) ++ v)) = foldL (by_ ((⟨#[10]⟩ : ByteArray) ++ s)) := by
      have b2 : fl false (by_ ((⟨#[10]⟩ : ByteArray) ++ v)) = [] :: fl false (by_ v) := by rw [by_append]; exact fl_ten _
      unfold foldL
      rw [b2, hfl, q4, b1]
    rw [e, hv]
end Go.Proofs.YthcneciafiaphaaDoor.G
