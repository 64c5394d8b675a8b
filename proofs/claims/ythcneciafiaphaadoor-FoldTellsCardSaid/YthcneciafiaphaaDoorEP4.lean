/-
  The law FoldTells, the rest: the document's indent and folding.
-/
import Derived.Test.YthcneciafiaphaaDoorEP3
namespace Go.Proofs.YthcneciafiaphaaDoor.G
open Go.RowKit Go.Proofs.YthcneciafiaphaaDoor.Q Go.Proofs.YthcneciafiaphaaDoorW.PrintWords Go.Proofs.YthcneciafiaphaaDoor.M
set_option linter.unusedVariables false
set_option linter.unusedSimpArgs false

theorem rdOf_get (l : List ByteArray) (k : Nat) (h : k < l.length) : rdOf ByteArray.empty l (k : Int) = l[k] := by
  unfold rdOf
  rw [Int.toNat_natCast, List.getD_eq_getElem?_getD, List.getElem?_eq_getElem h]; rfl
theorem blk_size (y : ByteArray) : blk (by_ y) = decide (((marg (by_ y) : Nat) : Int) = (y.size : Int)) := by
  unfold blk
  rw [by_length, decide_eq_decide]; omega
theorem ref_Indent (l : List ByteArray) (hl : l.length ≤ 100000) (hs : ∀ x ∈ l, x.size ≤ 1000) : ∀ (r k K : Nat) (a : Int), k + r = l.length → r + 1500 ≤ K → -1 ≤ a → copperplateref07_Indent.l0 K l a k = some (ind a ((l.drop k).map by_)) := by
  intro r
  induction r with
  | zero =>
    intro k K a h hK ha
    obtain ⟨j, rfl⟩ : ∃ j, K = j + 1 := ⟨K - 1, by omega⟩
    rw [copperplateref07_Indent.l0, if_neg (by omega), List.drop_eq_nil_iff.2 (by omega)]; rfl
  | succ r ih =>
    intro k K a h hK ha
    obtain ⟨j, rfl⟩ : ∃ j, K = j + 1 := ⟨K - 1, by omega⟩
    have hk : k < l.length := by omega
    have hg := rdOf_get l k hk
    have hd := List.drop_eq_getElem_cons hk
    have hz := hs _ (List.getElem_mem hk)
    obtain ⟨y, hy⟩ : ∃ y, l[k] = y := ⟨_, rfl⟩
    rw [hy] at hg hd hz
    have hb := blk_size y
    have hml := marg_le (by_ y)
    rw [by_length] at hml
    rw [copperplateref07_Indent.l0, if_pos (by omega), if_pos (by omega), hg, ref_Margin_f j y (by omega) (by omega), Option.bind_some, w64' (by omega) (by omega), show (k : Int) + 1 = ((k + 1 : Nat) : Int) from rfl, hd, List.map_cons, ind]
    by_cases c : ((marg (by_ y) : Nat) : Int) < (y.size : Int)
    · have hbf : blk (by_ y) = false := by rw [hb]; exact decide_eq_false (by omega)
      rw [if_pos c]
      by_cases c2 : a = -1
      · rw [if_pos c2, if_pos ⟨hbf, .inl (by omega)⟩]
        exact ih (k + 1) j _ (by omega) (by omega) (by omega)
      · rw [if_neg c2]
        by_cases c3 : ((marg (by_ y) : Nat) : Int) < a
        · rw [if_pos c3, if_pos ⟨hbf, .inr c3⟩]
          exact ih (k + 1) j _ (by omega) (by omega) (by omega)
        · rw [if_neg c3, if_neg (fun q => by rcases q.2 with q | q <;> omega)]
          exact ih (k + 1) j _ (by omega) (by omega) ha
    · have hbt : blk (by_ y) = true := by rw [hb]; exact decide_eq_true (by omega)
      rw [if_neg c, if_neg (fun q => by rw [hbt] at q; cases q.1)]
      exact ih (k + 1) j _ (by omega) (by omega) ha
theorem ref_Indent_f (K : Nat) (l : List ByteArray) (hl : l.length ≤ 100000) (hs : ∀ x ∈ l, x.size ≤ 1000) (hK : l.length + 1500 ≤ K) : copperplateref07_Indent.f K l = some (indent (l.map by_)) := by
  unfold copperplateref07_Indent.f indent
  cases l with
  | nil =>
    obtain ⟨j, rfl⟩ : ∃ j, K = j + 1 := ⟨K - 1, by omega⟩
    rw [copperplateref07_Indent.l0, if_neg (by simp)]; rfl
  | cons x r =>
    have hl2 : (x :: r).length = r.length + 1 := rfl
    have := ref_Indent (x :: r) hl hs r.length 1 K (-1) (by omega) (by omega) (Int.le_refl _)
    exact this
/-! ### The document's folding -/
theorem jn_snoc (r : List (List Int)) (x : List Int) (h : r ≠ []) : jn (r ++ [x]) = jn r ++ 10 :: x := by
  cases r with
  | nil => exact absurd rfl h
  | cons y t => unfold jn; simp
theorem ref_l3 (X : List ByteArray) (hl : X.length ≤ 1000) (hs : ∀ x ∈ X, x.size ≤ 1000) : ∀ (r k K : Nat) (acc : ByteArray), k + r = X.length → r + 2 ≤ K → by_ acc = jn ((X.map by_).take k) → acc.size ≤ 1001 * k →
    copperplateref07_Fold.l3 K X acc k = some (ba (jn (X.map by_))) := by
  intro r
  induction r with
  | zero =>
    intro k K acc h hK ha hz
    obtain ⟨j, rfl⟩ : ∃ j, K = j + 1 := ⟨K - 1, by omega⟩
    rw [List.take_of_length_le (by rw [List.length_map]; omega)] at ha
    rw [copperplateref07_Fold.l3, if_neg (by omega), ← ha, ba_by]
  | succ r ih =>
    intro k K acc h hK ha hz
    obtain ⟨j, rfl⟩ : ∃ j, K = j + 1 := ⟨K - 1, by omega⟩
    have hk : k < X.length := by omega
    have hg := rdOf_get X k hk
    have hy2 := hs _ (List.getElem_mem hk)
    have ht : (X.map by_).take (k + 1) = (X.map by_).take k ++ [by_ X[k]] := by
      rw [List.take_add_one, List.getElem?_map, List.getElem?_eq_getElem hk]; rfl
    obtain ⟨y, hy⟩ : ∃ y, X[k] = y := ⟨_, rfl⟩
    rw [hy] at hg hy2 ht
    have z1 : (acc ++ (⟨#[10]⟩ : ByteArray)).size = acc.size + 1 := by rw [ByteArray.size_append]; rfl
    rw [copperplateref07_Fold.l3, if_pos (by omega), hg, w64' (by omega) (by omega), show (k : Int) + 1 = ((k + 1 : Nat) : Int) from rfl]
    by_cases h0 : k = 0
    · subst h0
      rw [if_neg (by omega), if_pos (by omega), if_pos (by omega)]
      refine ih (0 + 1) j _ (by omega) (by omega) ?_ (by rw [ByteArray.size_append]; omega)
      rw [by_append, ha, ht]
      show [] ++ by_ y = by_ y ++ []
      rw [List.nil_append, List.append_nil]
    · rw [if_pos (by omega), if_pos (by omega), if_pos (by omega), if_pos (by omega)]
      refine ih (k + 1) j _ (by omega) (by omega) ?_ (by rw [ByteArray.size_append, z1]; omega)
      have hne : (X.map by_).take k ≠ [] := by
        intro e
        have := congrArg List.length e
        rw [List.length_take, List.length_map] at this
        have e0 : ([] : List (List Int)).length = 0 := rfl
        omega
      rw [by_append, by_append, ha, ht, jn_snoc _ _ hne, List.append_assoc]; rfl
theorem ref_l3_f (X : List ByteArray) (hl : X.length ≤ 1000) (hs : ∀ x ∈ X, x.size ≤ 1000) (K : Nat) (hK : X.length + 2 ≤ K) : copperplateref07_Fold.l3 K X ⟨#[]⟩ 0 = some (ba (jn (X.map by_))) :=
  ref_l3 X hl hs X.length 0 K ⟨#[]⟩ (by omega) hK (by rw [List.take_zero]; rfl) (Nat.zero_le _)
theorem ref_l2 : ∀ (n : Nat) (X : List ByteArray) (K : Nat), X.length = n → n ≤ 1000 → (∀ x ∈ X, x.size ≤ 1000) → 2 * n + 1500 ≤ K → copperplateref07_Fold.l2 K X = some (ba (jn (tailless (X.map by_)))) := by
  intro n
  induction n with
  | zero =>
    intro X K h hn hs hK
    obtain ⟨j, rfl⟩ : ∃ j, K = j + 1 + 1 := ⟨K - 2, by omega⟩
    obtain rfl : X = [] := List.eq_nil_of_length_eq_zero h
    rw [copperplateref07_Fold.l2, if_neg (by simp), copperplateref07_Fold.j4, ref_l3_f [] (by simp) (by simp) j (by simp; omega)]
    rfl
  | succ n ih =>
    intro X K h hn hs hK
    obtain ⟨j, rfl⟩ : ∃ j, K = j + 1 + 1 := ⟨K - 2, by omega⟩
    have hk : n < X.length := by omega
    have hg := rdOf_get X n hk
    have hy2 := hs _ (List.getElem_mem hk)
    have hX : X = X.take n ++ [X[n]] := by
      conv => lhs; rw [← List.take_append_drop n X, List.drop_eq_getElem_cons hk, List.drop_eq_nil_iff.2 (by omega)]
    obtain ⟨y, hy⟩ : ∃ y, X[n] = y := ⟨_, rfl⟩
    rw [hy] at hg hy2 hX
    have hm : X.map by_ = (X.take n).map by_ ++ [by_ y] := by have q := congrArg (List.map by_) hX; rw [List.map_append] at q; exact q
    have hb := blk_size y
    have e1 : (X.length : Int) - 1 = (n : Int) := by omega
    rw [copperplateref07_Fold.l2, if_pos (by omega), e1, w64' (by omega) (by omega), if_pos (by omega), if_pos (by omega), hg, ref_Margin_f (j + 1) y (by omega) (by omega), Option.bind_some]
    by_cases c : ((marg (by_ y) : Nat) : Int) = (y.size : Int)
    · rw [if_pos c, if_pos (by omega), Int.toNat_natCast, ih (X.take n) (j + 1) (by rw [List.length_take]; omega) (by omega) (fun x hx => hs x (List.mem_of_mem_take hx)) (by omega), hm, tailless_blk _ (by rw [hb]; exact decide_eq_true c)]
    · rw [if_neg c, copperplateref07_Fold.j4, ref_l3_f X (by omega) hs j (by omega), tailless_id]
      intro x hx
      rw [hm, List.getLast?_append] at hx
      simp only [List.getLast?_singleton, Option.some_or, Option.some.injEq] at hx
      rw [← hx, hb]
      exact decide_eq_false c
theorem ref_l1 : ∀ (X : List ByteArray) (K : Nat), X.length ≤ 1000 → (∀ x ∈ X, x.size ≤ 1000) → 3 * X.length + 1510 ≤ K → copperplateref07_Fold.l1 K X = some (ba (jn (strip (X.map by_)))) := by
  intro X
  induction X with
  | nil =>
    intro K hl hs hK
    obtain ⟨j, rfl⟩ : ∃ j, K = j + 1 + 1 := ⟨K - 2, by omega⟩
    rw [copperplateref07_Fold.l1, if_neg (by simp), copperplateref07_Fold.j2, ref_l2 0 [] j rfl (by omega) (by simp) (by simp at hK; omega)]
    rfl
  | cons y r ih =>
    intro K hl hs hK
    obtain ⟨j, rfl⟩ : ∃ j, K = j + 1 + 1 := ⟨K - 2, by omega⟩
    have hlen : (y :: r).length = r.length + 1 := rfl
    have hg : rdOf ByteArray.empty (y :: r) 0 = y := rfl
    have hy2 := hs y (by simp)
    have hb := blk_size y
    rw [copperplateref07_Fold.l1, if_pos (by omega), if_pos (by omega), hg, ref_Margin_f (j + 1) y (by omega) (by omega), Option.bind_some, List.map_cons]
    by_cases c : ((marg (by_ y) : Nat) : Int) = (y.size : Int)
    · rw [if_pos c, if_pos (by omega), strip_blk (by rw [hb]; exact decide_eq_true c)]
      exact ih (j + 1) (by omega) (fun x hx => hs x (by simp [hx])) (by omega)
    · rw [if_neg c, copperplateref07_Fold.j2, ref_l2 (y :: r).length (y :: r) j rfl hl hs (by omega)]
      unfold strip
      rw [headless_no (by rw [hb]; exact decide_eq_false c)]; rfl
/-- A line without its first bytes. -/
def cutb (n : Int) (s : ByteArray) : ByteArray := ba ((by_ s).drop n.toNat)
theorem cutb_no {n : Int} (h : ¬ n > 0) (s : ByteArray) : cutb n s = s := by unfold cutb; rw [show n.toNat = 0 by omega, List.drop_zero, ba_by]
theorem ref_cut (s : ByteArray) (n : Int) (h : 0 ≤ n) : copperplateref07_cut.f s n = some (cutb n s) := by
  unfold copperplateref07_cut.f cutb
  by_cases c : n > (s.size : Int)
  · rw [if_pos c, List.drop_eq_nil_iff.2 (by rw [by_length]; omega)]; rfl
  · rw [if_neg c, if_pos h, if_pos (by omega)]
    have e : by_ (s.extract n.toNat s.size) = (by_ s).drop n.toNat := by rw [by_extract, List.take_of_length_le (by rw [by_length]; exact Nat.le_refl _)]
    rw [← e, ba_by]
theorem ref_l0 (L : List ByteArray) (n : Int) (hl : L.length ≤ 1000) : ∀ (r k J : Nat) (out : List ByteArray), k + r = L.length → 1 ≤ k → out.length ≤ k → copperplateref07_Fold.l0 (J + r + 1) L n out k = copperplateref07_Fold.l1 J (out ++ (L.drop k).map (cutb n)) := by
  intro r
  induction r with
  | zero =>
    intro k J out h hk ho
    rw [copperplateref07_Fold.l0, if_neg (by omega), List.drop_eq_nil_iff.2 (by omega), List.map_nil, List.append_nil]
  | succ r ih =>
    intro k J out h hk ho
    have hlt : k < L.length := by omega
    have hg := rdOf_get L k hlt
    have hd := List.drop_eq_getElem_cons hlt
    obtain ⟨y, hy⟩ : ∃ y, L[k] = y := ⟨_, rfl⟩
    rw [hy] at hg hd
    have fin : copperplateref07_Fold.l0 (J + r + 1) L n (out ++ [cutb n y]) ((k + 1 : Nat) : Int) = copperplateref07_Fold.l1 J (out ++ (L.drop k).map (cutb n)) := by
      rw [ih (k + 1) J _ (by omega) (by omega) (by rw [List.length_append]; show out.length + 1 ≤ _; omega), hd, List.map_cons, List.append_assoc]; rfl
    rw [show J + (r + 1) + 1 = (J + r + 1) + 1 by omega, copperplateref07_Fold.l0, if_pos (by omega), if_pos (by omega), if_pos (by omega), hg, w64' (by omega) (by omega), show (k : Int) + 1 = ((k + 1 : Nat) : Int) from rfl]
    by_cases c : n > 0
    · rw [if_pos c, ref_cut y n (by omega), Option.bind_some, if_pos (by omega)]; exact fin
    · rw [if_neg c, if_pos (by omega)]
      rw [cutb_no c] at fin; exact fin
theorem fls_all (s : ByteArray) (x : ByteArray) (h : x ∈ fls s) : x.size ≤ s.size := by
  have h1 : by_ x ∈ fl false (by_ s) := by rw [← fls_by]; exact List.mem_map_of_mem h
  have h2 := sz_mem _ _ h1
  have h3 := sz_fl false (by_ s)
  rw [by_length] at h2 h3
  omega
theorem ref_Fold_f (K : Nat) (s : ByteArray) (hs : s.size ≤ 600) (hK : 10000 ≤ K) : copperplateref07_Fold.f K s = some (ba (foldL (by_ s))) := by
  have hll := fls_length s
  have hall := fls_all s
  unfold copperplateref07_Fold.f
  rw [ref_Lines_f K s (by omega) (by omega), Option.bind_some, ref_Indent_f K (fls s) (by omega) (fun x hx => by have := hall x hx; omega) (by omega), Option.bind_some, fls_by]
  unfold foldL foldl_
  obtain ⟨n, hn⟩ : ∃ n, indent (fl false (by_ s)) = n := ⟨_, rfl⟩
  rw [hn]
  have hby := fls_by s
  cases hf : fls s with
  | nil =>
    have := fls_len s
    have hp := fl_pos false (by_ s)
    rw [hf] at this; simp at this; omega
  | cons x r =>
    rw [hf] at hll hall hby
    have hlen : (x :: r).length = r.length + 1 := rfl
    obtain ⟨J, rfl⟩ : ∃ J, K = (J + r.length + 1) + 1 := ⟨K - r.length - 2, by omega⟩
    have e := ref_l0 (x :: r) n (by omega) r.length 1 J [x] (by omega) (Nat.le_refl _) (Nat.le_refl _)
    rw [copperplateref07_Fold.l0, if_pos (by omega), if_pos (by omega), if_neg (by omega), if_pos (by simp), w64' (by omega) (by omega)]
    show copperplateref07_Fold.l0 (J + r.length + 1) (x :: r) n ([] ++ [x]) ((1 : Nat) : Int) = _
    rw [List.nil_append, e]
    show copperplateref07_Fold.l1 J (x :: r.map (cutb n)) = _
    have hc : ∀ y ∈ r, by_ (cutb n y) = (by_ y).drop n.toNat := fun y hy => by_ba (fun c hc => by_range y c (List.mem_of_mem_drop hc))
    rw [ref_l1 (x :: r.map (cutb n)) J (by rw [List.length_cons, List.length_map]; omega) ?_ (by rw [List.length_cons, List.length_map]; omega)]
    · congr 3
      rw [← hby, List.map_cons, List.map_map, List.map_cons]
      show strip (by_ x :: _) = strip (by_ x :: _)
      congr 2
      rw [List.map_map]
      exact List.map_congr_left hc
    · intro y hy
      rcases List.mem_cons.1 hy with rfl | hy
      · have := hall y (by simp); omega
      · obtain ⟨z, hz, rfl⟩ := List.mem_map.1 hy
        have h1 := hall z (by simp [hz])
        unfold cutb
        rw [ba_size, List.length_drop, by_length]; omega
theorem tells_l0 (s : ByteArray) (i : Int) (hs : s.size ≤ 600) (l : List ByteArray) (hl : l.length ≤ 60) : ∀ (r k K : Nat), k + r = l.length → r + 10001 ≤ K → (∀ x ∈ l.take k, x.size ≤ 600) → copperplatelaw07_FoldTells.l0 K s i l k = some true := by
  intro r
  induction r with
  | zero =>
    intro k K h hK ha
    obtain ⟨j, rfl⟩ : ∃ j, K = j + 1 := ⟨K - 1, by omega⟩
    rw [List.take_of_length_le (by omega)] at ha
    have hll := fls_length s
    rw [copperplatelaw07_FoldTells.l0, if_neg (by omega), f_Raw (by omega), Option.bind_some, ref_Raw_f j s i hs (by omega), Option.bind_some, f_Lines (by omega), Option.bind_some, ref_Lines_f j s (by omega) (by omega), Option.bind_some, texts_f _ (by omega) j (by omega), Option.bind_some]
    simp only []
    rw [if_pos trivial, if_pos trivial, if_pos (by rw [beq_self_eq_true]), if_pos trivial, f_Indent ⟨by omega, fun x hx => by have := ha x hx; omega⟩, Option.bind_some, ref_Indent_f j l (by omega) (fun x hx => by have := ha x hx; omega) (by omega), Option.bind_some, if_pos rfl, f_Fold (by omega), Option.bind_some, ref_Fold_f j s hs (by omega), Option.bind_some, beq_self_eq_true]
  | succ r ih =>
    intro k K h hK ha
    obtain ⟨j, rfl⟩ : ∃ j, K = j + 1 := ⟨K - 1, by omega⟩
    have hk : k < l.length := by omega
    have hg := rdOf_get l k hk
    obtain ⟨y, hy⟩ : ∃ y, l[k] = y := ⟨_, rfl⟩
    have ht : l.take (k + 1) = l.take k ++ [y] := by rw [List.take_add_one, List.getElem?_eq_getElem hk, hy]; rfl
    rw [hy] at hg
    rw [copperplatelaw07_FoldTells.l0, if_pos (by omega), if_pos (by omega), hg, w64' (by omega) (by omega)]
    by_cases c : (y.size : Int) > 600
    · rw [if_pos c]
    · rw [if_neg c]
      refine ih (k + 1) j (by omega) (by omega) ?_
      intro x hx
      rw [ht] at hx
      rcases List.mem_append.1 hx with hx | hx
      · exact ha x hx
      · rw [List.mem_singleton.1 hx]; omega
theorem foldTells_pure (s : ByteArray) (i : Int) (l : List ByteArray) : copperplatelaw07_FoldTells.f 20000 s i l = some true := by
  unfold copperplatelaw07_FoldTells.f
  rw [awake7]
  simp only [Option.bind_some, if_true]
  by_cases h1 : (s.size : Int) > 600
  · rw [if_pos h1, copperplatelaw07_FoldTells.j0, if_pos rfl]
  rw [if_neg h1, copperplatelaw07_FoldTells.j0]
  by_cases h2 : (l.length : Int) > 60
  · rw [decide_eq_true h2, if_pos rfl]
  rw [decide_eq_false h2, if_neg (by decide)]
  exact tells_l0 s i (by omega) l (by omega) l.length 0 19999 (by omega) (by omega) (fun x hx => by rw [List.take_zero] at hx; cases hx)
end Go.Proofs.YthcneciafiaphaaDoor.G
