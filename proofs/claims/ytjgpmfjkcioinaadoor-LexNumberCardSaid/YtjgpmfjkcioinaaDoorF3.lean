/-
  Plain mathematics for block strings: what the laws say of folded texts. No program in sight.
-/
import Derived.Test.YtjgpmfjkcioinaaDoorF1
namespace Go.Proofs.YtjgpmfjkcioinaaDoor.M
open Go.Proofs.YtjgpmfjkcioinaaDoorW.PrintWords
set_option linter.unusedVariables false
set_option linter.unusedSimpArgs false

theorem foldl_one (x : List Int) : foldl_ [x] = if blk x = true then [] else [x] := by
  unfold foldl_
  show strip [x] = _
  cases h : blk x with
  | true => rw [strip_blk h, if_pos rfl]; rfl
  | false => rw [if_neg (by simp)]; exact strip_id (fun y t e => by cases e; exact h) (fun y e => by cases e; exact h)
theorem drop_len_add (s y : List Int) (n : Nat) : (s ++ y).drop (n + s.length) = y.drop n := by
  rw [List.drop_append, List.drop_eq_nil_iff.2 (by omega), List.nil_append]; congr 1; omega
theorem fold_moves {s : List Int} (hs : blk s = true) (x : List Int) (r : List (List Int)) (h : 0 ≤ indent (x :: r)) : foldl_ (x :: r.map (s ++ ·)) = foldl_ (x :: r) := by
  have h0 : 0 ≤ ind (-1) r := h
  have e : ind (-1) (r.map (s ++ ·)) = ind (-1) r + s.length := by
    rcases ind_shift s hs r (-1) (-1) (.inl ⟨rfl, rfl⟩) with q | q
    · omega
    · exact q.2
  unfold foldl_
  congr 1
  show x :: (r.map (s ++ ·)).map (List.drop (ind (-1) (r.map (s ++ ·))).toNat) = x :: r.map (List.drop (ind (-1) r).toNat)
  rw [e, List.map_map, show (ind (-1) r + (s.length : Int)).toNat = (ind (-1) r).toNat + s.length by omega]
  congr 2
  funext y
  exact drop_len_add s y _
theorem foldl_first {x : List Int} (hx : blk x = true) (r : List (List Int)) : foldl_ (x :: r) = strip (r.map (List.drop (ind (-1) r).toNat)) := by
  unfold foldl_
  show strip (x :: r.map (List.drop (ind (-1) r).toNat)) = _
  rw [strip_blk hx]
theorem fold_blank1 {x : List Int} (hx : blk x = true) (r : List (List Int)) : foldl_ (x :: [] :: r) = foldl_ ([] :: r) := by
  rw [foldl_first hx, foldl_first (x := []) rfl, ind_blk (x := []) rfl, List.map_cons, strip_blk (by rw [List.drop_nil]; rfl)]
theorem fold_blank2 {x : List Int} (hx : blk x = true) (r : List (List Int)) : foldl_ ([] :: (r ++ [x])) = foldl_ ([] :: r) := by
  have e : ind (-1) (r ++ [x]) = ind (-1) r := by rw [ind_append 0, ind_blk hx]; rfl
  rw [foldl_first (x := []) rfl, foldl_first (x := []) rfl, e, List.map_append, List.map_cons, List.map_nil, strip_end (blk_drop _ hx)]
theorem fold_blank3 {x : List Int} (hx : blk x = true) (r : List (List Int)) : foldl_ (x :: r) = foldl_ ([] :: r) := by
  rw [foldl_first hx, foldl_first (x := []) rfl]
theorem foldl_ends {l : List (List Int)} {x : List Int} {t : List (List Int)} (h : foldl_ l = x :: t) : blk x = false := strip_first h
theorem foldl_last {l : List (List Int)} {x : List Int} (h : (foldl_ l).getLast? = some x) : blk x = false := strip_last h
theorem not_blk_ne {x : List Int} (h : blk x = false) : x ≠ [] := by rintro rfl; cases h
theorem jn_ne {x : List Int} {t : List (List Int)} (h : x ≠ []) : jn (x :: t) ≠ [] := by
  unfold jn
  intro e
  exact h (List.append_eq_nil_iff.1 e).1
theorem fold_first {r : List (List Int)} (h : foldl_ ([] :: r) ≠ []) : (∃ x ∈ foldl_ ([] :: r), marg x = 0 ∧ x ≠ []) ∧ foldl_ ([] :: foldl_ ([] :: r)) = foldl_ ([] :: r) := by
  have e := foldl_first (x := []) rfl r
  obtain ⟨n, hn⟩ : ∃ n, (ind (-1) r).toNat = n := ⟨_, rfl⟩
  rw [hn] at e
  have key : ∃ z ∈ r, blk z = false ∧ ind (-1) r = (marg z : Int) := by
    rcases ind_none r with ⟨_, h2⟩ | ⟨_, _, h3⟩
    · exfalso
      apply h
      rw [e]
      have hall : ∀ x ∈ r.map (List.drop n), blk x = true := by
        intro x hx
        obtain ⟨y, hy, rfl⟩ := List.mem_map.1 hx
        exact blk_drop n (h2 y hy)
      cases hs : strip (r.map (List.drop n)) with
      | nil => rfl
      | cons y t =>
        have := strip_first hs
        rw [hall y (strip_sub _ y (by rw [hs]; simp))] at this; cases this
    · exact h3
  obtain ⟨z, hz, hb, hm⟩ := key
  have hnm : n = marg z := by omega
  have hin : z.drop n ∈ foldl_ ([] :: r) := by
    rw [e]
    exact strip_keep _ _ (List.mem_map.2 ⟨z, hz, rfl⟩) (blk_drop_no (by omega) hb)
  have hbz : blk (z.drop n) = false := blk_drop_no (by omega) hb
  have hm0 : marg (z.drop n) = 0 := by rw [marg_drop z n (by omega)]; omega
  refine ⟨⟨z.drop n, hin, hm0, not_blk_ne hbz⟩, ?_⟩
  obtain ⟨L, hL⟩ : ∃ L, foldl_ ([] :: r) = L := ⟨_, rfl⟩
  rw [hL] at hin ⊢
  have e0 : (ind (-1) L).toNat = 0 := by
    rcases ind_none L with ⟨h1, _⟩ | ⟨h1, h2, _⟩
    · omega
    · have := h2 _ hin hbz; omega
  rw [foldl_first (x := []) rfl L, e0, show L.map (List.drop 0) = L by rw [show (List.drop 0 : List Int → List Int) = id from rfl, List.map_id]]
  refine strip_id (fun x t q => ?_) (fun x q => ?_)
  · exact foldl_ends (l := [] :: r) (by rw [hL]; exact q)
  · exact foldl_last (l := [] :: r) (by rw [hL]; exact q)
/-- How many bytes lines have, with an end for each. -/
def sz (r : List (List Int)) : Nat := (r.map fun x => x.length + 1).sum
theorem sz_cons (x : List Int) (r : List (List Int)) : sz (x :: r) = x.length + 1 + sz r := by unfold sz; rw [List.map_cons, List.sum_cons]
theorem sz_fl : ∀ (b : Bool) (l : List Int), sz (fl b l) ≤ l.length + 1
  | b, [] => by rw [fl_nil]; decide
  | b, c :: l => by
    have h1 := sz_fl false l
    have h2 := sz_fl (decide (c = 13)) l
    rw [fl]
    split
    · simp; omega
    · split
      · rw [sz_cons]; simp; omega
      · rw [fl_head false l, sz_cons] at h1
        rw [sz_cons]
        simp at h1 ⊢; omega
theorem sz_cut (n : Nat) : ∀ (r : List (List Int)), sz (r.map (List.drop n)) ≤ sz r
  | [] => Nat.le_refl _
  | x :: r => by
    have := sz_cut n r
    rw [List.map_cons, sz_cons, sz_cons, List.length_drop]; omega
theorem sz_cutAll (n : Nat) (r : List (List Int)) : sz (cutAll n r) ≤ sz r := by
  cases r with
  | nil => exact Nat.le_refl _
  | cons x r =>
    have := sz_cut n r
    show sz (x :: r.map (List.drop n)) ≤ _
    rw [sz_cons, sz_cons]; omega
theorem sz_head : ∀ (r : List (List Int)), sz (headless r) ≤ sz r
  | [] => Nat.le_refl _
  | x :: r => by
    have := sz_head r
    cases h : blk x with
    | true => rw [headless_blk h, sz_cons]; omega
    | false => rw [headless_no h]; exact Nat.le_refl _
theorem sz_tail : ∀ (r : List (List Int)), sz (tailless r) ≤ sz r
  | [] => Nat.le_refl _
  | x :: r => by
    have := sz_tail r
    rw [tailless]
    split
    · exact Nat.zero_le _
    · rw [sz_cons, sz_cons]; omega
theorem foldl_sz (l : List Int) : sz (foldl_ (fl false l)) ≤ l.length + 1 :=
  Nat.le_trans (sz_tail _) (Nat.le_trans (sz_head _) (Nat.le_trans (sz_cutAll _ _) (sz_fl false l)))
theorem foldL_length (l : List Int) : (foldL l).length ≤ l.length := by
  have h := foldl_sz l
  unfold foldL
  rcases jn_length (foldl_ (fl false l)) with q | q
  · have : (jn (foldl_ (fl false l))).length + 1 = sz (foldl_ (fl false l)) := q
    omega
  · rw [q]; exact Nat.zero_le _
theorem jn_mem : ∀ (r : List (List Int)) (c : Int), c ∈ jn r → c = 10 ∨ ∃ x ∈ r, c ∈ x
  | [], c, h => by cases h
  | x :: r, c, h => by
    unfold jn at h
    rcases List.mem_append.1 h with h | h
    · exact .inr ⟨x, by simp, h⟩
    · obtain ⟨y, hy, hc⟩ := List.mem_flatMap.1 h
      rcases List.mem_cons.1 hc with rfl | hc
      · exact .inl rfl
      · exact .inr ⟨y, by simp [hy], hc⟩
theorem foldL_no13 (l : List Int) : ∀ c ∈ foldL l, c ≠ 13 := by
  intro c hc
  rcases jn_mem _ c hc with rfl | ⟨x, hx, hcx⟩
  · decide
  · exact (noEnd_iff.1 (foldl_mem (fun x hx c hc => (fl_mem false l x hx c hc).1) x hx c hcx)).2
theorem fl_single {l : List Int} (h : (fl false l).length = 1) : fl false l = [l] := by
  refine fl_uncut fun q => ?_
  obtain ⟨c, m, _, _, h3⟩ := fl_cut l q
  have := fl_pos (decide (c = 13)) m
  rw [h3, List.length_cons] at h
  omega
theorem foldL_single {l : List Int} (h : (fl false l).length = 1) : foldL l = l ∨ foldL l = [] ∧ marg l = l.length := by
  unfold foldL
  rw [fl_single h, foldl_one]
  cases hb : blk l with
  | true => exact .inr ⟨by rw [if_pos rfl]; rfl, of_decide_eq_true hb⟩
  | false => left; rw [if_neg (by simp)]; show l ++ [] = l; rw [List.append_nil]
theorem foldL_ne {l : List Int} (h : foldL l ≠ []) : foldl_ (fl false l) ≠ [] := fun e => h (by unfold foldL; rw [e]; rfl)
end Go.Proofs.YtjgpmfjkcioinaaDoor.M
