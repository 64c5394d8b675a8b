/-
  The law FoldMoves, over what its text computes, where no string is longer than 1048576 bytes.
-/
import Derived.Test.YthcneciafiaphaaDoorEP0
import Derived.Test.YthcneciafiaphaaDoorQ7
namespace Go.Proofs.YthcneciafiaphaaDoor.G
open Go.RowKit Go.Proofs.YthcneciafiaphaaDoor.Q Go.Proofs.YthcneciafiaphaaDoorW.PrintWords Go.Proofs.YthcneciafiaphaaDoor.M
set_option linter.unusedVariables false
set_option linter.unusedSimpArgs false

theorem mv_get (l : List ByteArray) (k : Nat) (h : k < l.length) : rdOf ByteArray.empty l (k : Int) = l[k] := by
  unfold rdOf
  rw [Int.toNat_natCast, List.getD_eq_getElem?_getD, List.getElem?_eq_getElem h]; rfl
theorem mv_snoc (r : List (List Int)) (x : List Int) (h : r ≠ []) : jn (r ++ [x]) = jn r ++ 10 :: x := by
  cases r with
  | nil => exact absurd rfl h
  | cons y t => unfold jn; simp
/-- Lines of which each but the first has the bytes s ahead. -/
def sh (s : List Int) : List (List Int) → List (List Int)
  | [] => []
  | x :: r => x :: r.map (s ++ ·)
theorem sh_snoc (s : List Int) (L : List (List Int)) (x : List Int) (h : L ≠ []) : sh s (L ++ [x]) = sh s L ++ [s ++ x] := by
  cases L with
  | nil => exact absurd rfl h
  | cons y t => show y :: (t ++ [x]).map (s ++ ·) = y :: t.map (s ++ ·) ++ [s ++ x]; rw [List.map_append]; rfl
theorem sp20 (n : Nat) (h : n ≤ 20) : by_ ((⟨#[32, 32, 32, 32, 32, 32, 32, 32, 32, 32, 32, 32, 32, 32, 32, 32, 32, 32, 32, 32]⟩ : ByteArray).extract 0 n) = List.replicate n 32 := by
  rw [by_extract, show by_ (⟨#[32, 32, 32, 32, 32, 32, 32, 32, 32, 32, 32, 32, 32, 32, 32, 32, 32, 32, 32, 32]⟩ : ByteArray) = List.replicate 20 32 from rfl, List.take_replicate, List.drop_zero, Nat.min_eq_left h]
theorem mv_sp (n : Nat) : blk (List.replicate n 32) = true := blk_iff.2 fun c hc => by rw [List.eq_of_mem_replicate hc]; rfl
theorem mv_spN (n : Nat) : ∀ c ∈ List.replicate n (32 : Int), noEnd c = true := fun c hc => by rw [List.eq_of_mem_replicate hc]; rfl
theorem one_line {x : List Int} (h : (fl false x).length = 1) : ∀ c ∈ x, noEnd c = true := by
  have e := fl_single h
  exact fun c hc => (fl_mem false x x (by rw [e]; simp) c hc).1
theorem moves_eq (n : Nat) (a b : ByteArray) (L : List (List Int)) (ha : by_ a = jn L) (hb : by_ b = jn (sh (List.replicate n 32) L)) (h1 : ∀ x ∈ L, ∀ c ∈ x, noEnd c = true) (hi : 0 ≤ indent L) : foldL (by_ a) = foldL (by_ b) := by
  cases L with
  | nil => exact absurd hi (by decide)
  | cons x r =>
    have e1 : fl false (jn (x :: r)) = x :: r := fl_jn _ (by simp) h1
    have e2 : fl false (jn (x :: r.map (List.replicate n 32 ++ ·))) = x :: r.map (List.replicate n 32 ++ ·) := fl_jn _ (by simp) (by
      intro y hy
      rcases List.mem_cons.1 hy with rfl | hy
      · exact h1 _ (by simp)
      · obtain ⟨z, hz, rfl⟩ := List.mem_map.1 hy
        intro c hc
        rcases List.mem_append.1 hc with hc | hc
        · exact mv_spN n c hc
        · exact h1 z (by simp [hz]) c hc)
    have hb' : by_ b = jn (x :: r.map (List.replicate n 32 ++ ·)) := hb
    unfold foldL
    rw [ha, hb', e1, e2, fold_moves (mv_sp n) x r hi]
theorem moves_l0 (l : List ByteArray) (hl : l.length ≤ 60) (hz : ∀ x ∈ l, x.size ≤ 1048576) (n : Nat) (hn : n ≤ 20) : ∀ (r k K : Nat) (a b : ByteArray), k + r = l.length → 2 * r + 5 ≤ K →
    by_ a = jn ((l.map by_).take k) → by_ b = jn (sh (List.replicate n 32) ((l.map by_).take k)) → (∀ x ∈ l.take k, (fl false (by_ x)).length = 1) → a.size ≤ 1049200 → b.size ≤ a.size + 21 * k →
    copperplatelaw07_FoldMoves.l0 K l n a b k = some true := by
  intro r
  induction r with
  | zero =>
    intro k K a b h hK ha hb h1 sa sb
    obtain ⟨j, rfl⟩ : ∃ j, K = j + 1 := ⟨K - 1, by omega⟩
    rw [List.take_of_length_le (by rw [List.length_map]; omega)] at ha hb
    rw [List.take_of_length_le (by omega)] at h1
    rw [copperplatelaw07_FoldMoves.l0, if_neg (by omega), f_Indent ⟨by omega, fun x hx => by have := hz x hx; omega⟩, Option.bind_some]
    by_cases c : indent (l.map by_) < 0
    · rw [if_pos c]
    · have e := moves_eq n a b (l.map by_) ha hb (fun x hx => by obtain ⟨y, hy, rfl⟩ := List.mem_map.1 hx; exact one_line (h1 y hy)) (by omega)
      rw [if_neg c, f_Fold (by omega), Option.bind_some, f_Fold (by omega), Option.bind_some, e, beq_self_eq_true]
  | succ r ih =>
    intro k K a b h hK ha hb h1 sa sb
    obtain ⟨j, rfl⟩ : ∃ j, K = j + 1 + 1 := ⟨K - 2, by omega⟩
    have hk : k < l.length := by omega
    have hg := mv_get l k hk
    have hyz := hz _ (List.getElem_mem hk)
    have ht : l.take (k + 1) = l.take k ++ [l[k]] := by rw [List.take_add_one, List.getElem?_eq_getElem hk]; rfl
    have htm : (l.map by_).take (k + 1) = (l.map by_).take k ++ [by_ l[k]] := by rw [List.take_add_one, List.getElem?_map, List.getElem?_eq_getElem hk]; rfl
    obtain ⟨y, hy⟩ : ∃ y, l[k] = y := ⟨_, rfl⟩
    rw [hy] at hg hyz ht htm
    rw [copperplatelaw07_FoldMoves.l0, if_pos (by omega)]
    by_cases c1 : (a.size : Int) > 600
    · rw [if_pos c1, copperplatelaw07_FoldMoves.j2, if_pos rfl, if_pos c1]
    have hfl := fls_len y
    have hfp := fl_pos false (by_ y)
    rw [if_neg c1, if_pos (by omega), hg, f_Lines (by omega), Option.bind_some, copperplatelaw07_FoldMoves.j2]
    by_cases c2 : ((fls y).length : Int) = 1
    · have e2 : (((fls y).length : Int) != 1) = false := bne_eq_false_iff_eq.2 c2
      have z1 : (a ++ (⟨#[10]⟩ : ByteArray)).size = a.size + 1 := by rw [ByteArray.size_append]; rfl
      have z2 : (b ++ (⟨#[10]⟩ : ByteArray)).size = b.size + 1 := by rw [ByteArray.size_append]; rfl
      have h1' : ∀ x ∈ l.take (k + 1), (fl false (by_ x)).length = 1 := by
        intro x hx
        rw [ht] at hx
        rcases List.mem_append.1 hx with hx | hx
        · exact h1 x hx
        · rw [List.mem_singleton.1 hx, ← hfl]; omega
      rw [e2, if_neg (by decide), w64' (n := (k : Int) + 1) (by omega) (by omega), show (k : Int) + 1 = ((k + 1 : Nat) : Int) from rfl, hg]
      by_cases h0 : k = 0
      · subst h0
        rw [if_neg (by omega), if_pos (by omega), if_pos (by omega), if_pos (by omega), if_pos (by omega)]
        refine ih (0 + 1) j _ _ (by omega) (by omega) ?_ ?_ h1' (by rw [ByteArray.size_append]; omega) (by rw [ByteArray.size_append, ByteArray.size_append]; omega)
        · rw [by_append, ha, htm]
          show [] ++ by_ y = by_ y ++ []
          rw [List.nil_append, List.append_nil]
        · rw [by_append, hb, htm]
          show [] ++ by_ y = by_ y ++ []
          rw [List.nil_append, List.append_nil]
      · have hne : (l.map by_).take k ≠ [] := by
          intro e
          have := congrArg List.length e
          rw [List.length_take, List.length_map] at this
          have e0 : ([] : List (List Int)).length = 0 := rfl
          omega
        have hne2 : sh (List.replicate n 32) ((l.map by_).take k) ≠ [] := by
          intro e
          cases hq : (l.map by_).take k with
          | nil => exact hne hq
          | cons x t => rw [hq] at e; cases e
        have hsp := sp20 n hn
        rw [Int.toNat_natCast]
        obtain ⟨x, hx⟩ : ∃ x, (⟨#[32, 32, 32, 32, 32, 32, 32, 32, 32, 32, 32, 32, 32, 32, 32, 32, 32, 32, 32, 32]⟩ : ByteArray).extract 0 n = x := ⟨_, rfl⟩
        rw [hx] at hsp ⊢
        have hxs : x.size = n := by rw [← by_length, hsp, List.length_replicate]
        have z3 : (b ++ (⟨#[10]⟩ : ByteArray) ++ x).size = b.size + 1 + n := by rw [ByteArray.size_append, z2, hxs]
        rw [if_pos (by omega), if_pos (by omega), if_pos (by omega), if_pos (by omega), if_pos (by omega), if_pos (by omega), if_pos (by omega), if_pos (by omega), if_pos (by omega), if_pos (by omega)]
        have q1 : (b ++ (⟨#[10]⟩ : ByteArray) ++ x ++ y).size = b.size + 1 + n + y.size := by rw [ByteArray.size_append, z3]
        have q2 : (a ++ (⟨#[10]⟩ : ByteArray) ++ y).size = a.size + 1 + y.size := by rw [ByteArray.size_append, z1]
        refine ih (k + 1) j _ _ (by omega) (by omega) ?_ ?_ h1' (by rw [ByteArray.size_append, z1]; omega) (by rw [q1, q2]; omega)
        · rw [by_append, by_append, ha, htm, mv_snoc _ _ hne, List.append_assoc]; rfl
        · rw [by_append, by_append, by_append, hb, htm, sh_snoc _ _ _ hne, mv_snoc _ _ hne2, hsp, List.append_assoc, List.append_assoc]; rfl
    · have e2 : (((fls y).length : Int) != 1) = true := bne_iff_ne.2 c2
      rw [e2, if_pos rfl, if_neg c1, if_pos (by omega), if_pos (by omega), hg, f_Lines (by omega), Option.bind_some, decide_eq_true (by omega)]
theorem foldMoves_pure (l : List ByteArray) (n : Int) (hz : ∀ x ∈ l, x.size ≤ 1048576) : copperplatelaw07_FoldMoves.f 200 l n = some true := by
  unfold copperplatelaw07_FoldMoves.f
  rw [awake7]
  simp only [Option.bind_some, if_true]
  by_cases h1 : (l.length : Int) > 60
  · rw [if_pos h1, copperplatelaw07_FoldMoves.j0, if_pos rfl]
  rw [if_neg h1]
  by_cases h2 : n < 0
  · rw [if_pos h2, copperplatelaw07_FoldMoves.j0, if_pos rfl]
  rw [if_neg h2, copperplatelaw07_FoldMoves.j0]
  by_cases h3 : n > 20
  · rw [decide_eq_true h3, if_pos rfl]
  rw [decide_eq_false h3, if_neg (by decide)]
  obtain ⟨m, rfl⟩ : ∃ m : Nat, n = m := ⟨n.toNat, by omega⟩
  exact moves_l0 l (by omega) hz m (by omega) l.length 0 199 ⟨#[]⟩ ⟨#[]⟩ (by omega) (by omega) (by rw [List.take_zero]; rfl) (by rw [List.take_zero]; rfl) (fun x hx => by rw [List.take_zero] at hx; cases hx) (by decide) (Nat.zero_le _)
end Go.Proofs.YthcneciafiaphaaDoor.G
