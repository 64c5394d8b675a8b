/-
  The law LexTells: that what its printed text computes is true. Plain Lean.
-/
import Derived.Test.YtjgpmfjkcioinaaGreatDoorPLQ13
import Derived.Test.YtjgpmfjkcioinaaGreatDoorPLZ6
import Derived.ChangeArms
import Derived.WideShapes
import Derived.ChangeSlices
import Derived.Lib.SmallJoins
import Derived.Test.YtjgpmfjkcioinaaGreatDoorPLGG9
namespace Go.Proofs.YtjgpmfjkcioinaaGreatDoor.G
open Go.RowKit Go.Proofs.YtjgpmfjkcioinaaGreatDoor.Q Go.Proofs.YtjgpmfjkcioinaaGreatDoorW.PrintWords Go.Proofs.YtjgpmfjkcioinaaGreatDoorW.PrintLast Go.Proofs.YtjgpmfjkcioinaaGreatDoor.M
set_option linter.unusedVariables false
set_option linter.unusedSimpArgs false
theorem f_Lex {s : ByteArray} (h : s.size ≤ 1000000) : lex_Lex.f s = some ((lexR (by_ s)).1.map tokQ, (lexR (by_ s)).2.1, (lexR (by_ s)).2.2) := if_pos h
theorem f_One {s : ByteArray} (h : s.size ≤ 1000000) (i : Int) : lex_One.f s i = some (oneT s i) := if_pos h
def lexOut (pre ts : List (LOne × Nat)) (n : Int) : List (LOne × Nat) × Int × Int :=
  match ts.find? (fun x => decide (x.1.e ≠ 0)) with
  | some x => ([], x.1.e, (x.2 : Int) + x.1.n)
  | none => (pre ++ ts, 0, n)
theorem lexOut_bad {pre ts : List (LOne × Nat)} {n : Int} {x : LOne × Nat} (h : x.1.e ≠ 0) : lexOut pre (x :: ts) n = ([], x.1.e, (x.2 : Int) + x.1.n) := by
  unfold lexOut
  rw [List.find?_cons_of_pos (by simp [h])]
theorem lexOut_ok {pre ts : List (LOne × Nat)} {n : Int} {x : LOne × Nat} (h : x.1.e = 0) : lexOut pre (x :: ts) n = lexOut (pre ++ [x]) ts n := by
  unfold lexOut
  rw [List.find?_cons_of_neg (by simp [h])]
  cases ts.find? (fun x => decide (x.1.e ≠ 0)) with
  | some y => rfl
  | none => simp
theorem lexOut_nil (pre : List (LOne × Nat)) (n : Int) : lexOut pre [] n = (pre, 0, n) := by
  unfold lexOut
  rw [List.find?_nil]; simp
theorem lexL_out (l : List Int) : lexL l = lexOut [] (stepsL l) (l.length : Int) := by
  unfold lexL lexOut
  cases (stepsL l).find? (fun x => decide (x.1.e ≠ 0)) <;> rfl
theorem blank_drop {s : ByteArray} {p : Nat} (hl : p ≤ s.size) : blank s (p : Int) = ((p + bl false ((by_ s).drop p) : Nat) : Int) := by
  unfold blank
  rw [if_pos ⟨by omega, by omega⟩]
  unfold at_
  rw [Int.toNat_natCast]
  omega
theorem ref_Lex_l0 (s : ByteArray) (hs : s.size ≤ 600) : ∀ (r p K : Nat) (pre : List (LOne × Nat)), s.size - p ≤ r → p ≤ s.size → r + 10100 ≤ K → pre.length ≤ p →
    copperplateref09_Lex.l0 K s (pre.map tokQ) (p : Int) = some ((lexOut pre (tks ((by_ s).drop p) p) (s.size : Int)).1.map tokQ, (lexOut pre (tks ((by_ s).drop p) p) (s.size : Int)).2.1, (lexOut pre (tks ((by_ s).drop p) p) (s.size : Int)).2.2) := by
  intro r
  induction r with
  | zero =>
    intro p K pre h1 h2 h3 h4
    obtain ⟨K, rfl⟩ : ∃ k, K = k + 1 := ⟨K - 1, by omega⟩
    have e : (by_ s).drop p = [] := List.drop_eq_nil_of_le (by rw [by_length]; omega)
    rw [copperplateref09_Lex.l0, if_neg (by omega), e, tks_nil, lexOut_nil]
  | succ r ih =>
    intro p K pre h1 h2 h3 h4
    obtain ⟨K, rfl⟩ : ∃ k, K = k + 1 := ⟨K - 1, by omega⟩
    by_cases hp : p < s.size
    · have hO := ref_One K s (p : Int) hs (by omega)
      have hT := oneT_in hp
      have hat : at_ s (p : Int) = (by_ s).drop p := by unfold at_; rw [Int.toNat_natCast]
      have hne : (by_ s).drop p ≠ [] := fun e => by
        have := congrArg List.length e
        rw [List.length_drop, by_length, List.length_nil] at this; omega
      rw [hat] at hT
      obtain ⟨q, hq⟩ : ∃ q, lexone ((by_ s).drop p) = q := ⟨_, rfl⟩
      have hlt : (p : Int) < (s.size : Int) := by omega
      have hlen : (pre.map tokQ).length < 3518437208883 := by rw [List.length_map]; omega
      by_cases he : q.e = 0
      · have hst := one_step (l := (by_ s).drop p) (by rw [hq]; exact he)
        have hts := tks_step p hne (by rw [hq]; exact he)
        simp only [drop2] at hts
        rw [hq] at hT hst hts
        rw [List.length_drop, by_length] at hst
        rw [if_pos he] at hT
        have hB := R.blank_ref s (by omega) ((p + q.n : Nat) : Int) K (by omega)
        rw [blank_drop (by omega)] at hB
        have hbp := bl_place (l := by_ s) (a := p + q.n) (by rw [by_length]; omega)
        rw [by_length] at hbp
        have ih := ih (p + q.n + bl false ((by_ s).drop (p + q.n))) K (pre ++ [(q, p)]) (by omega) hbp (by omega) (by rw [List.length_append]; simp only [List.length_cons, List.length_nil]; omega)
        have hmap : (pre ++ [(q, p)]).map tokQ = pre.map tokQ ++ [(⟨q.k, ba q.t, (p : Int), (p : Int) + q.n⟩ : S26)] := by rw [List.map_append]; rfl
        have hpn : (p : Int) + (q.n : Nat) = ((p + q.n : Nat) : Int) := by omega
        rw [hmap] at ih
        rw [copperplateref09_Lex.l0, if_pos hlt, hO, Option.bind_some, hT, hts, lexOut_ok (x := (q, p)) he]
        dsimp only
        rw [if_pos rfl, if_pos hlen, hpn, hB, Option.bind_some, ← hpn]
        exact ih
      · have hts := tks_bad p hne (by rw [hq]; exact he)
        rw [hq] at hT hts
        rw [if_neg he] at hT
        rw [copperplateref09_Lex.l0, if_pos hlt, hO, Option.bind_some, hT, hts, lexOut_bad (x := (q, p)) he]
        dsimp only
        rw [if_neg he]; rfl
    · have e : (by_ s).drop p = [] := List.drop_eq_nil_of_le (by rw [by_length]; omega)
      rw [copperplateref09_Lex.l0, if_neg (by omega), e, tks_nil, lexOut_nil]
theorem ref_Lex (K : Nat) (s : ByteArray) (hs : s.size ≤ 600) (hK : 10800 ≤ K) : copperplateref09_Lex.f K s = some ((lexR (by_ s)).1.map tokQ, (lexR (by_ s)).2.1, (lexR (by_ s)).2.2) := by
  unfold copperplateref09_Lex.f
  rw [ref_Bad s (by omega) K (by omega), Option.bind_some]
  cases hm : mayp isc (by_ s) with
  | false =>
    have hb := (bd_may (by_ s)).2 hm
    have e : lexR (by_ s) = ([], 2, bd (by_ s)) := if_neg (by rw [hm]; decide)
    rw [if_pos (show bd (by_ s) ≥ 0 from hb.1), e]; rfl
  | true =>
    have hb := (bd_may (by_ s)).1 hm
    have e : lexR (by_ s) = lexL (by_ s) := if_pos hm
    have h0 := R.blank_ref s (by omega) ((0 : Nat) : Int) K (by omega)
    rw [blank_drop (by omega), List.drop_zero, Nat.zero_add] at h0
    have hbl := bl_len false (by_ s)
    rw [by_length] at hbl
    have hl := ref_Lex_l0 s hs s.size (bl false (by_ s)) K [] (by omega) hbl (by omega) (Nat.zero_le _)
    have e2 : tks ((by_ s).drop (bl false (by_ s))) (bl false (by_ s)) = stepsL (by_ s) := rfl
    have e3 := lexL_out (by_ s)
    rw [by_length] at e3
    rw [e2, ← e3] at hl
    rw [if_neg (by omega), show (0 : Int) = ((0 : Nat) : Int) from rfl, h0, Option.bind_some, e]
    exact hl
theorem exact_loop (A : List S26) (hl : A.length ≤ 1000000) : ∀ (r j K : Nat), j + r = A.length → r + 1 ≤ K → copperplateref09_Exact.l0 K A A (j : Int) = some true := by
  intro r
  induction r with
  | zero =>
    intro j K hj hK
    obtain ⟨K, rfl⟩ : ∃ k, K = k + 1 := ⟨K - 1, by omega⟩
    rw [copperplateref09_Exact.l0, if_neg (by omega)]
  | succ r ih =>
    intro j K hj hK
    obtain ⟨K, rfl⟩ : ∃ k, K = k + 1 := ⟨K - 1, by omega⟩
    have hw : wrap64 ((j : Int) + 1) = ((j + 1 : Nat) : Int) := by rw [w64i (by omega) (by omega)]; omega
    have hlt : (j : Int) < (A.length : Int) := by omega
    have h0 : (0 : Int) ≤ (j : Int) := by omega
    have ih := ih (j + 1) K (by omega) (by omega)
    obtain ⟨x, hx⟩ : ∃ x, rd_T26 A (j : Int) = x := ⟨_, rfl⟩
    have hq : (!(x.f0 == x.f0) || (!(x.f1.toList == x.f1.toList) || (!(x.f2 == x.f2) || !(x.f3 == x.f3)))) = false := by simp
    rw [copperplateref09_Exact.l0, if_pos hlt, if_pos h0, if_pos hlt, hx, hq, if_neg Bool.false_ne_true, hw]
    exact ih
theorem ref_Exact (A : List S26) (hl : A.length ≤ 1000) (K : Nat) (hK : 1100 ≤ K) : copperplateref09_Exact.f K A A = some true := by
  unfold copperplateref09_Exact.f
  rw [if_pos rfl]
  exact exact_loop A (by omega) A.length 0 K (by omega) (by omega)
theorem rd_get {A : List S26} {j : Nat} {x : S26} (h : A[j]? = some x) : rd_T26 A (j : Int) = x := by
  unfold rd_T26
  rw [Int.toNat_natCast, List.getD_eq_getElem?_getD, h]; rfl
theorem same_run (A B : List S26) (hAB : A.length = B.length) (hl : A.length ≤ 1000000) : ∀ (r j K : Nat), j + r = A.length → r + 1 ≤ K → copperplateref09_Same.l0 K A B (j : Int) = some (sameT ((A.map toT).drop j) ((B.map toT).drop j)) := by
  intro r
  induction r with
  | zero =>
    intro j K hj hK
    obtain ⟨K, rfl⟩ : ∃ k, K = k + 1 := ⟨K - 1, by omega⟩
    rw [copperplateref09_Same.l0, if_neg (by omega), List.drop_eq_nil_of_le (by rw [List.length_map]; omega), List.drop_eq_nil_of_le (by rw [List.length_map]; omega)]
    rfl
  | succ r ih =>
    intro j K hj hK
    obtain ⟨K, rfl⟩ : ∃ k, K = k + 1 := ⟨K - 1, by omega⟩
    have hw : wrap64 ((j : Int) + 1) = ((j + 1 : Nat) : Int) := by rw [w64i (by omega) (by omega)]; omega
    obtain ⟨x, hx⟩ : ∃ x, A[j]? = some x := ⟨_, List.getElem?_eq_getElem (by omega)⟩
    obtain ⟨y, hy⟩ : ∃ y, B[j]? = some y := ⟨_, List.getElem?_eq_getElem (by omega)⟩
    have hx2 : (A.map toT)[j]? = some (toT x) := by rw [List.getElem?_map, hx]; rfl
    have hy2 : (B.map toT)[j]? = some (toT y) := by rw [List.getElem?_map, hy]; rfl
    have hd := sameT_drop hx2 hy2
    have ih := ih (j + 1) K (by omega) (by omega)
    have hlt : (j : Int) < (A.length : Int) := by omega
    have hlt2 : (j : Int) < (B.length : Int) := by omega
    have h0 : (0 : Int) ≤ (j : Int) := by omega
    have eE : eqT (toT x) (toT y) = ((x.f0 == y.f0) && (x.f1.toList == y.f1.toList)) := rfl
    rw [copperplateref09_Same.l0, if_pos hlt, if_pos h0, if_pos hlt2, rd_get hx, rd_get hy, hd, eE]
    by_cases e0 : x.f0 = y.f0
    · by_cases e1 : x.f1.toList = y.f1.toList
      · rw [if_pos e0, if_pos e1, hw, ih, beq_iff_eq.2 e0, beq_iff_eq.2 e1, Bool.true_and, Bool.true_and]
      · rw [if_pos e0, if_neg e1, beq_eq_false_iff_ne.2 e1, Bool.and_false, Bool.false_and]
    · rw [if_neg e0, beq_eq_false_iff_ne.2 e0, Bool.false_and, Bool.false_and]
theorem ref_Same (A B : List S26) (hl : A.length ≤ 1000) (K : Nat) (hK : 1100 ≤ K) : copperplateref09_Same.f K A B = some (sameT (A.map toT) (B.map toT)) := by
  unfold copperplateref09_Same.f
  by_cases h : A.length = B.length
  · rw [if_pos (by omega)]
    exact same_run A B h (by omega) A.length 0 K (by omega) (by omega)
  · rw [if_neg (by omega), sameT_len _ _ (by rw [List.length_map, List.length_map]; exact h)]
theorem lexR_le (s : ByteArray) : (lexR (by_ s)).1.length ≤ s.size := by
  unfold lexR
  split
  · rcases lexL_cases (by_ s) with ⟨_, h2, _⟩ | ⟨_, h2, _⟩
    · have := stepsL_length (by_ s)
      rw [by_length] at this
      rw [h2]; exact this
    · rw [h2]; exact Nat.zero_le _
  · exact Nat.zero_le _
theorem lexTells_pure (a0 : ByteArray) (a1 : Int) (l2 l3 : List S26) : copperplatelaw09_LexTells.f 12000 a0 a1 l2 l3 = some true := by
  obtain ⟨b2, h2, g2⟩ := few_f l2 12000 (by omega)
  obtain ⟨b3, h3, g3⟩ := few_f l3 12000 (by omega)
  unfold copperplatelaw09_LexTells.f
  rw [show copperplatelaw09_awake.f = some true from rfl, Option.bind_some, h2, Option.bind_some, h3, Option.bind_some, if_pos rfl, show (12000 : Nat) = 11999 + 1 from rfl]
  cases b2 with
  | false => rw [if_neg Bool.false_ne_true, copperplatelaw09_LexTells.j0, if_pos rfl]
  | true =>
  rw [if_pos rfl]
  cases b3 with
  | false => rw [if_neg Bool.false_ne_true, copperplatelaw09_LexTells.j0, if_pos rfl]
  | true =>
  rw [if_pos rfl]
  by_cases hs : (a0.size : Int) > 600
  · rw [decide_eq_true hs, copperplatelaw09_LexTells.j0, if_pos rfl]
  have hs6 : a0.size ≤ 600 := by omega
  have hle := lexR_le a0
  have g2 := g2 rfl
  have hE := ref_Exact ((lexR (by_ a0)).1.map tokQ) (by rw [List.length_map]; omega) 11999 (by omega)
  have hS := ref_Same l2 l3 (by omega) 11999 (by omega)
  have hL := ref_Lex 11999 a0 hs6 (by omega)
  have hO := ref_One 11999 a0 a1 hs6 (by omega)
  have fS : lex_Same.f l2 l3 = some (sameT (l2.map toT) (l3.map toT)) := if_pos (by omega)
  have fL := f_Lex (s := a0) (by omega)
  have fO := f_One (s := a0) (by omega) a1
  obtain ⟨q, hq⟩ : ∃ q, oneT a0 a1 = q := ⟨_, rfl⟩
  obtain ⟨L, hLL⟩ : ∃ L, (lexR (by_ a0)).1.map tokQ = L := ⟨_, rfl⟩
  obtain ⟨T, hT⟩ : ∃ T, sameT (l2.map toT) (l3.map toT) = T := ⟨_, rfl⟩
  rw [hq] at hO fO
  rw [hLL] at hE hL fL
  rw [hT] at hS fS
  have hqq : (q.1 == q.1 && (q.2.1.toList == q.2.1.toList && (q.2.2.1 == q.2.2.1 && (q.2.2.2.1 == q.2.2.2.1)))) = true := by simp
  rw [decide_eq_false hs, copperplatelaw09_LexTells.j0, if_neg Bool.false_ne_true, fO, Option.bind_some, hO, Option.bind_some, fL, Option.bind_some, hL, Option.bind_some]
  dsimp only
  rw [hE, Option.bind_some, hS, Option.bind_some, hqq, if_pos rfl, if_pos rfl, if_pos rfl, if_pos rfl, if_pos rfl, if_pos rfl, fS, Option.bind_some]
  simp
end Go.Proofs.YtjgpmfjkcioinaaGreatDoor.G
namespace Go.Proofs.YtjgpmfjkcioinaaGreatDoor.G
open Go.RowKit Go.Proofs.YtjgpmfjkcioinaaGreatDoor.Q Go.Proofs.YtjgpmfjkcioinaaGreatDoorW.PrintWords Go.Proofs.YtjgpmfjkcioinaaGreatDoorW.PrintLast
set_option linter.unusedVariables false
set_option linter.unusedSimpArgs false
theorem add_add_ (a : Addr) (i j : Nat) : (a.add i).add j = a.add (i + j) := by
  unfold Addr.add
  by_cases hi : i = 0 <;> by_cases hj : j = 0 <;> simp [*, Nat.add_assoc]
set_option maxRecDepth 100000 in
theorem four_of {H : Type} {enc : TypeId × Value → H} {W : World} {b : Nat} {sp : Nat → Bool} {held : Bool} {n : Nat} {cs : List Value} {y : DataW H × List MemPlace} (hl : cs.length = 4)
    (h : DataW.trod enc Tryz.prog W b sp held n 26 cs = some y) : ∃ x : S26, cs = [.int .i64 x.f0, .string x.f1, .int .i64 x.f2, .int .i64 x.f3] := by
  obtain ⟨c0, c1, c2, c3, rfl⟩ : ∃ c0 c1 c2 c3, cs = [c0, c1, c2, c3] := by
    match cs, hl with
    | [a, b, c, d], _ => exact ⟨a, b, c, d, rfl⟩
  obtain ⟨y0, y1, y2, y3, m, hx, _, h0, h1, h2, h3⟩ := Joins.trod_struct4 Tryz.underlying26 h
  have h0' : DataW.trod enc Tryz.prog W b sp held m 3 [c0] = some y0 := by
    have e : Tryz.prog.cellsOf 3 = 1 := by kernel_rfl
    simpa [e] using h0
  have h1' : DataW.trod enc Tryz.prog W b sp held m 9 [c1] = some y1 := by
    have e : Tryz.prog.cellsOf 9 = 1 := by kernel_rfl
    simpa [e] using h1
  have h2' : DataW.trod enc Tryz.prog W b sp held m 3 [c2] = some y2 := by
    have e : Tryz.prog.cellsOf 3 = 1 := by kernel_rfl
    simpa [e] using h2
  have h3' : DataW.trod enc Tryz.prog W b sp held m 3 [c3] = some y3 := by
    have e : Tryz.prog.cellsOf 3 = 1 := by kernel_rfl
    simpa [e] using h3
  obtain ⟨x0, e0, _⟩ := DataW.trod_int Tryz.underlying3 h0'
  obtain ⟨x1, e1, _⟩ := DataW.trod_string Tryz.underlying9 h1'
  obtain ⟨x2, e2, _⟩ := DataW.trod_int Tryz.underlying3 h2'
  obtain ⟨x3, e3, _⟩ := DataW.trod_int Tryz.underlying3 h3'
  cases e0; cases e1; cases e2; cases e3
  exact ⟨⟨x0, x1, x2, x3⟩, rfl⟩
set_option maxRecDepth 100000 in
theorem open_toks {H : Type} {enc : TypeId × Value → H} {W : World} {b0 : Nat} {v : Value} {d : DataW H} {ps : List MemPlace} (hv : Value.okWide Tryz.prog W .any b0 22 v)
    (h : DataW.Trod enc Tryz.prog W 0 (fun _ => true) true 22 v d ps) : ∃ (A : Option Addr) (c : Nat) (l : List S26), v = .slice A l.length c ∧ l.length ≤ c ∧ Kd.C k26 W A l.length l := by
  obtain ⟨a0, len0, cap0, rfl⟩ := Go.WideShapes.okWide_slice Tryz.underlying22 hv
  obtain ⟨fuel, hf⟩ := h
  have hf' : DataW.trod enc Tryz.prog W 0 (fun _ => true) true fuel 22 [.slice a0 len0 cap0] = some (d, ps) := hf
  have hC : Tryz.prog.cellsOf 26 = 4 := by kernel_rfl
  rcases DataW.trod_slice Tryz.underlying22 hf' with ⟨hcs, _⟩ | ⟨a, len, cap, elems, rest, n, _, hcs, _, _, hlc, hcm, hel, hE, _⟩
  · cases hcs
    exact ⟨none, 0, [], rfl, Nat.le_refl _, rfl, by decide, fun h => by cases h⟩
  · simp only [List.cons.injEq, Value.slice.injEq, and_true] at hcs
    obtain ⟨rfl, rfl, rfl⟩ := hcs
    have key : ∀ i, ∃ x : S26, i < len0 → ∀ j u, ([.int .i64 x.f0, .string x.f1, .int .i64 x.f2, .int .i64 x.f3] : List Value)[j]? = some u → W.cell? (a.add (i * 4 + j)) = some u := by
      intro i
      by_cases hi : i < len0
      · have hx := hE i hi
        rw [hC, List.getElem?_eq_getElem (by omega)] at hx
        cases hcl : W.cells? 0 (a.add (i * 4)) 4 with
        | none => rw [hcl] at hx; cases hx
        | some cs =>
          rw [hcl] at hx
          have hs := World.cells?_some hcl
          obtain ⟨x, hx2⟩ := four_of (hs.2.1) (show DataW.trod enc Tryz.prog W 0 (fun _ => true) true n 26 cs = some _ from hx)
          refine ⟨x, fun _ j u hj => ?_⟩
          rw [← hx2] at hj
          have hj4 : j < 4 := by have := (List.getElem?_eq_some_iff.1 hj).1; have := hs.2.1; omega
          rw [← add_add_, hs.2.2 j hj4, hj]
      · exact ⟨⟨0, ⟨#[]⟩, 0, 0⟩, fun h => absurd h hi⟩
    obtain ⟨f, hf2⟩ := Classical.axiomOfChoice key
    have hlen : ((List.range len0).map f).length = len0 := by simp
    refine ⟨some a, cap0, (List.range len0).map f, by rw [hlen], by rw [hlen]; exact hlc, rfl, by rw [hlen]; unfold maxLen at hcm; omega, fun _ => ⟨a, rfl, fun j p hp => ?_⟩⟩
    have hj : j < len0 := by have := (List.getElem?_eq_some_iff.1 hp).1; rw [hlen] at this; exact this
    have hpe : p = f j := by
      rw [List.getElem?_map, List.getElem?_range hj] at hp
      exact (Option.some.inj hp).symm
    subst hpe
    exact ⟨[.int .i64 (f j).f0, .string (f j).f1, .int .i64 (f j).f2, .int .i64 (f j).f3], rfl, ⟨_, _, rfl, rfl, ⟨_, _, rfl, rfl, ⟨_, _, rfl, rfl, rfl⟩⟩⟩, fun i u hu => hf2 j hj i u hu⟩
end Go.Proofs.YtjgpmfjkcioinaaGreatDoor.G
