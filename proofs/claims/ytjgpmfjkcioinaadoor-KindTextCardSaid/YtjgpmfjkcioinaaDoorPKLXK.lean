/-
  kind and lex, as the printed text of KindText calls them: the world holds what both read.
-/
import Derived.Test.YtjgpmfjkcioinaaDoorPKLX7
import Derived.Test.YtjgpmfjkcioinaaDoorPKKB2
import Derived.Test.YtjgpmfjkcioinaaDoorPKJ0
namespace Go.Proofs.YtjgpmfjkcioinaaDoor.G
open Go.RowKit Go.Proofs.YtjgpmfjkcioinaaDoor.J Go.Proofs.YtjgpmfjkcioinaaDoorW.PrintWords Go.Proofs.YtjgpmfjkcioinaaDoorW.PrintLast Go.Proofs.YtjgpmfjkcioinaaDoor.M
set_option linter.unusedVariables false
set_option linter.unusedSimpArgs false
structure LK (w : World) : Prop where
  te : LW w
  kw : KW w
theorem LK.low {w W : World} (h : LK w) (hb : Below w.heap.size w W) : LK W := ⟨LW.low h.te hb, h.kw.low hb⟩
abbrev laidKind : List (String × DataW Unit) := [("unicode/utf8.acceptRanges", Rows.laid_unicode_utf8_acceptRanges), ("copperplate/kind.texts", Rows.laid_copperplate_kind_texts), ("unicode.CaseRanges", Rows.laid_unicode_CaseRanges), ("unicode/utf8.first", Rows.laid_unicode_utf8_first)]
theorem LK.of {W : World} (h : laidMetH Tryd.prog laidKind W) : LK W := by
  rw [MakeChecks.laidMetH_plain _ _ _ (by kernel_rfl)] at h
  exact ⟨LW.of_reads h (by simp) (by simp) (by simp), KW.of_reads h (by simp)⟩
def tokK (x : LOne × Nat) : S28 := ⟨x.1.k, ba x.1.t, (x.2 : Int), (x.2 : Int) + x.1.n⟩
theorem flat_drop : ∀ (xs : List (LOne × Nat)) (j : Nat) (x : LOne × Nat), xs[j]? = some x → ((xs.flatMap tcs).drop (j * 4)).take 4 = tcs x
  | [], _, _, h => by cases h
  | y :: ys, 0, x, h => by
    cases h
    rw [Nat.zero_mul, List.drop_zero, List.flatMap_cons]; rfl
  | y :: ys, j + 1, x, h => by
    have ih := flat_drop ys j x h
    rw [List.flatMap_cons, show (j + 1) * 4 = j * 4 + 1 + 1 + 1 + 1 by omega]
    exact ih
theorem flat_len : ∀ (xs : List (LOne × Nat)), (xs.flatMap tcs).length = xs.length * 4
  | [] => rfl
  | y :: ys => by
    rw [List.flatMap_cons, List.length_append, flat_len ys, List.length_cons]
    show 4 + _ = _; omega
theorem row_of {w : World} {base : Nat} {v : Value} {xs : List (LOne × Nat)} (h : w.ownsRow base 28 4 v xs.length (xs.flatMap tcs)) : Kd.R k28 28 w base (fun _ => True) v (xs.map tokK) := by
  refine ⟨fun _ _ => trivial, xs.flatMap tcs, ?_, ?_, ?_⟩
  · rw [List.length_map]; exact h
  · rw [List.length_map]; exact flat_len xs
  · intro j p hj
    rw [List.getElem?_map] at hj
    obtain ⟨y, hy, rfl⟩ := Option.map_eq_some_iff.1 hj
    have e : ((xs.flatMap tcs).drop (j * k28.sz)).take k28.sz = tcs y := flat_drop xs j y hy
    rw [e]
    exact k28_mkM _ _ _ (tokK y)
def lex_LexK.f (s : ByteArray) : Option (List S28 × Int × Int) := if s.size ≤ 1000000 then some ((lexR (by_ s)).1.map tokK, (lexR (by_ s)).2.1, (lexR (by_ s)).2.2) else none
theorem lex_LexK.calls (a0 : ByteArray) (r1 : List S28) (r2 r3 : Int) (w : World) (h : lex_LexK.f a0 = some (r1, r2, r3)) (hL : LK w) :
    Calls Tryd.prog 11 #[.string a0] w fun e w' => ∃ v0_ : Value, e = .returned (.tuple #[v0_, .int .i64 r2, .int .i64 r3]) ∧ Kd.R k28 28 w' w.heap.size (fun _ => True) v0_ r1 ∧ Below w.heap.size w w' := by
  unfold lex_LexK.f at h
  by_cases hs : a0.size ≤ 1000000
  · rw [if_pos hs] at h
    simp only [Option.some.injEq, Prod.mk.injEq] at h
    obtain ⟨rfl, rfl, rfl⟩ := h
    exact (lex_any a0 w hs hL.te).mono fun e W' ⟨v, h1, h2, h3⟩ => ⟨v, h1, row_of h2, h3⟩
  · rw [if_neg hs] at h; cases h
def kind_OfK.f (k : Int) (s : ByteArray) (a b : Int) : Option Int := some (kOf k s)
def kind_TextK.f (te : Int) : Option (ByteArray × Bool) := some (kText te, kHas te)
theorem kind_OfK.calls (a0 : Int) (a1 : ByteArray) (a2 a3 : Int) (r : Int) (w : World) (h : kind_OfK.f a0 a1 a2 a3 = some r) (hL : LK w) :
    Calls Tryd.prog 20 #[.agg #[.int .i64 a0, .string a1, .int .i64 a2, .int .i64 a3]] w fun e w' => e = .returned (.int .i64 r) ∧ Below w.heap.size w w' := by
  cases h
  exact of_any a0 a1 a2 a3 w hL.kw
theorem kind_TextK.calls (a0 : Int) (r0 : ByteArray) (r1 : Bool) (w : World) (h : kind_TextK.f a0 = some (r0, r1)) (hL : LK w) :
    Calls Tryd.prog 19 #[.int .i64 a0] w fun e w' => e = .returned (.tuple #[.string r0, .bool r1]) ∧ Below w.heap.size w w' := by
  cases h
  exact text_any a0 w hL.kw
end Go.Proofs.YtjgpmfjkcioinaaDoor.G
