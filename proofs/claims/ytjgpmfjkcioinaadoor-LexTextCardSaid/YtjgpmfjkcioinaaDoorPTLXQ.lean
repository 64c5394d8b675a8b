/-
  lex: its functions as the laws' printed texts call them.
-/
import Derived.Test.YtjgpmfjkcioinaaDoorPTLX7
import Derived.Test.YtjgpmfjkcioinaaDoorPTZ2
import Derived.Test.YtjgpmfjkcioinaaDoorPTQ0
namespace Go.Proofs.YtjgpmfjkcioinaaDoor.G
open Go.RowKit Go.Proofs.YtjgpmfjkcioinaaDoor.Q Go.Proofs.YtjgpmfjkcioinaaDoorW.PrintWords Go.Proofs.YtjgpmfjkcioinaaDoorW.PrintLast Go.Proofs.YtjgpmfjkcioinaaDoor.M
set_option linter.unusedVariables false
set_option linter.unusedSimpArgs false
def tokQ (x : LOne × Nat) : S28 := ⟨x.1.k, ba x.1.t, (x.2 : Int), (x.2 : Int) + x.1.n⟩
def toT (x : S28) : TokS := ⟨x.f0, x.f1, x.f2, x.f3⟩
theorem flat_drop : ∀ (xs : List (LOne × Nat)) (j : Nat) (x : LOne × Nat), xs[j]? = some x → ((xs.flatMap tcs).drop (j * 4)).take 4 = tcs x
  | [], _, _, h => by cases h
  | y :: ys, 0, x, h => by
    cases h
    rw [Nat.zero_mul, List.drop_zero, List.flatMap_cons]; rfl
  | y :: ys, j + 1, x, h => by
    have ih := flat_drop ys j x h
    rw [List.flatMap_cons, show (j + 1) * 4 = j * 4 + 1 + 1 + 1 + 1 by omega]
    exact ih
theorem flat_len : ∀ (xs : List (LOne × Nat)), (xs.flatMap tcs).length = xs.length * 4
  | [] => rfl
  | y :: ys => by
    rw [List.flatMap_cons, List.length_append, flat_len ys, List.length_cons]
    show 4 + _ = _; omega
theorem row_of {w : World} {base : Nat} {v : Value} {xs : List (LOne × Nat)} (h : w.ownsRow base 28 4 v xs.length (xs.flatMap tcs)) : Kd.R k28 28 w base (fun _ => True) v (xs.map tokQ) := by
  refine ⟨fun _ _ => trivial, xs.flatMap tcs, ?_, ?_, ?_⟩
  · rw [List.length_map]; exact h
  · rw [List.length_map]; exact flat_len xs
  · intro j p hj
    rw [List.getElem?_map] at hj
    obtain ⟨y, hy, rfl⟩ := Option.map_eq_some_iff.1 hj
    have e : ((xs.flatMap tcs).drop (j * k28.sz)).take k28.sz = tcs y := flat_drop xs j y hy
    rw [e]
    exact k28_mkM _ _ _ (tokQ y)
theorem rowT_C {w : World} {A : Option Addr} {l : List S28} (h : Kd.C k28 w A l.length l) : RowT w A (l.map toT) := by
  intro j x hj
  rw [List.getElem?_map] at hj
  obtain ⟨y, hy, rfl⟩ := Option.map_eq_some_iff.1 hj
  have hlt := (List.getElem?_eq_some_iff.1 hy).1
  obtain ⟨ad, e, hc⟩ := h.2.2 (by omega)
  obtain ⟨c, _, hR, hcell0⟩ := hc j y hy
  have hcell : ∀ i u, c[i]? = some u → w.cell? (ad.add (j * 4 + i)) = some u := hcell0
  obtain rfl := k28_open hR
  exact ⟨ad, e, hcell 0 _ rfl, by rw [add_add4 _ _ _ (by decide)]; exact hcell 1 _ rfl, by rw [add_add4 _ _ _ (by decide)]; exact hcell 2 _ rfl, by rw [add_add4 _ _ _ (by decide)]; exact hcell 3 _ rfl⟩
def oneT (s : ByteArray) (i : Int) : Int × ByteArray × Int × Int × Int × Int :=
  if i < 0 ∨ (s.size : Int) ≤ i then (0, ⟨#[]⟩, 0, 0, 2, i)
  else if (lexone (at_ s i)).e = 0 then ((lexone (at_ s i)).k, ba (lexone (at_ s i)).t, i, i + (lexone (at_ s i)).n, 0, i + (lexone (at_ s i)).n)
  else (0, ⟨#[]⟩, 0, 0, (lexone (at_ s i)).e, i + (lexone (at_ s i)).n)
theorem oneV_T (s : ByteArray) (i : Int) : oneV s i = .tuple #[.agg #[.int .i64 (oneT s i).1, .string (oneT s i).2.1, .int .i64 (oneT s i).2.2.1, .int .i64 (oneT s i).2.2.2.1], .int .i64 (oneT s i).2.2.2.2.1, .int .i64 (oneT s i).2.2.2.2.2] := by
  unfold oneV oneT loneV tkV
  split
  · rfl
  · split <;> rfl
def lex_One.f (s : ByteArray) (i : Int) : Option (Int × ByteArray × Int × Int × Int × Int) := if s.size ≤ 1000000 then some (oneT s i) else none
def lex_Lex.f (s : ByteArray) : Option (List S28 × Int × Int) := if s.size ≤ 1000000 then some ((lexR (by_ s)).1.map tokQ, (lexR (by_ s)).2.1, (lexR (by_ s)).2.2) else none
def lex_Same.f (l m : List S28) : Option Bool := if l.length ≤ 1000000 then some (sameT (l.map toT) (m.map toT)) else none
def copperplatelaw09_awake.f : Option Bool := some true
theorem lex_One.calls (a0 : ByteArray) (a1 : Int) (r1 : Int) (r2 : ByteArray) (r3 r4 r5 r6 : Int) (w : World) (h : lex_One.f a0 a1 = some (r1, r2, r3, r4, r5, r6)) (hL : LW w) :
    Calls Tryd.prog 13 #[.string a0, .int .i64 a1] w fun e w' => e = .returned (.tuple #[.agg #[.int .i64 r1, .string r2, .int .i64 r3, .int .i64 r4], .int .i64 r5, .int .i64 r6]) ∧ Below w.heap.size w w' := by
  unfold lex_One.f at h
  by_cases hs : a0.size ≤ 1000000
  · rw [if_pos hs] at h
    have hq := oneV_T a0 a1
    have hO := one_any a0 a1 w hs hL
    rw [hq, Option.some.inj h] at hO
    exact hO
  · rw [if_neg hs] at h; cases h
theorem lex_Lex.calls (a0 : ByteArray) (r1 : List S28) (r2 r3 : Int) (w : World) (h : lex_Lex.f a0 = some (r1, r2, r3)) (hL : LW w) :
    Calls Tryd.prog 11 #[.string a0] w fun e w' => ∃ v0_ : Value, e = .returned (.tuple #[v0_, .int .i64 r2, .int .i64 r3]) ∧ Kd.R k28 28 w' w.heap.size (fun _ => True) v0_ r1 ∧ Below w.heap.size w w' := by
  unfold lex_Lex.f at h
  by_cases hs : a0.size ≤ 1000000
  · rw [if_pos hs] at h
    simp only [Option.some.injEq, Prod.mk.injEq] at h
    obtain ⟨rfl, rfl, rfl⟩ := h
    exact (lex_any a0 w hs hL).mono fun e W' ⟨v, h1, h2, h3⟩ => ⟨v, h1, row_of h2, h3⟩
  · rw [if_neg hs] at h; cases h
theorem lex_Same.calls (A0 : Option Addr) (c0 : Nat) (l0 : List S28) (A1 : Option Addr) (c1 : Nat) (l1 : List S28) (r : Bool) (w : World) (hr0 : Kd.C k28 w A0 l0.length l0) (hc0 : l0.length ≤ c0) (hr1 : Kd.C k28 w A1 l1.length l1) (hc1 : l1.length ≤ c1) (h : lex_Same.f l0 l1 = some r) :
    Calls Tryd.prog 22 #[.slice A0 l0.length c0, .slice A1 l1.length c1] w fun e w' => e = .returned (.bool r) ∧ Below w.heap.size w w' := by
  unfold lex_Same.f at h
  by_cases hs : l0.length ≤ 1000000
  · rw [if_pos hs] at h
    have := lexSame_any A0 A1 c0 c1 (l0.map toT) (l1.map toT) w (rowT_C hr0) (rowT_C hr1) (by rw [List.length_map]; exact hs)
    rw [List.length_map, List.length_map, Option.some.inj h] at this
    exact this
  · rw [if_neg hs] at h; cases h
theorem copperplatelaw09_awake.calls (r : Bool) (w : World) (h : copperplatelaw09_awake.f = some r) (hL : LW w) :
    Calls Tryd.prog 10 #[] w fun e w' => e = .returned (.bool r) ∧ Below w.heap.size w w' := by
  cases h
  exact awake9 w hL
end Go.Proofs.YtjgpmfjkcioinaaDoor.G
