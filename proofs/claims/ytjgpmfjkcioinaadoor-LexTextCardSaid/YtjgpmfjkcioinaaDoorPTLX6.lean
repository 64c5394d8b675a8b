/-
  'lex.Same': two lists of tokens, by kind and text.
-/
import Derived.Test.YtjgpmfjkcioinaaDoorPTLX1
namespace Go.Proofs.YtjgpmfjkcioinaaDoor.G
open Go.RowKit Go.Proofs.YtjgpmfjkcioinaaDoorW.PrintWords Go.Proofs.YtjgpmfjkcioinaaDoor.M
set_option linter.unusedVariables false
set_option linter.unusedSimpArgs false
set_option maxHeartbeats 1600000 in
theorem same1_any (k1 a1 e1 k2 a2 e2 : Int) (t1 t2 : ByteArray) (w : World) :
    Calls Tryd.prog 46 #[.agg #[.int .i64 k1, .string t1, .int .i64 a1, .int .i64 e1], .agg #[.int .i64 k2, .string t2, .int .i64 a2, .int .i64 e2]] w fun r w' => r = .returned (.bool ((k1 == k2) && (t1.toList == t2.toList))) ∧ Below w.heap.size w w' := by
  have hB := ((Below.refl w.heap.size w).alloc (Nat.le_refl _) (.cells #[.int .i64 k1, .string t1, .int .i64 a1, .int .i64 e1] 28)).alloc (by simp) (.cells #[.int .i64 k2, .string t2, .int .i64 a2, .int .i64 e2] 28)
  obtain ⟨x, hx⟩ : ∃ x, (k1 == k2) = x := ⟨_, rfl⟩
  cases x with
  | false =>
    rw [hx]
    go_enter Tryd.func46, Tryd.ntmps46
    go_wp2
    go_ret
    exact ⟨rfl, hB⟩
  | true =>
    rw [hx]
    go_enter Tryd.func46, Tryd.ntmps46
    go_wp2
    go_ret
    exact ⟨rfl, hB⟩
structure TokS where
  k : Int
  t : ByteArray
  a : Int
  e : Int
def TokS.v (x : TokS) : Value := .agg #[.int .i64 x.k, .string x.t, .int .i64 x.a, .int .i64 x.e]
def RowT (W : World) (ad : Option Addr) (xs : List TokS) : Prop := ∀ (j : Nat) (x : TokS), xs[j]? = some x → ∃ b, ad = some b ∧ W.cell? (b.add (j * 4)) = some (.int .i64 x.k) ∧ W.cell? ((b.add (j * 4)).add 1) = some (.string x.t) ∧ W.cell? ((b.add (j * 4)).add 2) = some (.int .i64 x.a) ∧ W.cell? ((b.add (j * 4)).add 3) = some (.int .i64 x.e)
def eqT (x y : TokS) : Bool := (x.k == y.k) && (x.t.toList == y.t.toList)
def sameT : List TokS → List TokS → Bool
  | [], [] => true
  | x :: xs, y :: ys => eqT x y && sameT xs ys
  | _, _ => false
theorem sameT_drop {xs ys : List TokS} {j : Nat} {x y : TokS} (hx : xs[j]? = some x) (hy : ys[j]? = some y) : sameT (xs.drop j) (ys.drop j) = (eqT x y && sameT (xs.drop (j + 1)) (ys.drop (j + 1))) := by
  obtain ⟨h1, h2⟩ := List.getElem?_eq_some_iff.1 hx
  obtain ⟨h3, h4⟩ := List.getElem?_eq_some_iff.1 hy
  rw [List.drop_eq_getElem_cons h1, List.drop_eq_getElem_cons h3, h2, h4]; rfl
theorem RowT.at {W : World} {ad : Option Addr} {xs : List TokS} (h : RowT W ad xs) {W' : World} (hb : Below W.heap.size W W') {j : Nat} {x : TokS} (hj : xs[j]? = some x) :
    ∃ b, ad = some b ∧ W'.cell? (b.add (j * 4)) = some (.int .i64 x.k) ∧ W'.cell? ⟨(b.add (j * 4)).block, (b.add (j * 4)).off + 1, none⟩ = some (.string x.t) ∧ W'.cell? ⟨(b.add (j * 4)).block, (b.add (j * 4)).off + 2, none⟩ = some (.int .i64 x.a) ∧ W'.cell? ⟨(b.add (j * 4)).block, (b.add (j * 4)).off + 3, none⟩ = some (.int .i64 x.e) := by
  obtain ⟨b, e, h0, h1, h2, h3⟩ := h j x hj
  have f : ∀ {p : Addr} {v : Value}, W.cell? p = some v → W'.cell? p = some v := fun {p v} hp => (hb.cell (p := p) (World.block_lt_of_cell? _ _ hp)).trans hp
  exact ⟨b, e, f h0, f h1, f h2, f h3⟩
theorem al {W : World} {p : Addr} {v : Value} (h : W.cell? p = some v) (o : Obj) : (W.alloc o).cell? p = some v := cell_alloc_l o h
set_option maxHeartbeats 3200000 in
theorem equal_any (ad bd : Option Addr) (ca cb : Nat) (xs ys : List TokS) (hl : xs.length = ys.length) (w : World) (hx : RowT w ad xs) (hy : RowT w bd ys) (hn : xs.length ≤ 1000000) :
    Calls Tryd.prog 45 #[.slice ad xs.length ca, .slice bd ys.length cb, .func (.func 46) #[] #[]] w fun r w' => r = .returned (.bool (sameT xs ys)) ∧ Below w.heap.size w w' := by
  have hxl : ∀ j : Nat, j < xs.length → ∃ x, xs[j]? = some x := fun j h => ⟨_, List.getElem?_eq_getElem h⟩
  have hyl : ∀ j : Nat, j < xs.length → ∃ y, ys[j]? = some y := fun j h => ⟨_, List.getElem?_eq_getElem (l := ys) (by omega)⟩
  have hend : sameT (xs.drop xs.length) (ys.drop xs.length) = true := by rw [List.drop_length, List.drop_eq_nil_of_le (by omega)]; rfl
  rw [← hl]
  obtain ⟨T, hT⟩ : ∃ T, sameT xs ys = T := ⟨_, rfl⟩
  obtain ⟨m, hm⟩ : ∃ m, xs.length = m := ⟨_, rfl⟩
  rw [hm] at hn hend ⊢
  rw [hT]
  have HX := Lib.hid hx
  have HY := Lib.hid hy
  have HXL := Lib.hid hxl
  have HYL := Lib.hid hyl
  have HE := Lib.hid hend
  have HM := Lib.hid hm
  have HT : Hid (sameT (xs.drop 0) (ys.drop 0) = T) := Lib.hid hT
  clear hx hy hxl hyl hend hl hm hT
  go_enter Tryd.func45, Tryd.ntmps45
  go_wp2
  go_loopg [17] m (fun gf v17 wx => ∃ j : Nat, v17 = .int .i64 (j : Int) ∧ j + gf = m ∧ Below w.heap.size w wx ∧ Hid (sameT (xs.drop j) (ys.drop j) = T))
  case atStart => exact ⟨0, rfl, by omega, Below.refl _ _, HT⟩
  case round =>
    obtain ⟨j, rfl, hj, hbel, hrest⟩ := hrel
    cases gk with
    | zero =>
      obtain rfl : j = m := by omega
      have hTt : Hid (T = true) := Lib.hid (by rw [← hrest.out]; exact HE.out)
      clear HX HY HXL HYL HE HM HT hrest
      go_wp2
      go_ret
      exact ⟨by rw [hTt.out]; rfl, hbel⟩
    | succ g =>
      have hlt : (j : Int) < (m : Int) := by omega
      obtain ⟨x, hjx⟩ := HXL.out j (by rw [HM.out]; omega)
      obtain ⟨y, hjy⟩ := HYL.out j (by rw [HM.out]; omega)
      have hdr := sameT_drop hjx hjy
      obtain ⟨b1, rfl, x0, x1, x2, x3⟩ := HX.out.at hbel hjx
      obtain ⟨b2, rfl, y0, y1, y2, y3⟩ := HY.out.at hbel hjy
      have y0' := fun o => al y0 o
      have y1' := fun o => al y1 o
      have y2' := fun o => al y2 o
      have y3' := fun o => al y3 o
      have hS := fun (W : World) => same1_any x.k x.a x.e y.k y.a y.e x.t y.t W
      obtain ⟨q, hq⟩ : ∃ q, ((x.k == y.k) && (x.t.toList == y.t.toList)) = q := ⟨_, rfl⟩
      have hq2 : eqT x y = q := hq
      rw [hq2, hrest.out] at hdr
      rw [hq] at hS
      have HD := Lib.hid hdr
      have hbz := (hbel.alloc hbel.size (.cells #[.int .i64 x.k, .string x.t, .int .i64 x.a, .int .i64 x.e] 28)).alloc (hbel.alloc hbel.size (.cells #[.int .i64 x.k, .string x.t, .int .i64 x.a, .int .i64 x.e] 28)).size (.cells #[.int .i64 y.k, .string y.t, .int .i64 y.a, .int .i64 y.e] 28)
      clear HX HY HXL HYL HE HM HT hrest hjx hjy hdr hq hq2
      cases q with
      | true =>
        go_wp2_with (go_at_call 46; (with_reducible refine (hS _).mono ?_); rintro r w2 ⟨rfl, hb2⟩)
        go_roundg g
        case measure => omega
        case rel => exact ⟨j + 1, by go_num, by omega, hbz.trans (hb2.mono hbz.size), Lib.hid (by have := HD.out; rw [Bool.true_and] at this; exact this.symm)⟩
      | false =>
        go_wp2_with (go_at_call 46; (with_reducible refine (hS _).mono ?_); rintro r w2 ⟨rfl, hb2⟩)
        go_ret
        exact ⟨by rw [HD.out]; rfl, hbz.trans (hb2.mono hbz.size)⟩
set_option maxHeartbeats 1600000 in
theorem equal_len (ad bd : Option Addr) (m n ca cb : Nat) (h : m ≠ n) (w : World) :
    Calls Tryd.prog 45 #[.slice ad m ca, .slice bd n cb, .func (.func 46) #[] #[]] w fun r w' => r = .returned (.bool false) ∧ Below w.heap.size w w' := by
  have u1 : (m == n) = false := beq_eq_false_iff_ne.2 h
  have u2 : ((m : Int) == (n : Int)) = false := beq_eq_false_iff_ne.2 (by omega)
  have u3 : ((m : Int) != (n : Int)) = true := bne_iff_ne.2 (by omega)
  go_enter Tryd.func45, Tryd.ntmps45
  go_wp2
  go_ret
  exact ⟨rfl, Below.refl _ _⟩
theorem sameT_len : ∀ (xs ys : List TokS), xs.length ≠ ys.length → sameT xs ys = false
  | [], [], h => absurd rfl h
  | [], _ :: _, _ => rfl
  | _ :: _, [], _ => rfl
  | x :: xs, y :: ys, h => by
    show (eqT x y && sameT xs ys) = false
    rw [sameT_len xs ys (fun q => h (by rw [List.length_cons, List.length_cons, q])), Bool.and_false]
set_option maxHeartbeats 1600000 in
theorem lexSame_any (ad bd : Option Addr) (ca cb : Nat) (xs ys : List TokS) (w : World) (hx : RowT w ad xs) (hy : RowT w bd ys) (hn : xs.length ≤ 1000000) :
    Calls Tryd.prog 22 #[.slice ad xs.length ca, .slice bd ys.length cb] w fun r w' => r = .returned (.bool (sameT xs ys)) ∧ Below w.heap.size w w' := by
  have hC : Calls Tryd.prog 45 #[.slice ad xs.length ca, .slice bd ys.length cb, .func (.func 46) #[] #[]] w fun r w' => r = .returned (.bool (sameT xs ys)) ∧ Below w.heap.size w w' := by
    by_cases h : xs.length = ys.length
    · exact equal_any ad bd ca cb xs ys h w hx hy hn
    · rw [sameT_len xs ys h]
      exact equal_len ad bd _ _ ca cb h w
  obtain ⟨T, hT⟩ : ∃ T, sameT xs ys = T := ⟨_, rfl⟩
  rw [hT] at hC ⊢
  have HC := Lib.hid hC
  clear hC hT hx hy
  go_enter Tryd.func22, Tryd.ntmps22
  go_wp2_with (go_at_call 45; (with_reducible refine HC.out.mono ?_); rintro r w2 ⟨rfl, hb2⟩)
  go_ret
  exact ⟨rfl, hb2⟩
end Go.Proofs.YtjgpmfjkcioinaaDoor.G
