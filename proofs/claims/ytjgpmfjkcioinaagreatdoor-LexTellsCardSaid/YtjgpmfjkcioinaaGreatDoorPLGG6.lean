/-
  'lex.Same': two lists of tokens, by kind and text.
-/
import Derived.Test.YtjgpmfjkcioinaaGreatDoorPLLX1
import Derived.Test.YtjgpmfjkcioinaaGreatDoorPLLX5
import Derived.Test.YtjgpmfjkcioinaaGreatDoorPLGG2
import Derived.Test.YtjgpmfjkcioinaaGreatDoorPLGG9
namespace Go.Proofs.YtjgpmfjkcioinaaGreatDoor.G
open Go.RowKit Go.Proofs.YtjgpmfjkcioinaaGreatDoorW.PrintWords Go.Proofs.YtjgpmfjkcioinaaGreatDoor.M
set_option linter.unusedVariables false
set_option linter.unusedSimpArgs false
set_option maxHeartbeats 1600000 in
theorem same1_any (k1 a1 e1 k2 a2 e2 : Int) (t1 t2 : ByteArray) (w : World) :
    Calls Tryz.prog 34 #[.agg #[.int .i64 k1, .string t1, .int .i64 a1, .int .i64 e1], .agg #[.int .i64 k2, .string t2, .int .i64 a2, .int .i64 e2]] w fun r w' => r = .returned (.bool ((k1 == k2) && (t1.toList == t2.toList))) ∧ Below w.heap.size w w' := by
  have hB := ((Below.refl w.heap.size w).alloc (Nat.le_refl _) (.cells #[.int .i64 k1, .string t1, .int .i64 a1, .int .i64 e1] 26)).alloc (by simp) (.cells #[.int .i64 k2, .string t2, .int .i64 a2, .int .i64 e2] 26)
  obtain ⟨x, hx⟩ : ∃ x, (k1 == k2) = x := ⟨_, rfl⟩
  cases x with
  | false =>
    rw [hx]
    go_enter Tryz.func34, Tryz.ntmps34
    go_wp2
    go_ret
    exact ⟨rfl, hB⟩
  | true =>
    rw [hx]
    go_enter Tryz.func34, Tryz.ntmps34
    go_wp2
    go_ret
    exact ⟨rfl, hB⟩
structure TokS where
  k : Int
  t : ByteArray
  a : Int
  e : Int
def TokS.v (x : TokS) : Value := .agg #[.int .i64 x.k, .string x.t, .int .i64 x.a, .int .i64 x.e]
def RowT (W : World) (ad : Option Addr) (xs : List TokS) : Prop := ∀ (j : Nat) (x : TokS), xs[j]? = some x → ∃ b, ad = some b ∧ W.cell? (b.add (j * 4)) = some (.int .i64 x.k) ∧ W.cell? ((b.add (j * 4)).add 1) = some (.string x.t) ∧ W.cell? ((b.add (j * 4)).add 2) = some (.int .i64 x.a) ∧ W.cell? ((b.add (j * 4)).add 3) = some (.int .i64 x.e)
def eqT (x y : TokS) : Bool := (x.k == y.k) && (x.t.toList == y.t.toList)
def sameT : List TokS → List TokS → Bool
  | [], [] => true
  | x :: xs, y :: ys => eqT x y && sameT xs ys
  | _, _ => false
theorem sameT_drop {xs ys : List TokS} {j : Nat} {x y : TokS} (hx : xs[j]? = some x) (hy : ys[j]? = some y) : sameT (xs.drop j) (ys.drop j) = (eqT x y && sameT (xs.drop (j + 1)) (ys.drop (j + 1))) := by
  obtain ⟨h1, h2⟩ := List.getElem?_eq_some_iff.1 hx
  obtain ⟨h3, h4⟩ := List.getElem?_eq_some_iff.1 hy
  rw [List.drop_eq_getElem_cons h1, List.drop_eq_getElem_cons h3, h2, h4]; rfl
theorem RowT.at {W : World} {ad : Option Addr} {xs : List TokS} (h : RowT W ad xs) {W' : World} (hb : Below W.heap.size W W') {j : Nat} {x : TokS} (hj : xs[j]? = some x) :
    ∃ b, ad = some b ∧ W'.cell? (b.add (j * 4)) = some (.int .i64 x.k) ∧ W'.cell? ⟨(b.add (j * 4)).block, (b.add (j * 4)).off + 1, none⟩ = some (.string x.t) ∧ W'.cell? ⟨(b.add (j * 4)).block, (b.add (j * 4)).off + 2, none⟩ = some (.int .i64 x.a) ∧ W'.cell? ⟨(b.add (j * 4)).block, (b.add (j * 4)).off + 3, none⟩ = some (.int .i64 x.e) := by
  obtain ⟨b, e, h0, h1, h2, h3⟩ := h j x hj
  have f : ∀ {p : Addr} {v : Value}, W.cell? p = some v → W'.cell? p = some v := fun {p v} hp => (hb.cell (p := p) (World.block_lt_of_cell? _ _ hp)).trans hp
  exact ⟨b, e, f h0, f h1, f h2, f h3⟩
theorem al {W : World} {p : Addr} {v : Value} (h : W.cell? p = some v) (o : Obj) : (W.alloc o).cell? p = some v := cell_alloc_l o h
set_option maxHeartbeats 3200000 in
theorem equal_any (ad bd : Option Addr) (ca cb : Nat) (xs ys : List TokS) (hl : xs.length = ys.length) (w : World) (hx : RowT w ad xs) (hy : RowT w bd ys) (hn : xs.length ≤ 1000000) :
    Calls Tryz.prog 33 #[.slice ad xs.length ca, .slice bd ys.length cb, .func (.func 34) #[] #[]] w fun r w' => r = .returned (.bool (sameT xs ys)) ∧ Below w.heap.size w w' := by
  have hxl : ∀ j : Nat, j < xs.length → ∃ x, xs[j]? = some x := fun j h => ⟨_, List.getElem?_eq_getElem h⟩
  have hyl : ∀ j : Nat, j < xs.length → ∃ y, ys[j]? = some y := fun j h => ⟨_, List.getElem?_eq_getElem (l := ys) (by omega)⟩
  have hend : sameT (xs.drop xs.length) (ys.drop xs.length) = true := by rw [List.drop_length, List.drop_eq_nil_of_le (by omega)]; rfl
  rw [← hl]
  obtain ⟨T, hT⟩ : ∃ T, sameT xs ys = T := ⟨_, rfl⟩
  obtain ⟨m, hm⟩ : ∃ m, xs.length = m := ⟨_, rfl⟩
  rw [hm] at hn hend ⊢
  rw [hT]
  have HX := Lib.hid hx
  have HY := Lib.hid hy
  have HXL := Lib.hid hxl
  have HYL := Lib.hid hyl
  have HE := Lib.hid hend
  have HM := Lib.hid hm
  have HT : Hid (sameT (xs.drop 0) (ys.drop 0) = T) := Lib.hid hT
  clear hx hy hxl hyl hend hl hm hT
  go_enter Tryz.func33, Tryz.ntmps33
  go_wp2
  go_loopg [17] m (fun gf v17 wx => ∃ j : Nat, v17 = .int .i64 (j : Int) ∧ j + gf = m ∧ Below w.heap.size w wx ∧ Hid (sameT (xs.drop j) (ys.drop j) = T))
  case atStart => exact ⟨0, rfl, by omega, Below.refl _ _, HT⟩
  case round =>
    obtain ⟨j, rfl, hj, hbel, hrest⟩ := hrel
    cases gk with
    | zero =>
      obtain rfl : j = m := by omega
      have hTt : Hid (T = true) := Lib.hid (by rw [← hrest.out]; exact HE.out)
      clear HX HY HXL HYL HE HM HT hrest
      go_wp2
      go_ret
      exact ⟨by rw [hTt.out]; rfl, hbel⟩
    | succ g =>
      have hlt : (j : Int) < (m : Int) := by omega
      obtain ⟨x, hjx⟩ := HXL.out j (by rw [HM.out]; omega)
      obtain ⟨y, hjy⟩ := HYL.out j (by rw [HM.out]; omega)
      have hdr := sameT_drop hjx hjy
      obtain ⟨b1, rfl, x0, x1, x2, x3⟩ := HX.out.at hbel hjx
      obtain ⟨b2, rfl, y0, y1, y2, y3⟩ := HY.out.at hbel hjy
      have y0' := fun o => al y0 o
      have y1' := fun o => al y1 o
      have y2' := fun o => al y2 o
      have y3' := fun o => al y3 o
      have hS := fun (W : World) => same1_any x.k x.a x.e y.k y.a y.e x.t y.t W
      obtain ⟨q, hq⟩ : ∃ q, ((x.k == y.k) && (x.t.toList == y.t.toList)) = q := ⟨_, rfl⟩
      have hq2 : eqT x y = q := hq
      rw [hq2, hrest.out] at hdr
      rw [hq] at hS
      have HD := Lib.hid hdr
      have hbz := (hbel.alloc hbel.size (.cells #[.int .i64 x.k, .string x.t, .int .i64 x.a, .int .i64 x.e] 26)).alloc (hbel.alloc hbel.size (.cells #[.int .i64 x.k, .string x.t, .int .i64 x.a, .int .i64 x.e] 26)).size (.cells #[.int .i64 y.k, .string y.t, .int .i64 y.a, .int .i64 y.e] 26)
      clear HX HY HXL HYL HE HM HT hrest hjx hjy hdr hq hq2
      cases q with
      | true =>
        go_wp2_with (go_at_call 34; (with_reducible refine (hS _).mono ?_); rintro r w2 ⟨rfl, hb2⟩)
        go_roundg g
        case measure => omega
        case rel => exact ⟨j + 1, by go_num, by omega, hbz.trans (hb2.mono hbz.size), Lib.hid (by have := HD.out; rw [Bool.true_and] at this; exact this.symm)⟩
      | false =>
        go_wp2_with (go_at_call 34; (with_reducible refine (hS _).mono ?_); rintro r w2 ⟨rfl, hb2⟩)
        go_ret
        exact ⟨by rw [HD.out]; rfl, hbz.trans (hb2.mono hbz.size)⟩
set_option maxHeartbeats 1600000 in
theorem equal_len (ad bd : Option Addr) (m n ca cb : Nat) (h : m ≠ n) (w : World) :
    Calls Tryz.prog 33 #[.slice ad m ca, .slice bd n cb, .func (.func 34) #[] #[]] w fun r w' => r = .returned (.bool false) ∧ Below w.heap.size w w' := by
  have u1 : (m == n) = false := beq_eq_false_iff_ne.2 h
  have u2 : ((m : Int) == (n : Int)) = false := beq_eq_false_iff_ne.2 (by omega)
  have u3 : ((m : Int) != (n : Int)) = true := bne_iff_ne.2 (by omega)
  go_enter Tryz.func33, Tryz.ntmps33
  go_wp2
  go_ret
  exact ⟨rfl, Below.refl _ _⟩
theorem sameT_len : ∀ (xs ys : List TokS), xs.length ≠ ys.length → sameT xs ys = false
  | [], [], h => absurd rfl h
  | [], _ :: _, _ => rfl
  | _ :: _, [], _ => rfl
  | x :: xs, y :: ys, h => by
    show (eqT x y && sameT xs ys) = false
    rw [sameT_len xs ys (fun q => h (by rw [List.length_cons, List.length_cons, q])), Bool.and_false]
set_option maxHeartbeats 1600000 in
theorem lexSame_any (ad bd : Option Addr) (ca cb : Nat) (xs ys : List TokS) (w : World) (hx : RowT w ad xs) (hy : RowT w bd ys) (hn : xs.length ≤ 1000000) :
    Calls Tryz.prog 12 #[.slice ad xs.length ca, .slice bd ys.length cb] w fun r w' => r = .returned (.bool (sameT xs ys)) ∧ Below w.heap.size w w' := by
  have hC : Calls Tryz.prog 33 #[.slice ad xs.length ca, .slice bd ys.length cb, .func (.func 34) #[] #[]] w fun r w' => r = .returned (.bool (sameT xs ys)) ∧ Below w.heap.size w w' := by
    by_cases h : xs.length = ys.length
    · exact equal_any ad bd ca cb xs ys h w hx hy hn
    · rw [sameT_len xs ys h]
      exact equal_len ad bd _ _ ca cb h w
  obtain ⟨T, hT⟩ : ∃ T, sameT xs ys = T := ⟨_, rfl⟩
  rw [hT] at hC ⊢
  have HC := Lib.hid hC
  clear hC hT hx hy
  go_enter Tryz.func12, Tryz.ntmps12
  go_wp2_with (go_at_call 33; (with_reducible refine HC.out.mono ?_); rintro r w2 ⟨rfl, hb2⟩)
  go_ret
  exact ⟨rfl, hb2⟩
end Go.Proofs.YtjgpmfjkcioinaaGreatDoor.G
namespace Go.Proofs.YtjgpmfjkcioinaaGreatDoor.G
open Go.RowKit Go.Proofs.YtjgpmfjkcioinaaGreatDoorW.PrintWords Go.Proofs.YtjgpmfjkcioinaaGreatDoor.M
set_option linter.unusedVariables false
set_option linter.unusedSimpArgs false
def tokS (x : LOne × Nat) : TokS := ⟨x.1.k, ba x.1.t, x.2, (x.2 : Int) + x.1.n⟩
theorem flat_get : ∀ (xs : List (LOne × Nat)) (j : Nat) (x : LOne × Nat), xs[j]? = some x → (xs.flatMap tcs)[j * 4]? = some (.int .i64 x.1.k) ∧ (xs.flatMap tcs)[j * 4 + 1]? = some (.string (ba x.1.t)) ∧ (xs.flatMap tcs)[j * 4 + 2]? = some (.int .i64 (x.2 : Int)) ∧ (xs.flatMap tcs)[j * 4 + 3]? = some (.int .i64 ((x.2 : Int) + x.1.n))
  | [], _, _, h => by cases h
  | y :: ys, 0, x, h => by
    cases h
    exact ⟨rfl, rfl, rfl, rfl⟩
  | y :: ys, j + 1, x, h => by
    have ih := flat_get ys j x h
    have e : ∀ i, ((y :: ys).flatMap tcs)[(j + 1) * 4 + i]? = (ys.flatMap tcs)[j * 4 + i]? := fun i => by
      rw [List.flatMap_cons, List.getElem?_append_right (by show 4 ≤ _; omega)]
      congr 1
      show (j + 1) * 4 + i - 4 = _
      omega
    exact ⟨(e 0).trans ih.1, (e 1).trans ih.2.1, (e 2).trans ih.2.2.1, (e 3).trans ih.2.2.2⟩
theorem add_add4 (a : Addr) (i k : Nat) (hk : k ≠ 0) : (a.add i).add k = a.add (i + k) := by
  unfold Addr.add
  by_cases hi : i = 0 <;> simp [*, Nat.add_assoc]
theorem rowT_own {W : World} {base : Nat} {a : Option Addr} {m c : Nat} {xs : List (LOne × Nat)} (h : W.ownsRow base 26 4 (.slice a m c) xs.length (xs.flatMap tcs)) : m = xs.length ∧ RowT W a (xs.map tokS) := by
  rcases h.2 with ⟨e, hn⟩ | ⟨g, cap, cur, e, hg, hb, h1, h2, h3, h4⟩
  · cases e
    refine ⟨hn.symm, fun j x hj => ?_⟩
    rw [List.eq_nil_of_length_eq_zero hn] at hj; cases hj
  · cases e
    refine ⟨rfl, fun j x hj => ?_⟩
    rw [List.getElem?_map] at hj
    obtain ⟨y, hy, rfl⟩ := Option.map_eq_some_iff.1 hj
    obtain ⟨q0, q1, q2, q3⟩ := flat_get xs j y hy
    have hc : ∀ (i : Nat) (u : Value), (xs.flatMap tcs)[i]? = some u → W.cell? ((⟨g, 0, none⟩ : Addr).add i) = some u := fun i u hu => by
      have hlt := (List.getElem?_eq_some_iff.1 hu).1
      have key : (⟨g, 0, none⟩ : Addr).add i = ⟨g, i, none⟩ := by
        unfold Addr.add
        by_cases h : i = 0
        · subst h; rfl
        · simp [h]
      have hl := h.1
      rw [key, h.cellAt i (by omega)]
      exact hu
    exact ⟨_, rfl, hc _ _ q0, by rw [add_add4 _ _ _ (by decide)]; exact hc _ _ q1, by rw [add_add4 _ _ _ (by decide)]; exact hc _ _ q2, by rw [add_add4 _ _ _ (by decide)]; exact hc _ _ q3⟩
theorem step_to {l l' : List Int} {k k' : Nat} {q : LOne} (h : lexone l = q) (hq : q.e = 0) (hl : l ≠ []) (hd : (l.drop q.n).drop (bl false (l.drop q.n)) = l') (hk : k + q.n + bl false (l.drop q.n) = k') : tks l k = (q, k) :: tks l' k' := by
  subst h
  rw [tks_step k hl hq, hd, hk]
theorem ex_steps : stepsL [123, 97, 40, 98, 58, 45, 49, 41, 125] = [(⟨1, [123], 0, 1⟩, 0), (⟨2, [97], 0, 1⟩, 1), (⟨1, [40], 0, 1⟩, 2), (⟨2, [98], 0, 1⟩, 3), (⟨1, [58], 0, 1⟩, 4), (⟨3, [45, 49], 0, 2⟩, 5), (⟨1, [41], 0, 1⟩, 7), (⟨1, [125], 0, 1⟩, 8)] := by
  show tks [123, 97, 40, 98, 58, 45, 49, 41, 125] 0 = _
  rw [step_to (q := ⟨1, [123], 0, 1⟩) (l' := [97, 40, 98, 58, 45, 49, 41, 125]) (k' := 1) (by decide +kernel) rfl (by decide) (by decide +kernel) (by decide +kernel),
    step_to (q := ⟨2, [97], 0, 1⟩) (l' := [40, 98, 58, 45, 49, 41, 125]) (k' := 2) (by decide +kernel) rfl (by decide) (by decide +kernel) (by decide +kernel),
    step_to (q := ⟨1, [40], 0, 1⟩) (l' := [98, 58, 45, 49, 41, 125]) (k' := 3) (by decide +kernel) rfl (by decide) (by decide +kernel) (by decide +kernel),
    step_to (q := ⟨2, [98], 0, 1⟩) (l' := [58, 45, 49, 41, 125]) (k' := 4) (by decide +kernel) rfl (by decide) (by decide +kernel) (by decide +kernel),
    step_to (q := ⟨1, [58], 0, 1⟩) (l' := [45, 49, 41, 125]) (k' := 5) (by decide +kernel) rfl (by decide) (by decide +kernel) (by decide +kernel),
    step_to (q := ⟨3, [45, 49], 0, 2⟩) (l' := [41, 125]) (k' := 7) (by decide +kernel) rfl (by decide) (by decide +kernel) (by decide +kernel),
    step_to (q := ⟨1, [41], 0, 1⟩) (l' := [125]) (k' := 8) (by decide +kernel) rfl (by decide) (by decide +kernel) (by decide +kernel),
    step_to (q := ⟨1, [125], 0, 1⟩) (l' := []) (k' := 9) (by decide +kernel) rfl (by decide) (by decide +kernel) (by decide +kernel), tks_nil]
theorem ex_may : mayp isc [123, 97, 40, 98, 58, 45, 49, 41, 125] = true := by decide +kernel
def exL : List (LOne × Nat) := [(⟨1, [123], 0, 1⟩, 0), (⟨2, [97], 0, 1⟩, 1), (⟨1, [40], 0, 1⟩, 2), (⟨2, [98], 0, 1⟩, 3), (⟨1, [58], 0, 1⟩, 4), (⟨3, [45, 49], 0, 2⟩, 5), (⟨1, [41], 0, 1⟩, 7), (⟨1, [125], 0, 1⟩, 8)]
theorem ex_lex : lexR (by_ (⟨#[123, 97, 40, 98, 58, 45, 49, 41, 125]⟩ : ByteArray)) = (exL, 0, 9) := by
  have e : by_ (⟨#[123, 97, 40, 98, 58, 45, 49, 41, 125]⟩ : ByteArray) = [123, 97, 40, 98, 58, 45, 49, 41, 125] := rfl
  rw [e]
  unfold lexR
  rw [if_pos ex_may, lexL_good (by rw [ex_steps]; decide), ex_steps]; rfl
theorem ex_one : oneV ⟨#[46, 46, 46, 120]⟩ 0 = .tuple #[.agg #[.int .i64 1, .string ⟨#[46, 46, 46]⟩, .int .i64 0, .int .i64 3], .int .i64 0, .int .i64 3] := by
  have e : oneV ⟨#[46, 46, 46, 120]⟩ 0 = loneV (lexone (at_ (⟨#[46, 46, 46, 120]⟩ : ByteArray) 0)) 0 := if_neg (by decide)
  have e2 : lexone (at_ (⟨#[46, 46, 46, 120]⟩ : ByteArray) 0) = ⟨1, [46, 46, 46], 0, 3⟩ := by decide +kernel
  rw [e, loneV_ok e2]; rfl
theorem sameT_self : ∀ xs : List TokS, sameT xs xs = true
  | [] => rfl
  | x :: xs => by
    show (eqT x x && sameT xs xs) = true
    rw [sameT_self xs]
    unfold eqT; simp
theorem RowT.low {W W' : World} {ad : Option Addr} {xs : List TokS} (h : RowT W ad xs) (hb : Below W.heap.size W W') : RowT W' ad xs := fun j x hj => by
  obtain ⟨b, e, h0, h1, h2, h3⟩ := h j x hj
  have f : ∀ {p : Addr} {v : Value}, W.cell? p = some v → W'.cell? p = some v := fun {p v} hp => (hb.cell (p := p) (World.block_lt_of_cell? _ _ hp)).trans hp
  exact ⟨b, e, f h0, f h1, f h2, f h3⟩
theorem same_st {w : World} {a : Option Addr} {c : Nat} {xs : List (LOne × Nat)} (h : RowT w a (xs.map tokS)) (hn : xs.length ≤ 1000000) :
    Hid (∀ W : World, Below w.heap.size w W → Calls Tryz.prog 12 #[.slice a xs.length c, .slice a xs.length c] W fun r w' => r = .returned (.bool true) ∧ Below W.heap.size W w') := Lib.hid fun W hb => by
  have := lexSame_any a a c c (xs.map tokS) (xs.map tokS) W (h.low hb) (h.low hb) (by rw [List.length_map]; exact hn)
  rw [sameT_self, List.length_map] at this
  exact this
set_option maxHeartbeats 1600000 in
theorem awake9 (w : World) (hT : TE w) : Calls Tryz.prog 4 #[] w fun e w' => e = .returned (.bool true) ∧ Below w.heap.size w w' := by
  have hL := lex_any ⟨#[123, 97, 40, 98, 58, 45, 49, 41, 125]⟩ w (by decide) hT
  rw [ex_lex] at hL
  have hO := fun (W : World) (hb : Below w.heap.size w W) => one_any ⟨#[46, 46, 46, 120]⟩ 0 W (by decide) (hT.low hb)
  simp only [ex_one] at hO
  have HO := Lib.hid hO
  have HL := Lib.hid hL
  clear hO hL
  go_enter Tryz.func4, Tryz.ntmps4
  go_wp2_with (first
    | (go_at_call 8; (with_reducible refine HL.out.mono ?_); rintro e w1 ⟨v, rfl, hrow, hb1⟩; obtain ⟨a, m, c, rfl⟩ := own_slice hrow; obtain ⟨rfl, hrt⟩ := rowT_own hrow; obtain ⟨b, rfl, k0, k1, k2, k3⟩ := hrt.at (Below.refl _ _) (j := 5) (x := tokS (⟨3, [45, 49], 0, 2⟩, 5)) rfl; have k0' : w1.cell? ⟨b.block, b.off + 20, none⟩ = some (.int .i64 3) := k0; have HS := same_st (c := c) hrt (by decide); clear k0 k1 k2 k3 hrt hrow)
    | (go_at_call 6; (with_reducible refine (HO.out _ ?c1).mono ?_); (case c1 => assumption); rintro e w2 ⟨rfl, hb2⟩; have k2 : w2.cell? ⟨b.block, b.off + 20, none⟩ = some (.int .i64 3) := (hb2.cell (p := ⟨b.block, b.off + 20, none⟩) (World.block_lt_of_cell? _ _ k0')).trans k0'; have k3 := fun o => al k2 o; have hb3 := hb2.alloc hb2.size (.cells #[.int .i64 1, .string ⟨#[46, 46, 46]⟩, .int .i64 0, .int .i64 3] 26))
    | (go_at_call 12; (with_reducible refine (HS.out _ ?c1).mono ?_); (case c1 => assumption); rintro e w4 ⟨rfl, hb4⟩))
  go_ret
  have q3 := hb1.trans (hb3.mono hb1.size)
  exact ⟨rfl, q3.trans (hb4.mono q3.size)⟩
end Go.Proofs.YtjgpmfjkcioinaaGreatDoor.G
namespace Go.Proofs.YtjgpmfjkcioinaaGreatDoor.G
open Go.RowKit Go.Proofs.YtjgpmfjkcioinaaGreatDoor.Q Go.Proofs.YtjgpmfjkcioinaaGreatDoorW.PrintWords Go.Proofs.YtjgpmfjkcioinaaGreatDoorW.PrintLast Go.Proofs.YtjgpmfjkcioinaaGreatDoor.M
set_option linter.unusedVariables false
set_option linter.unusedSimpArgs false
def tokQ (x : LOne × Nat) : S26 := ⟨x.1.k, ba x.1.t, (x.2 : Int), (x.2 : Int) + x.1.n⟩
def toT (x : S26) : TokS := ⟨x.f0, x.f1, x.f2, x.f3⟩
theorem flat_drop : ∀ (xs : List (LOne × Nat)) (j : Nat) (x : LOne × Nat), xs[j]? = some x → ((xs.flatMap tcs).drop (j * 4)).take 4 = tcs x
  | [], _, _, h => by cases h
  | y :: ys, 0, x, h => by
    cases h
    rw [Nat.zero_mul, List.drop_zero, List.flatMap_cons]; rfl
  | y :: ys, j + 1, x, h => by
    have ih := flat_drop ys j x h
    rw [List.flatMap_cons, show (j + 1) * 4 = j * 4 + 1 + 1 + 1 + 1 by omega]
    exact ih
theorem flat_len : ∀ (xs : List (LOne × Nat)), (xs.flatMap tcs).length = xs.length * 4
  | [] => rfl
  | y :: ys => by
    rw [List.flatMap_cons, List.length_append, flat_len ys, List.length_cons]
    show 4 + _ = _; omega
theorem row_of {w : World} {base : Nat} {v : Value} {xs : List (LOne × Nat)} (h : w.ownsRow base 26 4 v xs.length (xs.flatMap tcs)) : Kd.R k26 26 w base (fun _ => True) v (xs.map tokQ) := by
  refine ⟨fun _ _ => trivial, xs.flatMap tcs, ?_, ?_, ?_⟩
  · rw [List.length_map]; exact h
  · rw [List.length_map]; exact flat_len xs
  · intro j p hj
    rw [List.getElem?_map] at hj
    obtain ⟨y, hy, rfl⟩ := Option.map_eq_some_iff.1 hj
    have e : ((xs.flatMap tcs).drop (j * k26.sz)).take k26.sz = tcs y := flat_drop xs j y hy
    rw [e]
    exact k26_mkM _ _ _ (tokQ y)
theorem rowT_C {w : World} {A : Option Addr} {l : List S26} (h : Kd.C k26 w A l.length l) : RowT w A (l.map toT) := by
  intro j x hj
  rw [List.getElem?_map] at hj
  obtain ⟨y, hy, rfl⟩ := Option.map_eq_some_iff.1 hj
  have hlt := (List.getElem?_eq_some_iff.1 hy).1
  obtain ⟨ad, e, hc⟩ := h.2.2 (by omega)
  obtain ⟨c, _, hR, hcell0⟩ := hc j y hy
  have hcell : ∀ i u, c[i]? = some u → w.cell? (ad.add (j * 4 + i)) = some u := hcell0
  obtain rfl := k26_open hR
  exact ⟨ad, e, hcell 0 _ rfl, by rw [add_add4 _ _ _ (by decide)]; exact hcell 1 _ rfl, by rw [add_add4 _ _ _ (by decide)]; exact hcell 2 _ rfl, by rw [add_add4 _ _ _ (by decide)]; exact hcell 3 _ rfl⟩
def oneT (s : ByteArray) (i : Int) : Int × ByteArray × Int × Int × Int × Int :=
  if i < 0 ∨ (s.size : Int) ≤ i then (0, ⟨#[]⟩, 0, 0, 2, i)
  else if (lexone (at_ s i)).e = 0 then ((lexone (at_ s i)).k, ba (lexone (at_ s i)).t, i, i + (lexone (at_ s i)).n, 0, i + (lexone (at_ s i)).n)
  else (0, ⟨#[]⟩, 0, 0, (lexone (at_ s i)).e, i + (lexone (at_ s i)).n)
theorem oneV_T (s : ByteArray) (i : Int) : oneV s i = .tuple #[.agg #[.int .i64 (oneT s i).1, .string (oneT s i).2.1, .int .i64 (oneT s i).2.2.1, .int .i64 (oneT s i).2.2.2.1], .int .i64 (oneT s i).2.2.2.2.1, .int .i64 (oneT s i).2.2.2.2.2] := by
  unfold oneV oneT loneV tkV
  split
  · rfl
  · split <;> rfl
def lex_One.f (s : ByteArray) (i : Int) : Option (Int × ByteArray × Int × Int × Int × Int) := if s.size ≤ 1000000 then some (oneT s i) else none
def lex_Lex.f (s : ByteArray) : Option (List S26 × Int × Int) := if s.size ≤ 1000000 then some ((lexR (by_ s)).1.map tokQ, (lexR (by_ s)).2.1, (lexR (by_ s)).2.2) else none
def lex_Same.f (l m : List S26) : Option Bool := if l.length ≤ 1000000 then some (sameT (l.map toT) (m.map toT)) else none
def copperplatelaw09_awake.f : Option Bool := some true
theorem lex_One.calls (a0 : ByteArray) (a1 : Int) (r1 : Int) (r2 : ByteArray) (r3 r4 r5 r6 : Int) (w : World) (h : lex_One.f a0 a1 = some (r1, r2, r3, r4, r5, r6)) (hL : LW w) :
    Calls Tryz.prog 6 #[.string a0, .int .i64 a1] w fun e w' => e = .returned (.tuple #[.agg #[.int .i64 r1, .string r2, .int .i64 r3, .int .i64 r4], .int .i64 r5, .int .i64 r6]) ∧ Below w.heap.size w w' := by
  unfold lex_One.f at h
  by_cases hs : a0.size ≤ 1000000
  · rw [if_pos hs] at h
    have hq := oneV_T a0 a1
    have hO := one_any a0 a1 w hs hL
    rw [hq, Option.some.inj h] at hO
    exact hO
  · rw [if_neg hs] at h; cases h
theorem lex_Lex.calls (a0 : ByteArray) (r1 : List S26) (r2 r3 : Int) (w : World) (h : lex_Lex.f a0 = some (r1, r2, r3)) (hL : LW w) :
    Calls Tryz.prog 8 #[.string a0] w fun e w' => ∃ v0_ : Value, e = .returned (.tuple #[v0_, .int .i64 r2, .int .i64 r3]) ∧ Kd.R k26 26 w' w.heap.size (fun _ => True) v0_ r1 ∧ Below w.heap.size w w' := by
  unfold lex_Lex.f at h
  by_cases hs : a0.size ≤ 1000000
  · rw [if_pos hs] at h
    simp only [Option.some.injEq, Prod.mk.injEq] at h
    obtain ⟨rfl, rfl, rfl⟩ := h
    exact (lex_any a0 w hs hL).mono fun e W' ⟨v, h1, h2, h3⟩ => ⟨v, h1, row_of h2, h3⟩
  · rw [if_neg hs] at h; cases h
theorem lex_Same.calls (A0 : Option Addr) (c0 : Nat) (l0 : List S26) (A1 : Option Addr) (c1 : Nat) (l1 : List S26) (r : Bool) (w : World) (hr0 : Kd.C k26 w A0 l0.length l0) (hc0 : l0.length ≤ c0) (hr1 : Kd.C k26 w A1 l1.length l1) (hc1 : l1.length ≤ c1) (h : lex_Same.f l0 l1 = some r) :
    Calls Tryz.prog 12 #[.slice A0 l0.length c0, .slice A1 l1.length c1] w fun e w' => e = .returned (.bool r) ∧ Below w.heap.size w w' := by
  unfold lex_Same.f at h
  by_cases hs : l0.length ≤ 1000000
  · rw [if_pos hs] at h
    have := lexSame_any A0 A1 c0 c1 (l0.map toT) (l1.map toT) w (rowT_C hr0) (rowT_C hr1) (by rw [List.length_map]; exact hs)
    rw [List.length_map, List.length_map, Option.some.inj h] at this
    exact this
  · rw [if_neg hs] at h; cases h
theorem copperplatelaw09_awake.calls (r : Bool) (w : World) (h : copperplatelaw09_awake.f = some r) (hL : LW w) :
    Calls Tryz.prog 4 #[] w fun e w' => e = .returned (.bool r) ∧ Below w.heap.size w w' := by
  cases h
  exact awake9 w hL
end Go.Proofs.YtjgpmfjkcioinaaGreatDoor.G
