/-
  Lex's tokens as a row; the example of the laws of layer 9.
-/
import Derived.Test.YtjgpmfjkcioinaaDoorPTLX5
import Derived.Test.YtjgpmfjkcioinaaDoorPTLX6
namespace Go.Proofs.YtjgpmfjkcioinaaDoor.G
open Go.RowKit Go.Proofs.YtjgpmfjkcioinaaDoorW.PrintWords Go.Proofs.YtjgpmfjkcioinaaDoor.M
set_option linter.unusedVariables false
set_option linter.unusedSimpArgs false
def tokS (x : LOne × Nat) : TokS := ⟨x.1.k, ba x.1.t, x.2, (x.2 : Int) + x.1.n⟩
theorem flat_get : ∀ (xs : List (LOne × Nat)) (j : Nat) (x : LOne × Nat), xs[j]? = some x → (xs.flatMap tcs)[j * 4]? = some (.int .i64 x.1.k) ∧ (xs.flatMap tcs)[j * 4 + 1]? = some (.string (ba x.1.t)) ∧ (xs.flatMap tcs)[j * 4 + 2]? = some (.int .i64 (x.2 : Int)) ∧ (xs.flatMap tcs)[j * 4 + 3]? = some (.int .i64 ((x.2 : Int) + x.1.n))
  | [], _, _, h => by cases h
  | y :: ys, 0, x, h => by
    cases h
    exact ⟨rfl, rfl, rfl, rfl⟩
  | y :: ys, j + 1, x, h => by
    have ih := flat_get ys j x h
    have e : ∀ i, ((y :: ys).flatMap tcs)[(j + 1) * 4 + i]? = (ys.flatMap tcs)[j * 4 + i]? := fun i => by
      rw [List.flatMap_cons, List.getElem?_append_right (by show 4 ≤ _; omega)]
      congr 1
      show (j + 1) * 4 + i - 4 = _
      omega
    exact ⟨(e 0).trans ih.1, (e 1).trans ih.2.1, (e 2).trans ih.2.2.1, (e 3).trans ih.2.2.2⟩
theorem add_add4 (a : Addr) (i k : Nat) (hk : k ≠ 0) : (a.add i).add k = a.add (i + k) := by
  unfold Addr.add
  by_cases hi : i = 0 <;> simp [*, Nat.add_assoc]
theorem rowT_own {W : World} {base : Nat} {a : Option Addr} {m c : Nat} {xs : List (LOne × Nat)} (h : W.ownsRow base 28 4 (.slice a m c) xs.length (xs.flatMap tcs)) : m = xs.length ∧ RowT W a (xs.map tokS) := by
  rcases h.2 with ⟨e, hn⟩ | ⟨g, cap, cur, e, hg, hb, h1, h2, h3, h4⟩
  · cases e
    refine ⟨hn.symm, fun j x hj => ?_⟩
    rw [List.eq_nil_of_length_eq_zero hn] at hj; cases hj
  · cases e
    refine ⟨rfl, fun j x hj => ?_⟩
    rw [List.getElem?_map] at hj
    obtain ⟨y, hy, rfl⟩ := Option.map_eq_some_iff.1 hj
    obtain ⟨q0, q1, q2, q3⟩ := flat_get xs j y hy
    have hc : ∀ (i : Nat) (u : Value), (xs.flatMap tcs)[i]? = some u → W.cell? ((⟨g, 0, none⟩ : Addr).add i) = some u := fun i u hu => by
      have hlt := (List.getElem?_eq_some_iff.1 hu).1
      have key : (⟨g, 0, none⟩ : Addr).add i = ⟨g, i, none⟩ := by
        unfold Addr.add
        by_cases h : i = 0
        · subst h; rfl
        · simp [h]
      have hl := h.1
      rw [key, h.cellAt i (by omega)]
      exact hu
    exact ⟨_, rfl, hc _ _ q0, by rw [add_add4 _ _ _ (by decide)]; exact hc _ _ q1, by rw [add_add4 _ _ _ (by decide)]; exact hc _ _ q2, by rw [add_add4 _ _ _ (by decide)]; exact hc _ _ q3⟩
theorem step_to {l l' : List Int} {k k' : Nat} {q : LOne} (h : lexone l = q) (hq : q.e = 0) (hl : l ≠ []) (hd : (l.drop q.n).drop (bl false (l.drop q.n)) = l') (hk : k + q.n + bl false (l.drop q.n) = k') : tks l k = (q, k) :: tks l' k' := by
  subst h
  rw [tks_step k hl hq, hd, hk]
theorem ex_steps : stepsL [123, 97, 40, 98, 58, 45, 49, 41, 125] = [(⟨1, [123], 0, 1⟩, 0), (⟨2, [97], 0, 1⟩, 1), (⟨1, [40], 0, 1⟩, 2), (⟨2, [98], 0, 1⟩, 3), (⟨1, [58], 0, 1⟩, 4), (⟨3, [45, 49], 0, 2⟩, 5), (⟨1, [41], 0, 1⟩, 7), (⟨1, [125], 0, 1⟩, 8)] := by
  show tks [123, 97, 40, 98, 58, 45, 49, 41, 125] 0 = _
  rw [step_to (q := ⟨1, [123], 0, 1⟩) (l' := [97, 40, 98, 58, 45, 49, 41, 125]) (k' := 1) (by decide +kernel) rfl (by decide) (by decide +kernel) (by decide +kernel),
    step_to (q := ⟨2, [97], 0, 1⟩) (l' := [40, 98, 58, 45, 49, 41, 125]) (k' := 2) (by decide +kernel) rfl (by decide) (by decide +kernel) (by decide +kernel),
    step_to (q := ⟨1, [40], 0, 1⟩) (l' := [98, 58, 45, 49, 41, 125]) (k' := 3) (by decide +kernel) rfl (by decide) (by decide +kernel) (by decide +kernel),
    step_to (q := ⟨2, [98], 0, 1⟩) (l' := [58, 45, 49, 41, 125]) (k' := 4) (by decide +kernel) rfl (by decide) (by decide +kernel) (by decide +kernel),
    step_to (q := ⟨1, [58], 0, 1⟩) (l' := [45, 49, 41, 125]) (k' := 5) (by decide +kernel) rfl (by decide) (by decide +kernel) (by decide +kernel),
    step_to (q := ⟨3, [45, 49], 0, 2⟩) (l' := [41, 125]) (k' := 7) (by decide +kernel) rfl (by decide) (by decide +kernel) (by decide +kernel),
    step_to (q := ⟨1, [41], 0, 1⟩) (l' := [125]) (k' := 8) (by decide +kernel) rfl (by decide) (by decide +kernel) (by decide +kernel),
    step_to (q := ⟨1, [125], 0, 1⟩) (l' := []) (k' := 9) (by decide +kernel) rfl (by decide) (by decide +kernel) (by decide +kernel), tks_nil]
theorem ex_may : mayp isc [123, 97, 40, 98, 58, 45, 49, 41, 125] = true := by decide +kernel
def exL : List (LOne × Nat) := [(⟨1, [123], 0, 1⟩, 0), (⟨2, [97], 0, 1⟩, 1), (⟨1, [40], 0, 1⟩, 2), (⟨2, [98], 0, 1⟩, 3), (⟨1, [58], 0, 1⟩, 4), (⟨3, [45, 49], 0, 2⟩, 5), (⟨1, [41], 0, 1⟩, 7), (⟨1, [125], 0, 1⟩, 8)]
theorem ex_lex : lexR (by_ (⟨#[123, 97, 40, 98, 58, 45, 49, 41, 125]⟩ : ByteArray)) = (exL, 0, 9) := by
  have e : by_ (⟨#[123, 97, 40, 98, 58, 45, 49, 41, 125]⟩ : ByteArray) = [123, 97, 40, 98, 58, 45, 49, 41, 125] := rfl
  rw [e]
  unfold lexR
  rw [if_pos ex_may, lexL_good (by rw [ex_steps]; decide), ex_steps]; rfl
theorem ex_one : oneV ⟨#[46, 46, 46, 120]⟩ 0 = .tuple #[.agg #[.int .i64 1, .string ⟨#[46, 46, 46]⟩, .int .i64 0, .int .i64 3], .int .i64 0, .int .i64 3] := by
  have e : oneV ⟨#[46, 46, 46, 120]⟩ 0 = loneV (lexone (at_ (⟨#[46, 46, 46, 120]⟩ : ByteArray) 0)) 0 := if_neg (by decide)
  have e2 : lexone (at_ (⟨#[46, 46, 46, 120]⟩ : ByteArray) 0) = ⟨1, [46, 46, 46], 0, 3⟩ := by decide +kernel
  rw [e, loneV_ok e2]; rfl
theorem sameT_self : ∀ xs : List TokS, sameT xs xs = true
  | [] => rfl
  | x :: xs => by
    show (eqT x x && sameT xs xs) = true
    rw [sameT_self xs]
    unfold eqT; simp
theorem RowT.low {W W' : World} {ad : Option Addr} {xs : List TokS} (h : RowT W ad xs) (hb : Below W.heap.size W W') : RowT W' ad xs := fun j x hj => by
  obtain ⟨b, e, h0, h1, h2, h3⟩ := h j x hj
  have f : ∀ {p : Addr} {v : Value}, W.cell? p = some v → W'.cell? p = some v := fun {p v} hp => (hb.cell (p := p) (World.block_lt_of_cell? _ _ hp)).trans hp
  exact ⟨b, e, f h0, f h1, f h2, f h3⟩
theorem same_st {w : World} {a : Option Addr} {c : Nat} {xs : List (LOne × Nat)} (h : RowT w a (xs.map tokS)) (hn : xs.length ≤ 1000000) :
    Hid (∀ W : World, Below w.heap.size w W → Calls Tryd.prog 22 #[.slice a xs.length c, .slice a xs.length c] W fun r w' => r = .returned (.bool true) ∧ Below W.heap.size W w') := Lib.hid fun W hb => by
  have := lexSame_any a a c c (xs.map tokS) (xs.map tokS) W (h.low hb) (h.low hb) (by rw [List.length_map]; exact hn)
  rw [sameT_self, List.length_map] at this
  exact this
set_option maxHeartbeats 1600000 in
theorem awake9 (w : World) (hT : TE w) : Calls Tryd.prog 10 #[] w fun e w' => e = .returned (.bool true) ∧ Below w.heap.size w w' := by
  have hL := lex_any ⟨#[123, 97, 40, 98, 58, 45, 49, 41, 125]⟩ w (by decide) hT
  rw [ex_lex] at hL
  have hO := fun (W : World) (hb : Below w.heap.size w W) => one_any ⟨#[46, 46, 46, 120]⟩ 0 W (by decide) (hT.low hb)
  simp only [ex_one] at hO
  have HO := Lib.hid hO
  have HL := Lib.hid hL
  clear hO hL
  go_enter Tryd.func10, Tryd.ntmps10
  go_wp2_with (first
    | (go_at_call 11; (with_reducible refine HL.out.mono ?_); rintro e w1 ⟨v, rfl, hrow, hb1⟩; obtain ⟨a, m, c, rfl⟩ := own_slice hrow; obtain ⟨rfl, hrt⟩ := rowT_own hrow; obtain ⟨b, rfl, k0, k1, k2, k3⟩ := hrt.at (Below.refl _ _) (j := 5) (x := tokS (⟨3, [45, 49], 0, 2⟩, 5)) rfl; have k0' : w1.cell? ⟨b.block, b.off + 20, none⟩ = some (.int .i64 3) := k0; have HS := same_st (c := c) hrt (by decide); clear k0 k1 k2 k3 hrt hrow)
    | (go_at_call 13; (with_reducible refine (HO.out _ ?c1).mono ?_); (case c1 => assumption); rintro e w2 ⟨rfl, hb2⟩; have k2 : w2.cell? ⟨b.block, b.off + 20, none⟩ = some (.int .i64 3) := (hb2.cell (p := ⟨b.block, b.off + 20, none⟩) (World.block_lt_of_cell? _ _ k0')).trans k0'; have k3 := fun o => al k2 o; have hb3 := hb2.alloc hb2.size (.cells #[.int .i64 1, .string ⟨#[46, 46, 46]⟩, .int .i64 0, .int .i64 3] 28))
    | (go_at_call 22; (with_reducible refine (HS.out _ ?c1).mono ?_); (case c1 => assumption); rintro e w4 ⟨rfl, hb4⟩))
  go_ret
  have q3 := hb1.trans (hb3.mono hb1.size)
  exact ⟨rfl, q3.trans (hb4.mono q3.size)⟩
end Go.Proofs.YtjgpmfjkcioinaaDoor.G
