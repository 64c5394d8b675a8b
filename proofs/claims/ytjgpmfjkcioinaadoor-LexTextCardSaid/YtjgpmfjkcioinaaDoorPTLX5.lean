/-
  'lex.Lex': what it answers.
-/
import Derived.Test.YtjgpmfjkcioinaaDoorPTLX4
import Derived.Test.YtjgpmfjkcioinaaDoorPTRH
import Derived.Test.YtjgpmfjkcioinaaDoorPTF5
namespace Go.Proofs.YtjgpmfjkcioinaaDoor.G
open Go.RowKit Go.Proofs.YtjgpmfjkcioinaaDoorW.PrintWords Go.Proofs.YtjgpmfjkcioinaaDoor.M
set_option linter.unusedVariables false
set_option linter.unusedSimpArgs false
attribute [local go_sem] Oper.semAt_some
attribute [local irreducible] Utf8.encode Utf8.decode
def stC (x : LOne × Nat) : Array Value := if x.1.e = 0 then #[.int .i64 x.1.k, .string (ba x.1.t), .int .i64 (x.2 : Int), .int .i64 ((x.2 : Int) + x.1.n), .int .i64 0, .int .i64 ((x.2 : Int) + x.1.n)] else #[.int .i64 0, .string ⟨#[]⟩, .int .i64 0, .int .i64 0, .int .i64 x.1.e, .int .i64 ((x.2 : Int) + x.1.n)]
def tcs (x : LOne × Nat) : List Value := [.int .i64 x.1.k, .string (ba x.1.t), .int .i64 (x.2 : Int), .int .i64 ((x.2 : Int) + x.1.n)]
structure LxI (w : World) (no : Nat) (s : ByteArray) (pre : List (LOne × Nat)) (W : World) : Prop where
  good : ∀ y ∈ pre, y.1.e = 0
  row : ∃ v, Boxed W no 23 v ∧ W.ownsRow w.heap.size 28 4 v pre.length (pre.flatMap tcs)
  r0 : Boxed W w.heap.size 23 (.slice none 0 0)
  r1 : Boxed W (w.heap.size + 1) 24 (.int .i64 0)
  r2 : Boxed W (w.heap.size + 1 + 1) 3 (.int .i64 0)
  tx : Boxed W (no + 1) 9 (.string s)
  below : Below w.heap.size w W
structure LxX (w : World) (c : Code) (pre : List (LOne × Nat)) (W : World) : Prop where
  ret : c = .ret
  ex : ∃ ys x, pre = ys ++ [x] ∧ (∀ y ∈ ys, y.1.e = 0) ∧ x.1.e ≠ 0 ∧ Boxed W w.heap.size 23 (.slice none 0 0) ∧ Boxed W (w.heap.size + 1) 24 (.int .i64 x.1.e) ∧ Boxed W (w.heap.size + 1 + 1) 3 (.int .i64 ((x.2 : Int) + x.1.n))
  below : Below w.heap.size w W
theorem box_own {W W' : World} {row : Option Nat} {b : Nat} {t : TypeId} {v : Value} (h : Boxed W b t v) (hg : W.grownBy W' row) (hr : ∀ r, row = some r → ∃ o : Obj, W.heap[r]? = some o ∧ o.isCells = false) : Boxed W' b t v :=
  h.kept hg (fun e => by
    obtain ⟨o, ho, hc⟩ := hr b e.symm
    rw [show W.heap[b]? = _ from h] at ho; cases ho; cases hc)
theorem lxI_own (w : World) (no : Nat) (s : ByteArray) (B : Nat) (hB : w.heap.size ≤ B) : OwnFrom B (LxI w no s) := by
  intro pre A A' row h hg hr
  have hr2 := fun r e => (hr r e).2
  obtain ⟨v', q1, q2, _⟩ := holdsRow_own w.heap.size no 23 28 4 (fun p : List (LOne × Nat) => p.length) (fun p => p.flatMap tcs) (fun _ _ => True) pre A A' row (by obtain ⟨v, a, b⟩ := h.row; exact ⟨v, a, b, trivial⟩) hg hr2
  exact ⟨h.good, ⟨v', q1, q2⟩, box_own h.r0 hg hr2, box_own h.r1 hg hr2, box_own h.r2 hg hr2, box_own h.tx hg hr2, h.below.grown hg h.below.size (fun k e => Nat.le_trans hB (hr k e).1)⟩
theorem lxX_own (w : World) (c : Code) (B : Nat) (hB : w.heap.size ≤ B) : OwnFrom B (LxX w c) := by
  intro pre A A' row h hg hr
  have hr2 := fun r e => (hr r e).2
  obtain ⟨ys, x, a1, a2, a3, a4, a5, a6⟩ := h.ex
  exact ⟨h.ret, ⟨ys, x, a1, a2, a3, box_own a4 hg hr2, box_own a5 hg hr2, box_own a6 hg hr2⟩, h.below.grown hg h.below.size (fun k e => Nat.le_trans hB (hr k e).1)⟩
theorem kp_put (n₁ b : Nat) (W : World) (l : Nat) (o o' : Obj) (h1 : n₁ ≤ l) (h2 : l ≠ b) (hl : W.heap[l]? = some o) : KP n₁ b W (W.putObj l o') :=
  ⟨(Below.refl n₁ W).grown (grownBy_putObj' W l o') (by have := (Array.getElem?_eq_some_iff.1 hl).1; omega) (fun k e => by cases e; exact h1), World.putObj_heap_other (Ne.symm h2)⟩
theorem info_tok : (Tryd.prog.info? 28).map (fun i => (i.zero, i.size, i.bytes)) = some (some (.agg #[.int .i64 0, .string ByteArray.empty, .int .i64 0, .int .i64 0]), 4, 40) := by kernel_rfl
theorem cell_of_six {W : World} {b : Nat} {c0 c1 c2 c3 c4 c5 : Value} {t : TypeId} (h : W.heap[b]? = some (.cells #[c0, c1, c2, c3, c4, c5] t (0, 0))) :
    W.cell? ⟨b, 0, none⟩ = some c0 ∧ W.cell? ⟨b, 1, none⟩ = some c1 ∧ W.cell? ⟨b, 2, none⟩ = some c2 ∧ W.cell? ⟨b, 3, none⟩ = some c3 ∧ W.cell? ⟨b, 4, none⟩ = some c4 ∧ W.cell? ⟨b, 5, none⟩ = some c5 := by
  refine ⟨?_, ?_, ?_, ?_, ?_, ?_⟩ <;> simp [World.cell?, h]
theorem cells_new (W : World) (cs : List Value) (t : TypeId) : ∀ (j : Nat) (u : Value), cs[j]? = some u → (W.alloc (.cells cs.toArray t)).cell? ((⟨W.heap.size, 0, none⟩ : Addr).add j) = some u := by
  intro j u hj
  have key : (⟨W.heap.size, 0, none⟩ : Addr).add j = ⟨W.heap.size, j, none⟩ := by
    unfold Addr.add
    by_cases h : j = 0
    · subst h; rfl
    · simp [h]
  rw [key, World.cell?_alloc_mark]
  simpa using hj
theorem lx_next {w W w1 : World} {no : Nat} {s : ByteArray} {pre : List (LOne × Nat)} {x : LOne × Nat} {v v' : Value} {o : Obj} (h : LxI w no s pre W) (hx : x.1.e = 0) (hno : w.heap.size + 2 < no) (hv : Boxed W no 23 v) (hrow : W.ownsRow w.heap.size 28 4 v pre.length (pre.flatMap tcs))
    (hown' : w1.ownsRow w.heap.size 28 4 v' (pre.length + 1) (pre.flatMap tcs ++ tcs x)) (hgrow : (W.alloc o).grownBy w1 v.ownBlock) (D : Nat) :
    Boxed w1 no 23 v ∧ (KeepsFrom D W (w1.setCell ⟨no, 0, none⟩ v') ∧ KP w.heap.size (no + 1) W (w1.setCell ⟨no, 0, none⟩ v') ∧ LxI w no s (pre ++ [x]) (w1.setCell ⟨no, 0, none⟩ v')) := by
  obtain ⟨p1, p2, p3, p4, p5⟩ := Boxed.appended hv (by decide) hrow h.below.size (by omega) hown' hgrow
  have keep : ∀ {b : Nat} {t : TypeId} {u : Value}, Boxed W b t u → t ≠ 28 → b ≠ no → Boxed (w1.setCell ⟨no, 0, none⟩ v') b t u := fun {b t u} hb hte hne =>
    (show (w1.setCell ⟨no, 0, none⟩ v').heap[b]? = _ from Below.heap_setCell w1 ⟨no, 0, none⟩ v' b hne).trans ((hb.alloc o).kept hgrow (hb.not_row hte hrow))
  have htx := keep h.tx (by decide) (by omega)
  refine ⟨p1, p4.from D, ⟨p5, htx.trans (Eq.symm h.tx)⟩, ⟨?_, ⟨v', p2, ?_⟩, keep h.r0 (by decide) (by omega), keep h.r1 (by decide) (by omega), keep h.r2 (by decide) (by omega), htx, h.below.trans p5⟩⟩
  · intro y hy
    rcases List.mem_append.1 hy with hy | hy
    · exact h.good y hy
    · rw [List.mem_singleton.1 hy]; exact hx
  · rw [List.length_append, List.flatMap_append]
    have e : [x].flatMap tcs = tcs x := by simp
    rw [e]; exact p3
theorem set_far {W : World} {b c : Nat} {t : TypeId} {u v : Value} (h : Boxed W b t u) (hne : b ≠ c) : Boxed (W.setCell ⟨c, 0, none⟩ v) b t u :=
  (show (W.setCell ⟨c, 0, none⟩ v).heap[b]? = _ from Below.heap_setCell W ⟨c, 0, none⟩ v b hne).trans h
theorem lx_leave {w W : World} {no : Nat} {s : ByteArray} {pre : List (LOne × Nat)} {x : LOne × Nat} (h : LxI w no s pre W) (hx : x.1.e ≠ 0) (D : Nat) :
    KeepsFrom D W (((W.setCell ⟨w.heap.size, 0, none⟩ (.slice none 0 0)).setCell ⟨w.heap.size + 1, 0, none⟩ (.int .i64 x.1.e)).setCell ⟨w.heap.size + 1 + 1, 0, none⟩ (.int .i64 ((x.2 : Int) + x.1.n))).drew ∧
    LxX w .ret (pre ++ [x]) (((W.setCell ⟨w.heap.size, 0, none⟩ (.slice none 0 0)).setCell ⟨w.heap.size + 1, 0, none⟩ (.int .i64 x.1.e)).setCell ⟨w.heap.size + 1 + 1, 0, none⟩ (.int .i64 ((x.2 : Int) + x.1.n))).drew := by
  have k : KeepsOthers W (((W.setCell ⟨w.heap.size, 0, none⟩ (.slice none 0 0)).setCell ⟨w.heap.size + 1, 0, none⟩ (.int .i64 x.1.e)).setCell ⟨w.heap.size + 1 + 1, 0, none⟩ (.int .i64 ((x.2 : Int) + x.1.n))) :=
    ((KeepsOthers.setCell _ _ _).trans (KeepsOthers.setCell _ _ _)).trans (KeepsOthers.setCell _ _ _)
  refine ⟨⟨k.size, fun j o _ h1 h2 => k.same j o h1 h2⟩, ⟨rfl, ⟨pre, x, rfl, h.good, hx, ?_, ?_, ?_⟩, ?_⟩⟩
  · exact set_far (set_far (h.r0.set _) (by omega)) (by omega)
  · exact set_far ((set_far h.r1 (by omega)).set _) (by omega)
  · exact (set_far (set_far h.r2 (by omega)) (by omega)).set _
  · exact ((((h.below.setCell (p := ⟨w.heap.size, 0, none⟩) (Nat.le_refl _) _).setCell (p := ⟨w.heap.size + 1, 0, none⟩) (by show w.heap.size ≤ w.heap.size + 1; omega) _).setCell (p := ⟨w.heap.size + 1 + 1, 0, none⟩) (by show w.heap.size ≤ w.heap.size + 1 + 1; omega) _)).drew
theorem own_slice {W : World} {base : Nat} {e : TypeId} {size : Nat} {v : Value} {n : Nat} {xs : List Value} (h : W.ownsRow base e size v n xs) : ∃ a m c, v = .slice a m c := by
  rcases h.2 with ⟨rfl, _⟩ | ⟨g, cap, cur, rfl, _⟩
  · exact ⟨_, _, _, rfl⟩
  · exact ⟨_, _, _, rfl⟩
set_option maxRecDepth 100000 in
set_option maxHeartbeats 4000000 in
theorem lex_may (s : ByteArray) (w : World) (hs : s.size ≤ 1000000) (hT : TE w) (hm : mayp isc (by_ s) = true) :
    CallsIn Fence.wide 9 Tryd.prog 11 #[.string s] w fun e W' => ∃ v, e = .returned (.tuple #[v, .int .i64 (lexL (by_ s)).2.1, .int .i64 (lexL (by_ s)).2.2]) ∧ W'.ownsRow w.heap.size 28 4 v (lexL (by_ s)).1.length ((lexL (by_ s)).1.flatMap tcs) ∧ Below w.heap.size w W' := by
  have hM := fun (W : World) => may_any s W (by omega)
  rw [hm] at hM
  refine callsIn_of_wp_marks Tryd.func11 rfl trivial ?_ rfl
  simp only [Tryd.ntmps11, List.size_toArray, List.length_cons, List.length_nil, Nat.reduceAdd, Nat.reduceSub, Array.replicate_succ, Array.replicate_zero, List.push_toArray, List.append_toArray, List.nil_append, List.cons_append]
  have b0 := ((Boxed.new w 23 (.slice none 0 0)).alloc (.cells #[.int .i64 0] 24)).alloc (.cells #[.int .i64 0] 3)
  have b1 := (Boxed.new (w.alloc (.cells #[.slice none 0 0] 23)) 24 (.int .i64 0)).alloc (.cells #[.int .i64 0] 3)
  have b2 := Boxed.new ((w.alloc (.cells #[.slice none 0 0] 23)).alloc (.cells #[.int .i64 0] 24)) 3 (.int .i64 0)
  have hB0 : Below w.heap.size w (((w.alloc (.cells #[.slice none 0 0] 23)).alloc (.cells #[.int .i64 0] 24)).alloc (.cells #[.int .i64 0] 3)) := (((Below.refl _ w).alloc (Nat.le_refl _) _).alloc (by simp) _).alloc (by simp; omega) _
  simp only [World.size_alloc] at b1 b2
  gi_wp2_with (first
    | (refine ⟨trivial, ?_⟩; gi_at_call 14; refine (callsIn_wide.2 (hM _)).mono ?_; rintro e w1 ⟨rfl, hb1⟩)
    | (refine ⟨trivial, ?_⟩; gi_at_call 24; refine (steps_in _ s _).mono ?_; rintro e w' ⟨rfl, rfl⟩))
  have hbw := hB0.trans (hb1.mono hB0.size)
  have c0 : Boxed w1 w.heap.size 23 (.slice none 0 0) := (hb1.block _ b0.lt).trans b0
  have c1 : Boxed w1 (w.heap.size + 1) 24 (.int .i64 0) := (hb1.block _ b1.lt).trans b1
  have c2 : Boxed w1 (w.heap.size + 1 + 1) 3 (.int .i64 0) := (hb1.block _ b2.lt).trans b2
  have hno : w.heap.size + 2 < w1.heap.size := by have := c2.lt; omega
  have d0 := (Boxed.new w1 23 (.slice none 0 0)).alloc (.cells #[.string s] 9)
  have d1 := Boxed.new (w1.alloc (.cells #[.slice none 0 0] 23)) 9 (.string s)
  rw [World.size_alloc] at d1
  have f0 := (c0.alloc (.cells #[.slice none 0 0] 23)).alloc (.cells #[.string s] 9)
  have f1 := (c1.alloc (.cells #[.slice none 0 0] 23)).alloc (.cells #[.string s] 9)
  have f2 := (c2.alloc (.cells #[.slice none 0 0] 23)).alloc (.cells #[.string s] 9)
  have hb2 : Below w.heap.size w ((w1.alloc (.cells #[.slice none 0 0] 23)).alloc (.cells #[.string s] 9)) := (hbw.alloc (by omega) _).alloc (by simp; omega) _
  have hz0 : ((w1.alloc (.cells #[.slice none 0 0] 23)).alloc (.cells #[.string s] 9)).heap.size = w1.heap.size + 2 := by simp
  obtain ⟨no, hnoe⟩ : ∃ no, w1.heap.size = no := ⟨_, rfl⟩
  obtain ⟨W0, hW0⟩ : ∃ W0, (w1.alloc (.cells #[.slice none 0 0] 23)).alloc (.cells #[.string s] 9) = W0 := ⟨_, rfl⟩
  rw [hW0] at d0 d1 f0 f1 f2 hb2 hz0 ⊢
  rw [hnoe] at d0 d1 hz0 hno ⊢
  clear b0 b1 b2 hB0 hb1 hM c0 c1 c2 hbw
  obtain ⟨i0, hi, hz, hzs, hzb⟩ := info_parts info_tok
  have hu := Tryd.underlying23
  have hlen := stepsL_length (by_ s)
  rw [by_length] at hlen
  refine range_new (α := LOne × Nat) rfl (by omega) (gf := 48) (lb := #[.pointer (some ⟨no + 1, 0, none⟩)]) rfl trivial (enters_of Tryd.func48 (by kernel_rfl) rfl)
    (steps_stops 8 (no + 1) s (by omega) hs w W0 hT hb2 d1) (fun h k => h.trans k) (fun W l o o' hl h h3 h4 => kp_put _ _ W l o o' (by omega) (by omega) h)
    (fun W o h => KP.of ((Below.refl _ W).alloc (Nat.le_refl _) o) (by omega) (by omega)) (fun _ => rfl)
    (LxI w no s) (LxX w) (lxI_own w no s _ (by omega)) (fun c => lxX_own w c _ (by omega))
    ⟨(fun y hy => by cases hy), ⟨_, d0, World.ownsRow_nil _ _ _ _⟩, f0, f1, f2, d1, hb2⟩ (fun x => .cells (stC x) 49)
    (fun nb x => { tmps := #[.string s, undef, .pointer (some ⟨w.heap.size, 0, none⟩), .pointer (some ⟨w.heap.size + 1, 0, none⟩), .pointer (some ⟨w.heap.size + 1 + 1, 0, none⟩), .pointer (some ⟨no, 0, none⟩), .pointer (some ⟨nb, 0, none⟩), .string s, .bool true, .bool false, undef, undef, .string s, .func (.func 48) #[] #[.pointer (some ⟨no + 1, 0, none⟩)], stV x, undef, undef, undef, undef, undef, undef, undef, undef, undef, undef, undef, undef, undef, undef, undef], defers := [] }) ?assign ?body ?done ?stop
  case assign =>
    intro l x W K hK
    by_cases he : x.1.e = 0
    · have e1 : stV x = .agg #[.int .i64 x.1.k, .string (ba x.1.t), .int .i64 (x.2 : Int), .int .i64 ((x.2 : Int) + x.1.n), .int .i64 0, .int .i64 ((x.2 : Int) + x.1.n)] := if_pos he
      have e2 : stC x = #[.int .i64 x.1.k, .string (ba x.1.t), .int .i64 (x.2 : Int), .int .i64 ((x.2 : Int) + x.1.n), .int .i64 0, .int .i64 ((x.2 : Int) + x.1.n)] := if_pos he
      rw [e1, e2] at hK
      rw [e1]
      clear e1 e2
      gi_wp2
      exact hK
    · have e1 : stV x = .agg #[.int .i64 0, .string ⟨#[]⟩, .int .i64 0, .int .i64 0, .int .i64 x.1.e, .int .i64 ((x.2 : Int) + x.1.n)] := if_neg he
      have e2 : stC x = #[.int .i64 0, .string ⟨#[]⟩, .int .i64 0, .int .i64 0, .int .i64 x.1.e, .int .i64 ((x.2 : Int) + x.1.n)] := if_neg he
      rw [e1, e2] at hK
      rw [e1]
      clear e1 e2
      gi_wp2
      exact hK
  case body =>
    rintro l pre x W nb hI hN hnb hx
    by_cases he : x.1.e = 0
    · rw [show stC x = #[.int .i64 x.1.k, .string (ba x.1.t), .int .i64 (x.2 : Int), .int .i64 ((x.2 : Int) + x.1.n), .int .i64 0, .int .i64 ((x.2 : Int) + x.1.n)] from if_pos he] at hx
      obtain ⟨k0, k1, k2, k3, k4, k5⟩ := cell_of_six hx
      obtain ⟨v, hv, hrow⟩ := hI.row
      have hcv := hv.cell
      have hfv := hv.frozen
      have hl1 : pre.length + 1 ≤ maxLen := by unfold maxLen; omega
      have hl2 : (pre.length + 1) * 40 ≤ 140737488355328 := by omega
      have hbs := hI.below.size
      have HII := Lib.hid hI
      clear hI
      gi_wp2_with (gi_at_builtin; refine wpListIn_append_own _ rfl _ _ 23 rfl w.heap.size 28 i0 _ 4 40 hu hi hz hzs hzb rfl (by decide) _ _ _ rfl (hrow.alloc _) ⟨W.heap.size, 0, none⟩ 1 1 (tcs x) rfl rfl (cells_new _ _ _) (by simp [tcs, Value.oneCell']) hl1 hl2 (by simp; omega) ?_; intro v' w3 hown' hgrow _; obtain ⟨g', cap', rfl⟩ := ownsRow_succ hown'; obtain ⟨hb3, hY⟩ := lx_next (D := W0.heap.size) HII.out he hno hv hrow hown' hgrow; have hcv3 := hb3.cell; have hfv3 := hb3.frozen)
      exact hY
    · rw [show stC x = #[.int .i64 0, .string ⟨#[]⟩, .int .i64 0, .int .i64 0, .int .i64 x.1.e, .int .i64 ((x.2 : Int) + x.1.n)] from if_neg he] at hx
      obtain ⟨k0, k1, k2, k3, k4, k5⟩ := cell_of_six hx
      have u1 : (x.1.e == 0) = false := beq_eq_false_iff_ne.2 he
      have u2 : (x.1.e != 0) = true := bne_iff_ne.2 he
      have g0 := hI.r0.cell
      have g1 := hI.r1.cell
      have g2 := hI.r2.cell
      have z0 := hI.r0.frozen
      have z1 := hI.r1.frozen
      have z2 := hI.r2.frozen
      have HII := Lib.hid hI
      clear hI
      gi_wp2
      gi_region
      all_goals gi_wp2
      all_goals exact lx_leave HII.out he _
  case done =>
    rintro D xs W hD rfl hI hK
    obtain ⟨v, hv, hrow⟩ := hI.row
    obtain ⟨a, m, c, rfl⟩ := own_slice hrow
    have hcv := hv.cell
    have hfv := hv.frozen
    have g0 := hI.r0.cell
    have g1 := hI.r1.cell
    have g2 := hI.r2.cell
    have z0 := hI.r0.frozen
    have z1 := hI.r1.frozen
    have z2 := hI.r2.frozen
    have hR := lexL_good hI.good
    have HII := Lib.hid hI
    have HR := Lib.hid hR
    clear hI hR
    gi_wp2
    have p0 := set_far (v := .int .i64 (s.size : Int)) (c := w.heap.size + 1 + 1) (set_far (v := .int .i64 0) (c := w.heap.size + 1) (HII.out.r0.set (.slice a m c)) (by omega)) (by omega)
    have p1 := set_far (v := .int .i64 (s.size : Int)) (c := w.heap.size + 1 + 1) ((set_far (v := .slice a m c) (c := w.heap.size) HII.out.r1 (by omega)).set (.int .i64 0)) (by omega)
    have p2 := (set_far (v := .int .i64 0) (c := w.heap.size + 1) (set_far (v := .slice a m c) (c := w.heap.size) HII.out.r2 (by omega)) (by omega)).set (.int .i64 (s.size : Int))
    have kk : KeepsOthers W (((W.setCell ⟨w.heap.size, 0, none⟩ (.slice a m c)).setCell ⟨w.heap.size + 1, 0, none⟩ (.int .i64 0)).setCell ⟨w.heap.size + 1 + 1, 0, none⟩ (.int .i64 (s.size : Int))) :=
      ((KeepsOthers.setCell _ _ _).trans (KeepsOthers.setCell _ _ _)).trans (KeepsOthers.setCell _ _ _)
    have hB2 : Below w.heap.size w (((W.setCell ⟨w.heap.size, 0, none⟩ (.slice a m c)).setCell ⟨w.heap.size + 1, 0, none⟩ (.int .i64 0)).setCell ⟨w.heap.size + 1 + 1, 0, none⟩ (.int .i64 (s.size : Int))) :=
      (((HII.out.below.setCell (p := ⟨w.heap.size, 0, none⟩) (Nat.le_refl _) _).setCell (p := ⟨w.heap.size + 1, 0, none⟩) (by show w.heap.size ≤ w.heap.size + 1; omega) _).setCell (p := ⟨w.heap.size + 1 + 1, 0, none⟩) (by show w.heap.size ≤ w.heap.size + 1 + 1; omega) _)
    have hro : (((W.setCell ⟨w.heap.size, 0, none⟩ (.slice a m c)).setCell ⟨w.heap.size + 1, 0, none⟩ (.int .i64 0)).setCell ⟨w.heap.size + 1 + 1, 0, none⟩ (.int .i64 (s.size : Int))).ownsRow w.heap.size 28 4 (.slice a m c) (stepsL (by_ s)).length ((stepsL (by_ s)).flatMap tcs) :=
      ((hrow.kept (grownBy_setCell' W _ _) (.inr (HII.out.r0.not_row (by decide) hrow).symm)).kept (grownBy_setCell' _ _ _) (.inr (HII.out.r1.not_row (by decide) hrow).symm)).kept (grownBy_setCell' _ _ _) (.inr (HII.out.r2.not_row (by decide) hrow).symm)
    have hK' := kk.same D _ hK rfl
    obtain ⟨A, hA⟩ : ∃ A, ((W.setCell ⟨w.heap.size, 0, none⟩ (.slice a m c)).setCell ⟨w.heap.size + 1, 0, none⟩ (.int .i64 0)).setCell ⟨w.heap.size + 1 + 1, 0, none⟩ (.int .i64 (s.size : Int)) = A := ⟨_, rfl⟩
    rw [hA] at p0 p1 p2 hB2 hro hK' ⊢
    refine ⟨by simp, .inl ⟨_, _, rfl, run_takeDeferred hK', ?_⟩⟩
    have hg := grownBy_putObj' A D (.deferred none)
    have far : ∀ {b : Nat} {t : TypeId} {u : Value}, Boxed A b t u → b < W0.heap.size → Boxed (A.putObj D (.deferred none)) b t u := fun {b t u} hb hl => hb.kept hg (by intro e; cases e; omega)
    have e0 := (far p0 (by omega)).cell
    have e1 := (far p1 (by omega)).cell
    have e2 := (far p2 (by omega)).cell
    refine ⟨.tuple #[.slice a m c, .int .i64 0, .int .i64 (s.size : Int)], ?_, .slice a m c, ?_, ?_, hB2.trans (belowK_b (w := w) (Nat.le_refl _) A D _ _ (by omega) hK' rfl rfl)⟩
    · simp [results, Tryd.f11, go_sem, e0, e1, e2]
    · rw [HR.out, by_length]
    · rw [HR.out]
      exact ownsRow_putObj hro _ hK' rfl
  case stop =>
    rintro D c pre W hD hpre ⟨rfl, ⟨ys, x, rfl, hy, hx, q0, q1, q2⟩, hB⟩ hK
    have hR := lexL_bad hpre hy hx
    gi_wp2
    refine ⟨by simp, .inl ⟨_, _, rfl, run_takeDeferred hK, ?_⟩⟩
    have hg := grownBy_putObj' W D (.deferred none)
    have far : ∀ {b : Nat} {t : TypeId} {u : Value}, Boxed W b t u → b < W0.heap.size → Boxed (W.putObj D (.deferred none)) b t u := fun {b t u} hb hl => hb.kept hg (by intro e; cases e; omega)
    have e0 := (far q0 (by omega)).cell
    have e1 := (far q1 (by omega)).cell
    have e2 := (far q2 (by omega)).cell
    refine ⟨.tuple #[.slice none 0 0, .int .i64 x.1.e, .int .i64 ((x.2 : Int) + x.1.n)], ?_, .slice none 0 0, ?_, ?_, hB.trans (belowK_b (w := w) (Nat.le_refl _) W D _ _ (by omega) hK rfl rfl)⟩
    · simp [results, Tryd.f11, go_sem, e0, e1, e2]
    · rw [hR]
    · rw [hR]
      exact World.ownsRow_nil _ _ _ _
set_option maxRecDepth 100000 in
set_option maxHeartbeats 4000000 in
theorem lex_nomay (s : ByteArray) (w : World) (hs : s.size ≤ 1000000) (hm : mayp isc (by_ s) = false) :
    CallsIn Fence.wide 9 Tryd.prog 11 #[.string s] w fun e W' => e = .returned (.tuple #[.slice none 0 0, .int .i64 2, .int .i64 (bd (by_ s))]) ∧ Below w.heap.size w W' := by
  have hM := fun (W : World) => may_any s W (by omega)
  rw [hm] at hM
  have hD := fun (W : World) => bad_any s W (by omega)
  obtain ⟨d, hd⟩ : ∃ d, bd (by_ s) = d := ⟨_, rfl⟩
  rw [hd] at hD ⊢
  refine callsIn_of_wp_marks Tryd.func11 rfl trivial ?_ rfl
  simp only [Tryd.ntmps11, List.size_toArray, List.length_cons, List.length_nil, Nat.reduceAdd, Nat.reduceSub, Array.replicate_succ, Array.replicate_zero, List.push_toArray, List.append_toArray, List.nil_append, List.cons_append]
  have b0 := ((Boxed.new w 23 (.slice none 0 0)).alloc (.cells #[.int .i64 0] 24)).alloc (.cells #[.int .i64 0] 3)
  have b1 := (Boxed.new (w.alloc (.cells #[.slice none 0 0] 23)) 24 (.int .i64 0)).alloc (.cells #[.int .i64 0] 3)
  have b2 := Boxed.new ((w.alloc (.cells #[.slice none 0 0] 23)).alloc (.cells #[.int .i64 0] 24)) 3 (.int .i64 0)
  have hB0 : Below w.heap.size w (((w.alloc (.cells #[.slice none 0 0] 23)).alloc (.cells #[.int .i64 0] 24)).alloc (.cells #[.int .i64 0] 3)) := (((Below.refl _ w).alloc (Nat.le_refl _) _).alloc (by simp) _).alloc (by simp; omega) _
  simp only [World.size_alloc] at b1 b2
  gi_wp2_with (first
    | (refine ⟨trivial, ?_⟩; gi_at_call 14; refine (callsIn_wide.2 (hM _)).mono ?_; rintro e w1 ⟨rfl, hb1⟩)
    | (refine ⟨trivial, ?_⟩; gi_at_call 23; refine (callsIn_wide.2 (hD _)).mono ?_; rintro e w2 ⟨rfl, hb2⟩; have c0 : Boxed w2 w.heap.size 23 (.slice none 0 0) := ((hb2.block _ (by have := hb1.size; have := b0.lt; omega)).trans (hb1.block _ b0.lt)).trans b0; have c1 : Boxed w2 (w.heap.size + 1) 24 (.int .i64 0) := ((hb2.block _ (by have := hb1.size; have := b1.lt; omega)).trans (hb1.block _ b1.lt)).trans b1; have c2 : Boxed w2 (w.heap.size + 1 + 1) 3 (.int .i64 0) := ((hb2.block _ (by have := hb1.size; have := b2.lt; omega)).trans (hb1.block _ b2.lt)).trans b2; have hbw := (hB0.trans (hb1.mono hB0.size)).trans (hb2.mono (hB0.trans (hb1.mono hB0.size)).size); have g0 := c0.cell; have g1 := c1.cell; have g2 := c2.cell; have z0 := c0.frozen; have z1 := c1.frozen; have z2 := c2.frozen))
  have p0 := (set_far (v := .int .i64 d) (c := w.heap.size + 1 + 1) (set_far (v := .int .i64 2) (c := w.heap.size + 1) (c0.set (.slice none 0 0)) (by omega)) (by omega)).cell
  have p1 := (set_far (v := .int .i64 d) (c := w.heap.size + 1 + 1) ((set_far (v := .slice none 0 0) (c := w.heap.size) c1 (by omega)).set (.int .i64 2)) (by omega)).cell
  have p2 := ((set_far (v := .int .i64 2) (c := w.heap.size + 1) (set_far (v := .slice none 0 0) (c := w.heap.size) c2 (by omega)) (by omega)).set (.int .i64 d)).cell
  have hB2 : Below w.heap.size w (((w2.setCell ⟨w.heap.size, 0, none⟩ (.slice none 0 0)).setCell ⟨w.heap.size + 1, 0, none⟩ (.int .i64 2)).setCell ⟨w.heap.size + 1 + 1, 0, none⟩ (.int .i64 d)) :=
    (((hbw.setCell (p := ⟨w.heap.size, 0, none⟩) (Nat.le_refl _) _).setCell (p := ⟨w.heap.size + 1, 0, none⟩) (by show w.heap.size ≤ w.heap.size + 1; omega) _).setCell (p := ⟨w.heap.size + 1 + 1, 0, none⟩) (by show w.heap.size ≤ w.heap.size + 1 + 1; omega) _)
  refine ⟨.tuple #[.slice none 0 0, .int .i64 2, .int .i64 d], ?_, rfl, hB2⟩
  simp [results, Tryd.f11, go_sem, p0, p1, p2]
def lexR (l : List Int) : List (LOne × Nat) × Int × Int := if mayp isc l = true then lexL l else ([], 2, bd l)
theorem lex_any (s : ByteArray) (w : World) (hs : s.size ≤ 1000000) (hT : TE w) :
    Calls Tryd.prog 11 #[.string s] w fun e W' => ∃ v, e = .returned (.tuple #[v, .int .i64 (lexR (by_ s)).2.1, .int .i64 (lexR (by_ s)).2.2]) ∧ W'.ownsRow w.heap.size 28 4 v (lexR (by_ s)).1.length ((lexR (by_ s)).1.flatMap tcs) ∧ Below w.heap.size w W' := by
  unfold lexR
  cases hm : mayp isc (by_ s) with
  | true => rw [if_pos rfl]; exact callsIn_wide.1 (lex_may s w hs hT hm)
  | false =>
    rw [if_neg (by decide)]
    exact (callsIn_wide.1 (lex_nomay s w hs hm)).mono fun e W' ⟨h1, h2⟩ => ⟨_, h1, World.ownsRow_nil _ _ _ _, h2⟩
end Go.Proofs.YtjgpmfjkcioinaaDoor.G
