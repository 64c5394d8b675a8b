/-
  'lex.One': its closures and its walk, one theorem for each case. (Printed by gen_lx1.py.)
-/
import Derived.Test.YtjgpmfjkcioinaaDoorPTG8
import Derived.Test.YtjgpmfjkcioinaaDoorPTF9
import Derived.Test.YtjgpmfjkcioinaaDoorPTE8
import Derived.RegionTactic
import Derived.Handy
namespace Go.Proofs.YtjgpmfjkcioinaaDoor.G
open Go.RowKit Go.Proofs.YtjgpmfjkcioinaaDoorW.PrintWords Go.Proofs.YtjgpmfjkcioinaaDoor.M
set_option linter.unusedVariables false
set_option linter.unusedSimpArgs false
attribute [local irreducible] Utf8.encode Utf8.decode
def tkV (k : Int) (t : ByteArray) (a e : Int) : Value := .agg #[.int .i64 k, .string t, .int .i64 a, .int .i64 e]
set_option maxHeartbeats 800000 in
theorem value_tok (v : ByteArray) (i e : Int) (bi : Nat) (w : World) (hb : bi < w.heap.size) (hi : w.cell? ⟨bi, 0, none⟩ = some (.int .i64 i)) :
    Calls Tryd.prog 29 #[.string v, .int .i64 e, .pointer (some ⟨bi, 0, none⟩)] w fun r w' => r = .returned (.tuple #[tkV 5 v i e, .int .i64 0, .int .i64 e]) ∧ Below w.heap.size w w' := by
  have hi2 : ∀ o, (w.alloc o).cell? ⟨bi, 0, none⟩ = some (.int .i64 i) := fun o => ((Below.refl w.heap.size w).alloc (Nat.le_refl _) o).cell (p := ⟨bi, 0, none⟩) hb |>.trans hi
  go_enter Tryd.func29, Tryd.ntmps29
  go_wp2
  go_returns
  exact ⟨rfl, (Below.refl w.heap.size w).alloc (Nat.le_refl _) _⟩
set_option maxHeartbeats 1600000 in
theorem tok_tok (s : ByteArray) (k : Int) (i e : Nat) (bs bi : Nat) (w : World) (hbs : bs < w.heap.size) (hbi : bi < w.heap.size) (hs : w.cell? ⟨bs, 0, none⟩ = some (.string s)) (hi : w.cell? ⟨bi, 0, none⟩ = some (.int .i64 (i : Int))) (h1 : i ≤ e) (h2 : e ≤ s.size) (h3 : s.size ≤ 1000000) :
    Calls Tryd.prog 28 #[.int .i64 k, .int .i64 (e : Int), .pointer (some ⟨bs, 0, none⟩), .pointer (some ⟨bi, 0, none⟩)] w fun r w' => r = .returned (.tuple #[tkV k (s.extract i e) i e, .int .i64 0, .int .i64 (e : Int)]) ∧ Below w.heap.size w w' := by
  have hi2 : ∀ o, (w.alloc o).cell? ⟨bi, 0, none⟩ = some (.int .i64 (i : Int)) := fun o => ((Below.refl w.heap.size w).alloc (Nat.le_refl _) o).cell (p := ⟨bi, 0, none⟩) hbi |>.trans hi
  have hs2 : ∀ o, (w.alloc o).cell? ⟨bs, 0, none⟩ = some (.string s) := fun o => ((Below.refl w.heap.size w).alloc (Nat.le_refl _) o).cell (p := ⟨bs, 0, none⟩) hbs |>.trans hs
  go_enter Tryd.func28, Tryd.ntmps28
  go_wp2
  go_region
  all_goals go_wp2
  all_goals go_returns
  all_goals exact ⟨rfl, ((Below.refl w.heap.size w).alloc (Nat.le_refl _) _).drew⟩
structure OSt (w W : World) (s : ByteArray) (i : Int) : Prop where
  below : Below w.heap.size w W
  big : w.heap.size + 2 < W.heap.size
  hs : W.heap[w.heap.size]? = some (.cells #[.string s] 9 (0, 0))
  hi : W.heap[w.heap.size + 1]? = some (.cells #[.int .i64 i] 3 (0, 0))
  ho : W.heap[w.heap.size + 1 + 1]? = some (.cells #[.int .i64 0, .string ⟨#[]⟩, .int .i64 0, .int .i64 0] 28 (0, 0))
theorem OSt.call {w W W' : World} {s : ByteArray} {i : Int} (H : OSt w W s i) (hb : Below W.heap.size W W') : OSt w W' s i :=
  ⟨H.below.trans (hb.mono H.below.size), by have := H.big; have := hb.size; omega, (hb.block _ (lt_of_block H.hs)).trans H.hs, (hb.block _ (lt_of_block H.hi)).trans H.hi, (hb.block _ (lt_of_block H.ho)).trans H.ho⟩
abbrev W3o (w : World) (s : ByteArray) (i : Int) : World := ((w.alloc (.cells #[.string s] 9)).alloc (.cells #[.int .i64 i] 3)).alloc (.cells #[.int .i64 0, .string ⟨#[]⟩, .int .i64 0, .int .i64 0] 28)
theorem ost_new (w : World) (s : ByteArray) (i : Int) : OSt w (W3o w s i) s i := by
  have h1 := World.alloc_heap_new w (.cells #[.string s] 9)
  have h2 := World.alloc_heap_new (w.alloc (.cells #[.string s] 9)) (.cells #[.int .i64 i] 3)
  have h3 := World.alloc_heap_new ((w.alloc (.cells #[.string s] 9)).alloc (.cells #[.int .i64 i] 3)) (.cells #[.int .i64 0, .string ⟨#[]⟩, .int .i64 0, .int .i64 0] 28)
  simp only [World.size_alloc] at h2 h3
  refine ⟨(((Below.refl _ w).alloc (Nat.le_refl _) _).alloc (by simp) _).alloc (by simp; omega) _, by simp, ?_, ?_, h3⟩
  · rw [Below.heap_alloc _ _ _ (by simp; omega), Below.heap_alloc _ _ _ (by simp)]; exact h1
  · rw [Below.heap_alloc _ _ _ (by simp)]; exact h2
theorem cell_of_four {W : World} {b : Nat} {c0 c1 c2 c3 : Value} {t : TypeId} (h : W.heap[b]? = some (.cells #[c0, c1, c2, c3] t (0, 0))) :
    W.cell? ⟨b, 0, none⟩ = some c0 ∧ W.cell? ⟨b, 1, none⟩ = some c1 ∧ W.cell? ⟨b, 2, none⟩ = some c2 ∧ W.cell? ⟨b, 3, none⟩ = some c3 ∧ W.frozen? ⟨b, 0, none⟩ = false ∧ W.frozen? ⟨b, 1, none⟩ = false ∧ W.frozen? ⟨b, 2, none⟩ = false ∧ W.frozen? ⟨b, 3, none⟩ = false := by
  refine ⟨?_, ?_, ?_, ?_, ?_, ?_, ?_, ?_⟩ <;> simp [World.cell?, World.frozen?, h]
theorem set4_0 {w : World} {b : Nat} {c0 c1 c2 c3 v : Value} {t : TypeId} (h : w.heap[b]? = some (.cells #[c0, c1, c2, c3] t (0, 0))) : (w.setCell ⟨b, 0, none⟩ v).heap[b]? = some (.cells #[v, c1, c2, c3] t (0, 0)) := by
  have hlt := lt_of_block h
  have h' : w.heap[b] = .cells #[c0, c1, c2, c3] t (0, 0) := by simpa [Array.getElem?_eq_getElem hlt] using h
  show (w.heap.modify b _)[b]? = _
  rw [Array.getElem?_eq_getElem (by simpa using hlt), Array.getElem_modify_self, h']
  rfl
theorem set4_1 {w : World} {b : Nat} {c0 c1 c2 c3 v : Value} {t : TypeId} (h : w.heap[b]? = some (.cells #[c0, c1, c2, c3] t (0, 0))) : (w.setCell ⟨b, 1, none⟩ v).heap[b]? = some (.cells #[c0, v, c2, c3] t (0, 0)) := by
  have hlt := lt_of_block h
  have h' : w.heap[b] = .cells #[c0, c1, c2, c3] t (0, 0) := by simpa [Array.getElem?_eq_getElem hlt] using h
  show (w.heap.modify b _)[b]? = _
  rw [Array.getElem?_eq_getElem (by simpa using hlt), Array.getElem_modify_self, h']
  rfl
theorem set4_2 {w : World} {b : Nat} {c0 c1 c2 c3 v : Value} {t : TypeId} (h : w.heap[b]? = some (.cells #[c0, c1, c2, c3] t (0, 0))) : (w.setCell ⟨b, 2, none⟩ v).heap[b]? = some (.cells #[c0, c1, v, c3] t (0, 0)) := by
  have hlt := lt_of_block h
  have h' : w.heap[b] = .cells #[c0, c1, c2, c3] t (0, 0) := by simpa [Array.getElem?_eq_getElem hlt] using h
  show (w.heap.modify b _)[b]? = _
  rw [Array.getElem?_eq_getElem (by simpa using hlt), Array.getElem_modify_self, h']
  rfl
theorem set4_3 {w : World} {b : Nat} {c0 c1 c2 c3 v : Value} {t : TypeId} (h : w.heap[b]? = some (.cells #[c0, c1, c2, c3] t (0, 0))) : (w.setCell ⟨b, 3, none⟩ v).heap[b]? = some (.cells #[c0, c1, c2, v] t (0, 0)) := by
  have hlt := lt_of_block h
  have h' : w.heap[b] = .cells #[c0, c1, c2, c3] t (0, 0) := by simpa [Array.getElem?_eq_getElem hlt] using h
  show (w.heap.modify b _)[b]? = _
  rw [Array.getElem?_eq_getElem (by simpa using hlt), Array.getElem_modify_self, h']
  rfl
theorem four_set {W : World} {b : Nat} {c0 c1 c2 c3 : Value} {t : TypeId} (h : W.heap[b]? = some (.cells #[c0, c1, c2, c3] t (0, 0))) :
    (∀ v0, (W.setCell ⟨b, 0, none⟩ v0).cell? ⟨b, 1, none⟩ = some c1) ∧ (∀ v0, (W.setCell ⟨b, 0, none⟩ v0).frozen? ⟨b, 1, none⟩ = false) ∧
    (∀ v0 v1, ((W.setCell ⟨b, 0, none⟩ v0).setCell ⟨b, 1, none⟩ v1).cell? ⟨b, 2, none⟩ = some c2) ∧ (∀ v0 v1, ((W.setCell ⟨b, 0, none⟩ v0).setCell ⟨b, 1, none⟩ v1).frozen? ⟨b, 2, none⟩ = false) ∧
    (∀ v0 v1 v2, (((W.setCell ⟨b, 0, none⟩ v0).setCell ⟨b, 1, none⟩ v1).setCell ⟨b, 2, none⟩ v2).cell? ⟨b, 3, none⟩ = some c3) ∧ (∀ v0 v1 v2, (((W.setCell ⟨b, 0, none⟩ v0).setCell ⟨b, 1, none⟩ v1).setCell ⟨b, 2, none⟩ v2).frozen? ⟨b, 3, none⟩ = false) ∧
    (∀ v0 v1 v2 v3, ((((W.setCell ⟨b, 0, none⟩ v0).setCell ⟨b, 1, none⟩ v1).setCell ⟨b, 2, none⟩ v2).setCell ⟨b, 3, none⟩ v3).cell? ⟨b, 0, none⟩ = some v0) ∧
    (∀ v0 v1 v2 v3, ((((W.setCell ⟨b, 0, none⟩ v0).setCell ⟨b, 1, none⟩ v1).setCell ⟨b, 2, none⟩ v2).setCell ⟨b, 3, none⟩ v3).cell? ⟨b, 1, none⟩ = some v1) ∧
    (∀ v0 v1 v2 v3, ((((W.setCell ⟨b, 0, none⟩ v0).setCell ⟨b, 1, none⟩ v1).setCell ⟨b, 2, none⟩ v2).setCell ⟨b, 3, none⟩ v3).cell? ⟨b, 2, none⟩ = some v2) ∧
    (∀ v0 v1 v2 v3, ((((W.setCell ⟨b, 0, none⟩ v0).setCell ⟨b, 1, none⟩ v1).setCell ⟨b, 2, none⟩ v2).setCell ⟨b, 3, none⟩ v3).cell? ⟨b, 3, none⟩ = some v3) := by
  have e0 := fun v0 => cell_of_four (set4_0 (v := v0) h)
  have e1 := fun v0 v1 => cell_of_four (set4_1 (v := v1) (set4_0 (v := v0) h))
  have e2 := fun v0 v1 v2 => cell_of_four (set4_2 (v := v2) (set4_1 (v := v1) (set4_0 (v := v0) h)))
  have e3 := fun v0 v1 v2 v3 => cell_of_four (set4_3 (v := v3) (set4_2 (v := v2) (set4_1 (v := v1) (set4_0 (v := v0) h))))
  exact ⟨fun v0 => (e0 v0).2.1, fun v0 => (e0 v0).2.2.2.2.2.1, fun v0 v1 => (e1 v0 v1).2.2.1, fun v0 v1 => (e1 v0 v1).2.2.2.2.2.2.1, fun v0 v1 v2 => (e2 v0 v1 v2).2.2.2.1, fun v0 v1 v2 => (e2 v0 v1 v2).2.2.2.2.2.2.2,
    fun v0 v1 v2 v3 => (e3 v0 v1 v2 v3).1, fun v0 v1 v2 v3 => (e3 v0 v1 v2 v3).2.1, fun v0 v1 v2 v3 => (e3 v0 v1 v2 v3).2.2.1, fun v0 v1 v2 v3 => (e3 v0 v1 v2 v3).2.2.2.1⟩
theorem bel_of {w W : World} {s : ByteArray} {i : Int} (H : OSt w W s i) (v0 v1 v2 v3 : Value) : Below w.heap.size w ((((W.setCell ⟨w.heap.size + 1 + 1, 0, none⟩ v0).setCell ⟨w.heap.size + 1 + 1, 1, none⟩ v1).setCell ⟨w.heap.size + 1 + 1, 2, none⟩ v2).setCell ⟨w.heap.size + 1 + 1, 3, none⟩ v3) :=
  (((H.below.setCell (p := ⟨w.heap.size + 1 + 1, 0, none⟩) (by show w.heap.size ≤ w.heap.size + 1 + 1; omega) _).setCell (p := ⟨w.heap.size + 1 + 1, 1, none⟩) (by show w.heap.size ≤ w.heap.size + 1 + 1; omega) _).setCell (p := ⟨w.heap.size + 1 + 1, 2, none⟩) (by show w.heap.size ≤ w.heap.size + 1 + 1; omega) _).setCell (p := ⟨w.heap.size + 1 + 1, 3, none⟩) (by show w.heap.size ≤ w.heap.size + 1 + 1; omega) _
set_option maxHeartbeats 3200000 in
theorem one_neg (s : ByteArray) (i : Int) (w : World) (hsz : s.size ≤ 1000000) (h : i < 0) :
    Calls Tryd.prog 13 #[.string s, .int .i64 i] w fun r w' => r = .returned (.tuple #[tkV 0 ⟨#[]⟩ 0 0, .int .i64 2, .int .i64 i]) ∧ Below w.heap.size w w' := by
  go_enter Tryd.func13, Tryd.ntmps13
  go_wp2
  go_region
  all_goals go_wp2
  all_goals go_returns
  all_goals exact ⟨rfl, by repeat (first | assumption | exact Below.refl _ _ | apply below_alloc | apply below_drawn | apply below_drew)⟩
set_option maxHeartbeats 3200000 in
theorem one_end (s : ByteArray) (i : Int) (w : World) (hsz : s.size ≤ 1000000) (h0 : ¬ i < 0) (h : (s.size : Int) ≤ i) :
    Calls Tryd.prog 13 #[.string s, .int .i64 i] w fun r w' => r = .returned (.tuple #[tkV 0 ⟨#[]⟩ 0 0, .int .i64 2, .int .i64 i]) ∧ Below w.heap.size w w' := by
  go_enter Tryd.func13, Tryd.ntmps13
  go_wp2
  go_region
  all_goals go_wp2
  all_goals go_returns
  all_goals exact ⟨rfl, by repeat (first | assumption | exact Below.refl _ _ | apply below_alloc | apply below_drawn | apply below_drew)⟩
set_option maxHeartbeats 3200000 in
theorem one_dots (s : ByteArray) (i : Nat) (w : World) (hsz : s.size ≤ 1000000) (hlt : i < s.size) (hat : ∀ h : i < s.size, (((s[i]'h).toNat : Nat) : Int) = 46) (hP : ∀ W : World, Calls Tryd.prog 26 #[.string (s.extract i s.size), .string ⟨#[46, 46, 46]⟩] W fun r w' => r = .returned (.bool true) ∧ w' = W) (h3 : i + 3 ≤ s.size) (HT : Hid (∀ W : World, OSt w W s i → Calls Tryd.prog 28 #[.int .i64 1, .int .i64 ((i : Int) + 3), .pointer (some ⟨w.heap.size, 0, none⟩), .pointer (some ⟨w.heap.size + 1, 0, none⟩)] W fun r w' => r = .returned (.tuple #[.agg #[.int .i64 1, .string (s.extract i (i + 3)), .int .i64 (i : Int), .int .i64 ((i : Int) + 3)], .int .i64 0, .int .i64 ((i : Int) + 3)]) ∧ Below W.heap.size W w')) :
    Calls Tryd.prog 13 #[.string s, .int .i64 (i : Int)] w fun r w' => r = .returned (.tuple #[tkV 1 (s.extract i (i + 3)) (i : Int) ((i : Int) + 3), .int .i64 0, .int .i64 ((i : Int) + 3)]) ∧ Below w.heap.size w w' := by
  have hmf : ∀ (fn : Fn) (first cap : Array Value) (w : World), (Instr.makeFunc fn first cap).run Tryd.prog w = .ok (.func fn first cap) w := fun _ _ _ _ => rfl
  have H0 := ost_new w s (i : Int)
  go_enter Tryd.func13, Tryd.ntmps13
  go_wp2_with (first
    | (go_at_call 26; (with_reducible refine (hP _).mono ?_); rintro r w' ⟨rfl, hw'⟩; rw [hw']; clear hw' w')
    | (go_at_call 28; (with_reducible refine (HT.out _ ?c1).mono ?_); (case c1 => assumption); rintro r w2 ⟨rfl, hb2⟩; have H2 := OSt.call (by assumption) hb2; obtain ⟨x0, x1, x2, x3, z0, z1, z2, z3⟩ := cell_of_four H2.ho; obtain ⟨s1, s2, s3, s4, s5, s6, s7, s8, s9, s10⟩ := four_set H2.ho; have y0 := cell_of_one H2.hs; have y1 := cell_of_one H2.hi))
  refine bodyPost_ret (v := .tuple #[tkV 1 (s.extract i (i + 3)) (i : Int) ((i : Int) + 3), .int .i64 0, .int .i64 ((i : Int) + 3)]) (by simp [results, Tryd.results13, go_sem, s7, s8, s9, s10, tkV]) rfl ⟨rfl, bel_of H2 _ _ _ _⟩
set_option maxHeartbeats 3200000 in
theorem one_dot (s : ByteArray) (i : Nat) (w : World) (hsz : s.size ≤ 1000000) (hlt : i < s.size) (hat : ∀ h : i < s.size, (((s[i]'h).toNat : Nat) : Int) = 46) (hP : ∀ W : World, Calls Tryd.prog 26 #[.string (s.extract i s.size), .string ⟨#[46, 46, 46]⟩] W fun r w' => r = .returned (.bool false) ∧ w' = W) :
    Calls Tryd.prog 13 #[.string s, .int .i64 (i : Int)] w fun r w' => r = .returned (.tuple #[tkV 0 ⟨#[]⟩ 0 0, .int .i64 2, .int .i64 (i : Int)]) ∧ Below w.heap.size w w' := by
  have hmf : ∀ (fn : Fn) (first cap : Array Value) (w : World), (Instr.makeFunc fn first cap).run Tryd.prog w = .ok (.func fn first cap) w := fun _ _ _ _ => rfl
  have H0 := ost_new w s (i : Int)
  go_enter Tryd.func13, Tryd.ntmps13
  go_wp2_with (first
    | (go_at_call 26; (with_reducible refine (hP _).mono ?_); rintro r w' ⟨rfl, hw'⟩; rw [hw']; clear hw' w'))
  go_region
  all_goals go_wp2
  all_goals go_returns
  all_goals exact ⟨rfl, by repeat (first | assumption | exact Below.refl _ _ | apply below_alloc | apply below_drawn | apply below_drew)⟩
set_option maxHeartbeats 3200000 in
theorem one_pun (s : ByteArray) (i : Nat) (w : World) (hsz : s.size ≤ 1000000) (c : Int) (u46 : (c == 46) = false) (k0 : Int) (hlt : i < s.size) (hat : ∀ h : i < s.size, (((s[i]'h).toNat : Nat) : Int) = c) (hI : ∀ W : World, Calls Tryd.prog 25 #[.string ⟨#[33, 36, 38, 40, 41, 58, 61, 64, 91, 93, 123, 124, 125]⟩, .int .u8 c] W fun r w' => r = .returned (.int .i64 k0) ∧ w' = W) (t0 : decide (0 ≤ k0) = true) (HT : Hid (∀ W : World, OSt w W s i → Calls Tryd.prog 28 #[.int .i64 1, .int .i64 ((i : Int) + 1), .pointer (some ⟨w.heap.size, 0, none⟩), .pointer (some ⟨w.heap.size + 1, 0, none⟩)] W fun r w' => r = .returned (.tuple #[.agg #[.int .i64 1, .string (s.extract i (i + 1)), .int .i64 (i : Int), .int .i64 ((i : Int) + 1)], .int .i64 0, .int .i64 ((i : Int) + 1)]) ∧ Below W.heap.size W w')) :
    Calls Tryd.prog 13 #[.string s, .int .i64 (i : Int)] w fun r w' => r = .returned (.tuple #[tkV 1 (s.extract i (i + 1)) (i : Int) ((i : Int) + 1), .int .i64 0, .int .i64 ((i : Int) + 1)]) ∧ Below w.heap.size w w' := by
  have hmf : ∀ (fn : Fn) (first cap : Array Value) (w : World), (Instr.makeFunc fn first cap).run Tryd.prog w = .ok (.func fn first cap) w := fun _ _ _ _ => rfl
  have H0 := ost_new w s (i : Int)
  go_enter Tryd.func13, Tryd.ntmps13
  go_wp2_with (first
    | (go_at_call 25; (with_reducible refine (hI _).mono ?_); rintro r w' ⟨rfl, hw'⟩; rw [hw']; clear hw' w')
    | (go_at_call 28; (with_reducible refine (HT.out _ ?c1).mono ?_); (case c1 => assumption); rintro r w2 ⟨rfl, hb2⟩; have H2 := OSt.call (by assumption) hb2; obtain ⟨x0, x1, x2, x3, z0, z1, z2, z3⟩ := cell_of_four H2.ho; obtain ⟨s1, s2, s3, s4, s5, s6, s7, s8, s9, s10⟩ := four_set H2.ho; have y0 := cell_of_one H2.hs; have y1 := cell_of_one H2.hi))
  refine bodyPost_ret (v := .tuple #[tkV 1 (s.extract i (i + 1)) (i : Int) ((i : Int) + 1), .int .i64 0, .int .i64 ((i : Int) + 1)]) (by simp [results, Tryd.results13, go_sem, s7, s8, s9, s10, tkV]) rfl ⟨rfl, bel_of H2 _ _ _ _⟩
set_option maxHeartbeats 3200000 in
theorem one_name (s : ByteArray) (i : Nat) (w : World) (hsz : s.size ≤ 1000000) (c : Int) (u46 : (c == 46) = false) (k0 : Int) (hlt : i < s.size) (hat : ∀ h : i < s.size, (((s[i]'h).toNat : Nat) : Int) = c) (hI : ∀ W : World, Calls Tryd.prog 25 #[.string ⟨#[33, 36, 38, 40, 41, 58, 61, 64, 91, 93, 123, 124, 125]⟩, .int .u8 c] W fun r w' => r = .returned (.int .i64 k0) ∧ w' = W) (t0 : decide (0 ≤ k0) = false) (hB : ∀ W : World, Calls Tryd.prog 30 #[.int .u8 c] W fun r w' => r = .returned (.bool true) ∧ w' = W) (e : Int) (t : ByteArray) (HN : Hid (∀ W : World, OSt w W s i → Calls Tryd.prog 31 #[.string s, .int .i64 (i : Int)] W fun r w' => r = .returned (.int .i64 e) ∧ Below W.heap.size W w')) (HT : Hid (∀ W : World, OSt w W s i → Calls Tryd.prog 28 #[.int .i64 2, .int .i64 e, .pointer (some ⟨w.heap.size, 0, none⟩), .pointer (some ⟨w.heap.size + 1, 0, none⟩)] W fun r w' => r = .returned (.tuple #[.agg #[.int .i64 2, .string t, .int .i64 (i : Int), .int .i64 e], .int .i64 0, .int .i64 e]) ∧ Below W.heap.size W w')) :
    Calls Tryd.prog 13 #[.string s, .int .i64 (i : Int)] w fun r w' => r = .returned (.tuple #[tkV 2 t (i : Int) e, .int .i64 0, .int .i64 e]) ∧ Below w.heap.size w w' := by
  have hmf : ∀ (fn : Fn) (first cap : Array Value) (w : World), (Instr.makeFunc fn first cap).run Tryd.prog w = .ok (.func fn first cap) w := fun _ _ _ _ => rfl
  have H0 := ost_new w s (i : Int)
  go_enter Tryd.func13, Tryd.ntmps13
  go_wp2_with (first
    | (go_at_call 25; (with_reducible refine (hI _).mono ?_); rintro r w' ⟨rfl, hw'⟩; rw [hw']; clear hw' w')
    | (go_at_call 30; (with_reducible refine (hB _).mono ?_); rintro r w' ⟨rfl, hw'⟩; rw [hw']; clear hw' w')
    | (go_at_call 31; (with_reducible refine (HN.out _ ?c1).mono ?_); (case c1 => assumption); rintro r w2 ⟨rfl, hb2⟩; have H2 := OSt.call (by assumption) hb2; obtain ⟨x0, x1, x2, x3, z0, z1, z2, z3⟩ := cell_of_four H2.ho; obtain ⟨s1, s2, s3, s4, s5, s6, s7, s8, s9, s10⟩ := four_set H2.ho; have y0 := cell_of_one H2.hs; have y1 := cell_of_one H2.hi)
    | (go_at_call 28; (with_reducible refine (HT.out _ ?c1).mono ?_); (case c1 => assumption); rintro r w2 ⟨rfl, hb2⟩; have H2 := OSt.call (by assumption) hb2; obtain ⟨x0, x1, x2, x3, z0, z1, z2, z3⟩ := cell_of_four H2.ho; obtain ⟨s1, s2, s3, s4, s5, s6, s7, s8, s9, s10⟩ := four_set H2.ho; have y0 := cell_of_one H2.hs; have y1 := cell_of_one H2.hi))
  refine bodyPost_ret (v := .tuple #[tkV 2 t (i : Int) e, .int .i64 0, .int .i64 e]) (by simp [results, Tryd.results13, go_sem, s7, s8, s9, s10, tkV]) rfl ⟨rfl, bel_of H2 _ _ _ _⟩
set_option maxHeartbeats 3200000 in
theorem one_num_ym (s : ByteArray) (i : Nat) (w : World) (hsz : s.size ≤ 1000000) (k0 : Int) (hlt : i < s.size) (hat : ∀ h : i < s.size, (((s[i]'h).toNat : Nat) : Int) = 45) (hI : ∀ W : World, Calls Tryd.prog 25 #[.string ⟨#[33, 36, 38, 40, 41, 58, 61, 64, 91, 93, 123, 124, 125]⟩, .int .u8 45] W fun r w' => r = .returned (.int .i64 k0) ∧ w' = W) (t0 : decide (0 ≤ k0) = false) (hB : ∀ W : World, Calls Tryd.prog 30 #[.int .u8 45] W fun r w' => r = .returned (.bool false) ∧ w' = W) (k e : Int) (HN : Hid (∀ W : World, OSt w W s i → Calls Tryd.prog 17 #[.string s, .int .i64 (i : Int)] W fun r w' => r = .returned (.tuple #[.int .i64 k, .int .i64 e, .bool true]) ∧ Below W.heap.size W w')) (t : ByteArray) (HT : Hid (∀ W : World, OSt w W s i → Calls Tryd.prog 28 #[.int .i64 k, .int .i64 e, .pointer (some ⟨w.heap.size, 0, none⟩), .pointer (some ⟨w.heap.size + 1, 0, none⟩)] W fun r w' => r = .returned (.tuple #[.agg #[.int .i64 k, .string t, .int .i64 (i : Int), .int .i64 e], .int .i64 0, .int .i64 e]) ∧ Below W.heap.size W w')) :
    Calls Tryd.prog 13 #[.string s, .int .i64 (i : Int)] w fun r w' => r = .returned (.tuple #[tkV k t (i : Int) e, .int .i64 0, .int .i64 e]) ∧ Below w.heap.size w w' := by
  have hmf : ∀ (fn : Fn) (first cap : Array Value) (w : World), (Instr.makeFunc fn first cap).run Tryd.prog w = .ok (.func fn first cap) w := fun _ _ _ _ => rfl
  have H0 := ost_new w s (i : Int)
  go_enter Tryd.func13, Tryd.ntmps13
  go_wp2_with (first
    | (go_at_call 25; (with_reducible refine (hI _).mono ?_); rintro r w' ⟨rfl, hw'⟩; rw [hw']; clear hw' w')
    | (go_at_call 30; (with_reducible refine (hB _).mono ?_); rintro r w' ⟨rfl, hw'⟩; rw [hw']; clear hw' w')
    | (go_at_call 17; (with_reducible refine (HN.out _ ?c1).mono ?_); (case c1 => assumption); rintro r w2 ⟨rfl, hb2⟩; have H2 := OSt.call (by assumption) hb2; obtain ⟨x0, x1, x2, x3, z0, z1, z2, z3⟩ := cell_of_four H2.ho; obtain ⟨s1, s2, s3, s4, s5, s6, s7, s8, s9, s10⟩ := four_set H2.ho; have y0 := cell_of_one H2.hs; have y1 := cell_of_one H2.hi)
    | (go_at_call 28; (with_reducible refine (HT.out _ ?c1).mono ?_); (case c1 => assumption); rintro r w2 ⟨rfl, hb2⟩; have H2 := OSt.call (by assumption) hb2; obtain ⟨x0, x1, x2, x3, z0, z1, z2, z3⟩ := cell_of_four H2.ho; obtain ⟨s1, s2, s3, s4, s5, s6, s7, s8, s9, s10⟩ := four_set H2.ho; have y0 := cell_of_one H2.hs; have y1 := cell_of_one H2.hi))
  refine bodyPost_ret (v := .tuple #[tkV k t (i : Int) e, .int .i64 0, .int .i64 e]) (by simp [results, Tryd.results13, go_sem, s7, s8, s9, s10, tkV]) rfl ⟨rfl, bel_of H2 _ _ _ _⟩
set_option maxHeartbeats 3200000 in
theorem one_num_nm (s : ByteArray) (i : Nat) (w : World) (hsz : s.size ≤ 1000000) (k0 : Int) (hlt : i < s.size) (hat : ∀ h : i < s.size, (((s[i]'h).toNat : Nat) : Int) = 45) (hI : ∀ W : World, Calls Tryd.prog 25 #[.string ⟨#[33, 36, 38, 40, 41, 58, 61, 64, 91, 93, 123, 124, 125]⟩, .int .u8 45] W fun r w' => r = .returned (.int .i64 k0) ∧ w' = W) (t0 : decide (0 ≤ k0) = false) (hB : ∀ W : World, Calls Tryd.prog 30 #[.int .u8 45] W fun r w' => r = .returned (.bool false) ∧ w' = W) (k e : Int) (HN : Hid (∀ W : World, OSt w W s i → Calls Tryd.prog 17 #[.string s, .int .i64 (i : Int)] W fun r w' => r = .returned (.tuple #[.int .i64 k, .int .i64 e, .bool false]) ∧ Below W.heap.size W w')) :
    Calls Tryd.prog 13 #[.string s, .int .i64 (i : Int)] w fun r w' => r = .returned (.tuple #[tkV 0 ⟨#[]⟩ 0 0, .int .i64 3, .int .i64 e]) ∧ Below w.heap.size w w' := by
  have hmf : ∀ (fn : Fn) (first cap : Array Value) (w : World), (Instr.makeFunc fn first cap).run Tryd.prog w = .ok (.func fn first cap) w := fun _ _ _ _ => rfl
  have H0 := ost_new w s (i : Int)
  go_enter Tryd.func13, Tryd.ntmps13
  go_wp2_with (first
    | (go_at_call 25; (with_reducible refine (hI _).mono ?_); rintro r w' ⟨rfl, hw'⟩; rw [hw']; clear hw' w')
    | (go_at_call 30; (with_reducible refine (hB _).mono ?_); rintro r w' ⟨rfl, hw'⟩; rw [hw']; clear hw' w')
    | (go_at_call 17; (with_reducible refine (HN.out _ ?c1).mono ?_); (case c1 => assumption); rintro r w2 ⟨rfl, hb2⟩; have H2 := OSt.call (by assumption) hb2; obtain ⟨x0, x1, x2, x3, z0, z1, z2, z3⟩ := cell_of_four H2.ho; obtain ⟨s1, s2, s3, s4, s5, s6, s7, s8, s9, s10⟩ := four_set H2.ho; have y0 := cell_of_one H2.hs; have y1 := cell_of_one H2.hi))
  refine bodyPost_ret (v := .tuple #[tkV 0 ⟨#[]⟩ 0 0, .int .i64 3, .int .i64 e]) (by simp [results, Tryd.results13, go_sem, s7, s8, s9, s10, tkV]) rfl ⟨rfl, bel_of H2 _ _ _ _⟩
set_option maxHeartbeats 3200000 in
theorem one_num_yd (s : ByteArray) (i : Nat) (w : World) (hsz : s.size ≤ 1000000) (c : Int) (u46 : (c == 46) = false) (k0 : Int) (u45 : (c == 45) = false) (g1 : decide (48 ≤ c) = true) (g2 : decide (c ≤ 57) = true) (hlt : i < s.size) (hat : ∀ h : i < s.size, (((s[i]'h).toNat : Nat) : Int) = c) (hI : ∀ W : World, Calls Tryd.prog 25 #[.string ⟨#[33, 36, 38, 40, 41, 58, 61, 64, 91, 93, 123, 124, 125]⟩, .int .u8 c] W fun r w' => r = .returned (.int .i64 k0) ∧ w' = W) (t0 : decide (0 ≤ k0) = false) (hB : ∀ W : World, Calls Tryd.prog 30 #[.int .u8 c] W fun r w' => r = .returned (.bool false) ∧ w' = W) (k e : Int) (HN : Hid (∀ W : World, OSt w W s i → Calls Tryd.prog 17 #[.string s, .int .i64 (i : Int)] W fun r w' => r = .returned (.tuple #[.int .i64 k, .int .i64 e, .bool true]) ∧ Below W.heap.size W w')) (t : ByteArray) (HT : Hid (∀ W : World, OSt w W s i → Calls Tryd.prog 28 #[.int .i64 k, .int .i64 e, .pointer (some ⟨w.heap.size, 0, none⟩), .pointer (some ⟨w.heap.size + 1, 0, none⟩)] W fun r w' => r = .returned (.tuple #[.agg #[.int .i64 k, .string t, .int .i64 (i : Int), .int .i64 e], .int .i64 0, .int .i64 e]) ∧ Below W.heap.size W w')) :
    Calls Tryd.prog 13 #[.string s, .int .i64 (i : Int)] w fun r w' => r = .returned (.tuple #[tkV k t (i : Int) e, .int .i64 0, .int .i64 e]) ∧ Below w.heap.size w w' := by
  have hmf : ∀ (fn : Fn) (first cap : Array Value) (w : World), (Instr.makeFunc fn first cap).run Tryd.prog w = .ok (.func fn first cap) w := fun _ _ _ _ => rfl
  have H0 := ost_new w s (i : Int)
  go_enter Tryd.func13, Tryd.ntmps13
  go_wp2_with (first
    | (go_at_call 25; (with_reducible refine (hI _).mono ?_); rintro r w' ⟨rfl, hw'⟩; rw [hw']; clear hw' w')
    | (go_at_call 30; (with_reducible refine (hB _).mono ?_); rintro r w' ⟨rfl, hw'⟩; rw [hw']; clear hw' w')
    | (go_at_call 17; (with_reducible refine (HN.out _ ?c1).mono ?_); (case c1 => assumption); rintro r w2 ⟨rfl, hb2⟩; have H2 := OSt.call (by assumption) hb2; obtain ⟨x0, x1, x2, x3, z0, z1, z2, z3⟩ := cell_of_four H2.ho; obtain ⟨s1, s2, s3, s4, s5, s6, s7, s8, s9, s10⟩ := four_set H2.ho; have y0 := cell_of_one H2.hs; have y1 := cell_of_one H2.hi)
    | (go_at_call 28; (with_reducible refine (HT.out _ ?c1).mono ?_); (case c1 => assumption); rintro r w2 ⟨rfl, hb2⟩; have H2 := OSt.call (by assumption) hb2; obtain ⟨x0, x1, x2, x3, z0, z1, z2, z3⟩ := cell_of_four H2.ho; obtain ⟨s1, s2, s3, s4, s5, s6, s7, s8, s9, s10⟩ := four_set H2.ho; have y0 := cell_of_one H2.hs; have y1 := cell_of_one H2.hi))
  refine bodyPost_ret (v := .tuple #[tkV k t (i : Int) e, .int .i64 0, .int .i64 e]) (by simp [results, Tryd.results13, go_sem, s7, s8, s9, s10, tkV]) rfl ⟨rfl, bel_of H2 _ _ _ _⟩
set_option maxHeartbeats 3200000 in
theorem one_num_nd (s : ByteArray) (i : Nat) (w : World) (hsz : s.size ≤ 1000000) (c : Int) (u46 : (c == 46) = false) (k0 : Int) (u45 : (c == 45) = false) (g1 : decide (48 ≤ c) = true) (g2 : decide (c ≤ 57) = true) (hlt : i < s.size) (hat : ∀ h : i < s.size, (((s[i]'h).toNat : Nat) : Int) = c) (hI : ∀ W : World, Calls Tryd.prog 25 #[.string ⟨#[33, 36, 38, 40, 41, 58, 61, 64, 91, 93, 123, 124, 125]⟩, .int .u8 c] W fun r w' => r = .returned (.int .i64 k0) ∧ w' = W) (t0 : decide (0 ≤ k0) = false) (hB : ∀ W : World, Calls Tryd.prog 30 #[.int .u8 c] W fun r w' => r = .returned (.bool false) ∧ w' = W) (k e : Int) (HN : Hid (∀ W : World, OSt w W s i → Calls Tryd.prog 17 #[.string s, .int .i64 (i : Int)] W fun r w' => r = .returned (.tuple #[.int .i64 k, .int .i64 e, .bool false]) ∧ Below W.heap.size W w')) :
    Calls Tryd.prog 13 #[.string s, .int .i64 (i : Int)] w fun r w' => r = .returned (.tuple #[tkV 0 ⟨#[]⟩ 0 0, .int .i64 3, .int .i64 e]) ∧ Below w.heap.size w w' := by
  have hmf : ∀ (fn : Fn) (first cap : Array Value) (w : World), (Instr.makeFunc fn first cap).run Tryd.prog w = .ok (.func fn first cap) w := fun _ _ _ _ => rfl
  have H0 := ost_new w s (i : Int)
  go_enter Tryd.func13, Tryd.ntmps13
  go_wp2_with (first
    | (go_at_call 25; (with_reducible refine (hI _).mono ?_); rintro r w' ⟨rfl, hw'⟩; rw [hw']; clear hw' w')
    | (go_at_call 30; (with_reducible refine (hB _).mono ?_); rintro r w' ⟨rfl, hw'⟩; rw [hw']; clear hw' w')
    | (go_at_call 17; (with_reducible refine (HN.out _ ?c1).mono ?_); (case c1 => assumption); rintro r w2 ⟨rfl, hb2⟩; have H2 := OSt.call (by assumption) hb2; obtain ⟨x0, x1, x2, x3, z0, z1, z2, z3⟩ := cell_of_four H2.ho; obtain ⟨s1, s2, s3, s4, s5, s6, s7, s8, s9, s10⟩ := four_set H2.ho; have y0 := cell_of_one H2.hs; have y1 := cell_of_one H2.hi))
  refine bodyPost_ret (v := .tuple #[tkV 0 ⟨#[]⟩ 0 0, .int .i64 3, .int .i64 e]) (by simp [results, Tryd.results13, go_sem, s7, s8, s9, s10, tkV]) rfl ⟨rfl, bel_of H2 _ _ _ _⟩
set_option maxHeartbeats 3200000 in
theorem one_raw_y (s : ByteArray) (i : Nat) (w : World) (hsz : s.size ≤ 1000000) (k0 : Int) (hlt : i < s.size) (hat : ∀ h : i < s.size, (((s[i]'h).toNat : Nat) : Int) = 34) (hI : ∀ W : World, Calls Tryd.prog 25 #[.string ⟨#[33, 36, 38, 40, 41, 58, 61, 64, 91, 93, 123, 124, 125]⟩, .int .u8 34] W fun r w' => r = .returned (.int .i64 k0) ∧ w' = W) (t0 : decide (0 ≤ k0) = false) (hB : ∀ W : World, Calls Tryd.prog 30 #[.int .u8 34] W fun r w' => r = .returned (.bool false) ∧ w' = W) (e : Int) (v : ByteArray) (hP : ∀ W : World, Calls Tryd.prog 26 #[.string (s.extract i s.size), .string ⟨#[34, 34, 34]⟩] W fun r w' => r = .returned (.bool true) ∧ w' = W) (HR : Hid (∀ W : World, OSt w W s i → Calls Tryd.prog 32 #[.string s, .int .i64 (i : Int)] W fun r w' => r = .returned (.tuple #[.string v, .int .i64 e, .bool true]) ∧ Below W.heap.size W w')) (u : ByteArray) (HF : Hid (∀ W : World, OSt w W s i → Calls Tryd.prog 33 #[.string v] W fun r w' => r = .returned (.string u) ∧ Below W.heap.size W w')) (HV : Hid (∀ W : World, OSt w W s i → Calls Tryd.prog 29 #[.string u, .int .i64 e, .pointer (some ⟨w.heap.size + 1, 0, none⟩)] W fun r w' => r = .returned (.tuple #[.agg #[.int .i64 5, .string u, .int .i64 (i : Int), .int .i64 e], .int .i64 0, .int .i64 e]) ∧ Below W.heap.size W w')) :
    Calls Tryd.prog 13 #[.string s, .int .i64 (i : Int)] w fun r w' => r = .returned (.tuple #[tkV 5 u (i : Int) e, .int .i64 0, .int .i64 e]) ∧ Below w.heap.size w w' := by
  have hmf : ∀ (fn : Fn) (first cap : Array Value) (w : World), (Instr.makeFunc fn first cap).run Tryd.prog w = .ok (.func fn first cap) w := fun _ _ _ _ => rfl
  have H0 := ost_new w s (i : Int)
  go_enter Tryd.func13, Tryd.ntmps13
  go_wp2_with (first
    | (go_at_call 25; (with_reducible refine (hI _).mono ?_); rintro r w' ⟨rfl, hw'⟩; rw [hw']; clear hw' w')
    | (go_at_call 30; (with_reducible refine (hB _).mono ?_); rintro r w' ⟨rfl, hw'⟩; rw [hw']; clear hw' w')
    | (go_at_call 26; (with_reducible refine (hP _).mono ?_); rintro r w' ⟨rfl, hw'⟩; rw [hw']; clear hw' w')
    | (go_at_call 32; (with_reducible refine (HR.out _ ?c1).mono ?_); (case c1 => assumption); rintro r w2 ⟨rfl, hb2⟩; have H2 := OSt.call (by assumption) hb2; obtain ⟨x0, x1, x2, x3, z0, z1, z2, z3⟩ := cell_of_four H2.ho; obtain ⟨s1, s2, s3, s4, s5, s6, s7, s8, s9, s10⟩ := four_set H2.ho; have y0 := cell_of_one H2.hs; have y1 := cell_of_one H2.hi)
    | (go_at_call 33; (with_reducible refine (HF.out _ ?c1).mono ?_); (case c1 => assumption); rintro r w2 ⟨rfl, hb2⟩; have H2 := OSt.call (by assumption) hb2; obtain ⟨x0, x1, x2, x3, z0, z1, z2, z3⟩ := cell_of_four H2.ho; obtain ⟨s1, s2, s3, s4, s5, s6, s7, s8, s9, s10⟩ := four_set H2.ho; have y0 := cell_of_one H2.hs; have y1 := cell_of_one H2.hi)
    | (go_at_call 29; (with_reducible refine (HV.out _ ?c1).mono ?_); (case c1 => assumption); rintro r w2 ⟨rfl, hb2⟩; have H2 := OSt.call (by assumption) hb2; obtain ⟨x0, x1, x2, x3, z0, z1, z2, z3⟩ := cell_of_four H2.ho; obtain ⟨s1, s2, s3, s4, s5, s6, s7, s8, s9, s10⟩ := four_set H2.ho; have y0 := cell_of_one H2.hs; have y1 := cell_of_one H2.hi))
  refine bodyPost_ret (v := .tuple #[tkV 5 u (i : Int) e, .int .i64 0, .int .i64 e]) (by simp [results, Tryd.results13, go_sem, s7, s8, s9, s10, tkV]) rfl ⟨rfl, bel_of H2 _ _ _ _⟩
set_option maxHeartbeats 3200000 in
theorem one_raw_n (s : ByteArray) (i : Nat) (w : World) (hsz : s.size ≤ 1000000) (k0 : Int) (hlt : i < s.size) (hat : ∀ h : i < s.size, (((s[i]'h).toNat : Nat) : Int) = 34) (hI : ∀ W : World, Calls Tryd.prog 25 #[.string ⟨#[33, 36, 38, 40, 41, 58, 61, 64, 91, 93, 123, 124, 125]⟩, .int .u8 34] W fun r w' => r = .returned (.int .i64 k0) ∧ w' = W) (t0 : decide (0 ≤ k0) = false) (hB : ∀ W : World, Calls Tryd.prog 30 #[.int .u8 34] W fun r w' => r = .returned (.bool false) ∧ w' = W) (e : Int) (v : ByteArray) (hP : ∀ W : World, Calls Tryd.prog 26 #[.string (s.extract i s.size), .string ⟨#[34, 34, 34]⟩] W fun r w' => r = .returned (.bool true) ∧ w' = W) (HR : Hid (∀ W : World, OSt w W s i → Calls Tryd.prog 32 #[.string s, .int .i64 (i : Int)] W fun r w' => r = .returned (.tuple #[.string v, .int .i64 e, .bool false]) ∧ Below W.heap.size W w')) :
    Calls Tryd.prog 13 #[.string s, .int .i64 (i : Int)] w fun r w' => r = .returned (.tuple #[tkV 0 ⟨#[]⟩ 0 0, .int .i64 4, .int .i64 e]) ∧ Below w.heap.size w w' := by
  have hmf : ∀ (fn : Fn) (first cap : Array Value) (w : World), (Instr.makeFunc fn first cap).run Tryd.prog w = .ok (.func fn first cap) w := fun _ _ _ _ => rfl
  have H0 := ost_new w s (i : Int)
  go_enter Tryd.func13, Tryd.ntmps13
  go_wp2_with (first
    | (go_at_call 25; (with_reducible refine (hI _).mono ?_); rintro r w' ⟨rfl, hw'⟩; rw [hw']; clear hw' w')
    | (go_at_call 30; (with_reducible refine (hB _).mono ?_); rintro r w' ⟨rfl, hw'⟩; rw [hw']; clear hw' w')
    | (go_at_call 26; (with_reducible refine (hP _).mono ?_); rintro r w' ⟨rfl, hw'⟩; rw [hw']; clear hw' w')
    | (go_at_call 32; (with_reducible refine (HR.out _ ?c1).mono ?_); (case c1 => assumption); rintro r w2 ⟨rfl, hb2⟩; have H2 := OSt.call (by assumption) hb2; obtain ⟨x0, x1, x2, x3, z0, z1, z2, z3⟩ := cell_of_four H2.ho; obtain ⟨s1, s2, s3, s4, s5, s6, s7, s8, s9, s10⟩ := four_set H2.ho; have y0 := cell_of_one H2.hs; have y1 := cell_of_one H2.hi))
  refine bodyPost_ret (v := .tuple #[tkV 0 ⟨#[]⟩ 0 0, .int .i64 4, .int .i64 e]) (by simp [results, Tryd.results13, go_sem, s7, s8, s9, s10, tkV]) rfl ⟨rfl, bel_of H2 _ _ _ _⟩
set_option maxHeartbeats 3200000 in
theorem one_str_y (s : ByteArray) (i : Nat) (w : World) (hsz : s.size ≤ 1000000) (k0 : Int) (hlt : i < s.size) (hat : ∀ h : i < s.size, (((s[i]'h).toNat : Nat) : Int) = 34) (hI : ∀ W : World, Calls Tryd.prog 25 #[.string ⟨#[33, 36, 38, 40, 41, 58, 61, 64, 91, 93, 123, 124, 125]⟩, .int .u8 34] W fun r w' => r = .returned (.int .i64 k0) ∧ w' = W) (t0 : decide (0 ≤ k0) = false) (hB : ∀ W : World, Calls Tryd.prog 30 #[.int .u8 34] W fun r w' => r = .returned (.bool false) ∧ w' = W) (e : Int) (v : ByteArray) (hP : ∀ W : World, Calls Tryd.prog 26 #[.string (s.extract i s.size), .string ⟨#[34, 34, 34]⟩] W fun r w' => r = .returned (.bool false) ∧ w' = W) (HS : Hid (∀ W : World, OSt w W s i → Calls Tryd.prog 34 #[.string s, .int .i64 (i : Int)] W fun r w' => r = .returned (.tuple #[.string v, .int .i64 e, .bool true]) ∧ Below W.heap.size W w')) (HV : Hid (∀ W : World, OSt w W s i → Calls Tryd.prog 29 #[.string v, .int .i64 e, .pointer (some ⟨w.heap.size + 1, 0, none⟩)] W fun r w' => r = .returned (.tuple #[.agg #[.int .i64 5, .string v, .int .i64 (i : Int), .int .i64 e], .int .i64 0, .int .i64 e]) ∧ Below W.heap.size W w')) :
    Calls Tryd.prog 13 #[.string s, .int .i64 (i : Int)] w fun r w' => r = .returned (.tuple #[tkV 5 v (i : Int) e, .int .i64 0, .int .i64 e]) ∧ Below w.heap.size w w' := by
  have hmf : ∀ (fn : Fn) (first cap : Array Value) (w : World), (Instr.makeFunc fn first cap).run Tryd.prog w = .ok (.func fn first cap) w := fun _ _ _ _ => rfl
  have H0 := ost_new w s (i : Int)
  go_enter Tryd.func13, Tryd.ntmps13
  go_wp2_with (first
    | (go_at_call 25; (with_reducible refine (hI _).mono ?_); rintro r w' ⟨rfl, hw'⟩; rw [hw']; clear hw' w')
    | (go_at_call 30; (with_reducible refine (hB _).mono ?_); rintro r w' ⟨rfl, hw'⟩; rw [hw']; clear hw' w')
    | (go_at_call 26; (with_reducible refine (hP _).mono ?_); rintro r w' ⟨rfl, hw'⟩; rw [hw']; clear hw' w')
    | (go_at_call 34; (with_reducible refine (HS.out _ ?c1).mono ?_); (case c1 => assumption); rintro r w2 ⟨rfl, hb2⟩; have H2 := OSt.call (by assumption) hb2; obtain ⟨x0, x1, x2, x3, z0, z1, z2, z3⟩ := cell_of_four H2.ho; obtain ⟨s1, s2, s3, s4, s5, s6, s7, s8, s9, s10⟩ := four_set H2.ho; have y0 := cell_of_one H2.hs; have y1 := cell_of_one H2.hi)
    | (go_at_call 29; (with_reducible refine (HV.out _ ?c1).mono ?_); (case c1 => assumption); rintro r w2 ⟨rfl, hb2⟩; have H2 := OSt.call (by assumption) hb2; obtain ⟨x0, x1, x2, x3, z0, z1, z2, z3⟩ := cell_of_four H2.ho; obtain ⟨s1, s2, s3, s4, s5, s6, s7, s8, s9, s10⟩ := four_set H2.ho; have y0 := cell_of_one H2.hs; have y1 := cell_of_one H2.hi))
  refine bodyPost_ret (v := .tuple #[tkV 5 v (i : Int) e, .int .i64 0, .int .i64 e]) (by simp [results, Tryd.results13, go_sem, s7, s8, s9, s10, tkV]) rfl ⟨rfl, bel_of H2 _ _ _ _⟩
set_option maxHeartbeats 3200000 in
theorem one_str_n (s : ByteArray) (i : Nat) (w : World) (hsz : s.size ≤ 1000000) (k0 : Int) (hlt : i < s.size) (hat : ∀ h : i < s.size, (((s[i]'h).toNat : Nat) : Int) = 34) (hI : ∀ W : World, Calls Tryd.prog 25 #[.string ⟨#[33, 36, 38, 40, 41, 58, 61, 64, 91, 93, 123, 124, 125]⟩, .int .u8 34] W fun r w' => r = .returned (.int .i64 k0) ∧ w' = W) (t0 : decide (0 ≤ k0) = false) (hB : ∀ W : World, Calls Tryd.prog 30 #[.int .u8 34] W fun r w' => r = .returned (.bool false) ∧ w' = W) (e : Int) (v : ByteArray) (hP : ∀ W : World, Calls Tryd.prog 26 #[.string (s.extract i s.size), .string ⟨#[34, 34, 34]⟩] W fun r w' => r = .returned (.bool false) ∧ w' = W) (HS : Hid (∀ W : World, OSt w W s i → Calls Tryd.prog 34 #[.string s, .int .i64 (i : Int)] W fun r w' => r = .returned (.tuple #[.string v, .int .i64 e, .bool false]) ∧ Below W.heap.size W w')) :
    Calls Tryd.prog 13 #[.string s, .int .i64 (i : Int)] w fun r w' => r = .returned (.tuple #[tkV 0 ⟨#[]⟩ 0 0, .int .i64 4, .int .i64 e]) ∧ Below w.heap.size w w' := by
  have hmf : ∀ (fn : Fn) (first cap : Array Value) (w : World), (Instr.makeFunc fn first cap).run Tryd.prog w = .ok (.func fn first cap) w := fun _ _ _ _ => rfl
  have H0 := ost_new w s (i : Int)
  go_enter Tryd.func13, Tryd.ntmps13
  go_wp2_with (first
    | (go_at_call 25; (with_reducible refine (hI _).mono ?_); rintro r w' ⟨rfl, hw'⟩; rw [hw']; clear hw' w')
    | (go_at_call 30; (with_reducible refine (hB _).mono ?_); rintro r w' ⟨rfl, hw'⟩; rw [hw']; clear hw' w')
    | (go_at_call 26; (with_reducible refine (hP _).mono ?_); rintro r w' ⟨rfl, hw'⟩; rw [hw']; clear hw' w')
    | (go_at_call 34; (with_reducible refine (HS.out _ ?c1).mono ?_); (case c1 => assumption); rintro r w2 ⟨rfl, hb2⟩; have H2 := OSt.call (by assumption) hb2; obtain ⟨x0, x1, x2, x3, z0, z1, z2, z3⟩ := cell_of_four H2.ho; obtain ⟨s1, s2, s3, s4, s5, s6, s7, s8, s9, s10⟩ := four_set H2.ho; have y0 := cell_of_one H2.hs; have y1 := cell_of_one H2.hi))
  refine bodyPost_ret (v := .tuple #[tkV 0 ⟨#[]⟩ 0 0, .int .i64 4, .int .i64 e]) (by simp [results, Tryd.results13, go_sem, s7, s8, s9, s10, tkV]) rfl ⟨rfl, bel_of H2 _ _ _ _⟩
set_option maxHeartbeats 3200000 in
theorem one_else_l (s : ByteArray) (i : Nat) (w : World) (hsz : s.size ≤ 1000000) (c : Int) (u46 : (c == 46) = false) (k0 : Int) (u45 : (c == 45) = false) (u34 : (c == 34) = false) (g1 : decide (48 ≤ c) = false) (hlt : i < s.size) (hat : ∀ h : i < s.size, (((s[i]'h).toNat : Nat) : Int) = c) (hI : ∀ W : World, Calls Tryd.prog 25 #[.string ⟨#[33, 36, 38, 40, 41, 58, 61, 64, 91, 93, 123, 124, 125]⟩, .int .u8 c] W fun r w' => r = .returned (.int .i64 k0) ∧ w' = W) (t0 : decide (0 ≤ k0) = false) (hB : ∀ W : World, Calls Tryd.prog 30 #[.int .u8 c] W fun r w' => r = .returned (.bool false) ∧ w' = W) (hP : ∀ W : World, Calls Tryd.prog 26 #[.string (s.extract i s.size), .string ⟨#[34, 34, 34]⟩] W fun r w' => r = .returned (.bool false) ∧ w' = W) :
    Calls Tryd.prog 13 #[.string s, .int .i64 (i : Int)] w fun r w' => r = .returned (.tuple #[tkV 0 ⟨#[]⟩ 0 0, .int .i64 2, .int .i64 (i : Int)]) ∧ Below w.heap.size w w' := by
  have hmf : ∀ (fn : Fn) (first cap : Array Value) (w : World), (Instr.makeFunc fn first cap).run Tryd.prog w = .ok (.func fn first cap) w := fun _ _ _ _ => rfl
  have H0 := ost_new w s (i : Int)
  go_enter Tryd.func13, Tryd.ntmps13
  go_wp2_with (first
    | (go_at_call 25; (with_reducible refine (hI _).mono ?_); rintro r w' ⟨rfl, hw'⟩; rw [hw']; clear hw' w')
    | (go_at_call 30; (with_reducible refine (hB _).mono ?_); rintro r w' ⟨rfl, hw'⟩; rw [hw']; clear hw' w')
    | (go_at_call 26; (with_reducible refine (hP _).mono ?_); rintro r w' ⟨rfl, hw'⟩; rw [hw']; clear hw' w'))
  go_region
  all_goals go_wp2
  all_goals go_returns
  all_goals exact ⟨rfl, by repeat (first | assumption | exact Below.refl _ _ | apply below_alloc | apply below_drawn | apply below_drew)⟩
set_option maxHeartbeats 3200000 in
theorem one_else_h (s : ByteArray) (i : Nat) (w : World) (hsz : s.size ≤ 1000000) (c : Int) (u46 : (c == 46) = false) (k0 : Int) (u45 : (c == 45) = false) (u34 : (c == 34) = false) (g1 : decide (48 ≤ c) = true) (g2 : decide (c ≤ 57) = false) (hlt : i < s.size) (hat : ∀ h : i < s.size, (((s[i]'h).toNat : Nat) : Int) = c) (hI : ∀ W : World, Calls Tryd.prog 25 #[.string ⟨#[33, 36, 38, 40, 41, 58, 61, 64, 91, 93, 123, 124, 125]⟩, .int .u8 c] W fun r w' => r = .returned (.int .i64 k0) ∧ w' = W) (t0 : decide (0 ≤ k0) = false) (hB : ∀ W : World, Calls Tryd.prog 30 #[.int .u8 c] W fun r w' => r = .returned (.bool false) ∧ w' = W) (hP : ∀ W : World, Calls Tryd.prog 26 #[.string (s.extract i s.size), .string ⟨#[34, 34, 34]⟩] W fun r w' => r = .returned (.bool false) ∧ w' = W) :
    Calls Tryd.prog 13 #[.string s, .int .i64 (i : Int)] w fun r w' => r = .returned (.tuple #[tkV 0 ⟨#[]⟩ 0 0, .int .i64 2, .int .i64 (i : Int)]) ∧ Below w.heap.size w w' := by
  have hmf : ∀ (fn : Fn) (first cap : Array Value) (w : World), (Instr.makeFunc fn first cap).run Tryd.prog w = .ok (.func fn first cap) w := fun _ _ _ _ => rfl
  have H0 := ost_new w s (i : Int)
  go_enter Tryd.func13, Tryd.ntmps13
  go_wp2_with (first
    | (go_at_call 25; (with_reducible refine (hI _).mono ?_); rintro r w' ⟨rfl, hw'⟩; rw [hw']; clear hw' w')
    | (go_at_call 30; (with_reducible refine (hB _).mono ?_); rintro r w' ⟨rfl, hw'⟩; rw [hw']; clear hw' w')
    | (go_at_call 26; (with_reducible refine (hP _).mono ?_); rintro r w' ⟨rfl, hw'⟩; rw [hw']; clear hw' w'))
  go_region
  all_goals go_wp2
  all_goals go_returns
  all_goals exact ⟨rfl, by repeat (first | assumption | exact Below.refl _ _ | apply below_alloc | apply below_drawn | apply below_drew)⟩
end Go.Proofs.YtjgpmfjkcioinaaDoor.G
