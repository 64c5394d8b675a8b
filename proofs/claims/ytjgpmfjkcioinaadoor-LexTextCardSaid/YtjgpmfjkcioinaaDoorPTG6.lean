/-
  'num.Number': the walks of its two inner functions, which move the place that they share.
-/
import Derived.Test.YtjgpmfjkcioinaaDoorPTG5
import Derived.OneCell
import Derived.ScopeJumps
namespace Go.Proofs.YtjgpmfjkcioinaaDoor.G
open Go.RowKit Go.Proofs.YtjgpmfjkcioinaaDoorW.PrintWords Go.Proofs.YtjgpmfjkcioinaaDoor.M
set_option linter.unusedVariables false
set_option linter.unusedSimpArgs false
theorem wp_scope_forward {P : Program} {c rest : Code} {Q : Exit → Act → World → Prop} {a : Act} {w : World} (l : Nat) (hf : findLabel c l = some rest) (hQ : ∀ l' a w, ¬ Q (.goto l') a w)
    (first : c.wp P (Exit.jump l (fun a w => rest.wp P Q a w) Q) a w) : (Code.scope c).wp P Q a w :=
  wp_scope_jumps l (fun a w => rest.wp P Q a w) (fun _ _ => 0) hf first fun a w h => wp_mono h fun e a w he => by
    cases e with
    | goto l' => exact absurd he (hQ _ _ _)
    | _ => exact he
structure NumSt (w W : World) (ba bp : Nat) (s : ByteArray) (p : Int) : Prop where
  below : Below w.heap.size w W
  la : w.heap.size ≤ ba
  lp : w.heap.size ≤ bp
  ne : ba ≠ bp
  ha : W.heap[ba]? = some (.cells #[.int .i64 p] 3 (0, 0))
  hp : W.heap[bp]? = some (.cells #[.string s] 9 (0, 0))
theorem NumSt.alloc {w W : World} {ba bp : Nat} {s : ByteArray} {p : Int} (h : NumSt w W ba bp s p) (o : Obj) : NumSt w (W.alloc o) ba bp s p :=
  ⟨h.below.alloc h.below.size o, h.la, h.lp, h.ne, (Below.heap_alloc W o ba (lt_of_block h.ha)).trans h.ha, (Below.heap_alloc W o bp (lt_of_block h.hp)).trans h.hp⟩
theorem NumSt.later {w W W' : World} {ba bp : Nat} {s : ByteArray} {p : Int} (h : NumSt w W ba bp s p) (hb : Below W.heap.size W W') : NumSt w W' ba bp s p :=
  ⟨h.below.trans (hb.mono h.below.size), h.la, h.lp, h.ne, (hb.block _ (lt_of_block h.ha)).trans h.ha, (hb.block _ (lt_of_block h.hp)).trans h.hp⟩
theorem NumSt.move {w W : World} {ba bp : Nat} {s : ByteArray} {p : Int} (h : NumSt w W ba bp s p) (q : Int) : NumSt w (W.setCell ⟨ba, 0, none⟩ (.int .i64 q)) ba bp s q :=
  ⟨h.below.setCell (p := ⟨ba, 0, none⟩) h.la _, h.la, h.lp, h.ne, one_setCell h.ha, by rw [Below.heap_setCell _ _ _ _ (fun e => h.ne e.symm)]; exact h.hp⟩
def mv (p : Int) (r : Bool) : Int := if r = true then p + 1 else p
def isAt (s : ByteArray) (p : Int) (cs : List Int) : Bool := decide (p < s.size) && cs.any fun c => bt s p == c
set_option maxHeartbeats 800000 in
theorem is_any (w W : World) (ba bp bs : Nat) (s : ByteArray) (p : Int) (cs : List Int) (hp0 : 0 ≤ p) (hp1 : p ≤ s.size) (hs : s.size ≤ 1000000) (hl : cs.length ≤ 9)
    (H : NumSt w W ba bp s p) (hc : ∀ j : Nat, j < cs.length → W.cell? ⟨bs, j, none⟩ = some (.int .u8 (cs[j]?.getD 0))) :
    Calls Tryd.prog 40 #[.slice (some ⟨bs, 0, none⟩) cs.length cs.length, .pointer (some ⟨ba, 0, none⟩), .pointer (some ⟨bp, 0, none⟩)] W fun e W' =>
      e = .returned (.bool (isAt s p cs)) ∧ NumSt w W' ba bp s (mv p (isAt s p cs)) := by
  have c1 := cell_of_one H.ha
  have c2 := cell_of_one H.hp
  have f1 := free_of_one H.ha
  have HH := Lib.hid H
  have HC := Lib.hid hc
  clear hc
  go_enter Tryd.func40, Tryd.ntmps40
  go_wp2
  go_loopg [9] cs.length (fun gf s9 wx => wx = W ∧ ∃ j : Nat, s9 = .int .i64 j ∧ j + gf = cs.length ∧ Hid (∀ k : Nat, k < j → ¬ (p < s.size ∧ bt s p = cs[k]?.getD 0)))
  case atStart => exact ⟨rfl, 0, rfl, by omega, Lib.hid (fun k hk => by omega)⟩
  case round =>
    obtain ⟨rfl, j, rfl, hj, HN⟩ := hrel
    cases gk with
    | zero =>
      obtain rfl : j = cs.length := by omega
      have hr : isAt s p cs = false := by
        unfold isAt
        by_cases hlt : p < s.size
        · rw [decide_eq_true hlt, Bool.true_and, List.any_eq_false]
          intro c hcc
          obtain ⟨k, hk, e⟩ := List.mem_iff_getElem.1 hcc
          have := HN.out k hk
          rw [List.getElem?_eq_getElem hk, e] at this
          simp only [Option.getD_some] at this
          simpa using fun x => this ⟨hlt, x⟩
        · rw [decide_eq_false hlt, Bool.false_and]
      have HR := Lib.hid hr
      clear hr
      go_wp2
      go_ret
      rw [HR.out]
      exact ⟨rfl, HH.out⟩
    | succ g =>
      have hjl : j < cs.length := by omega
      have hcell := HC.out j hjl
      obtain ⟨c, hcd⟩ : ∃ c, cs[j]?.getD 0 = c := ⟨_, rfl⟩
      rw [hcd] at hcell
      have HCD := Lib.hid hcd
      clear hcd
      by_cases hlt : p < s.size
      · obtain ⟨n, rfl⟩ : ∃ n : Nat, p = n := ⟨p.toNat, by omega⟩
        have hns : n < s.size := by omega
        have hat : ∀ h : n < s.size, (((s[n]'h).toNat : Nat) : Int) = bt s n := fun h => bt_at s n h
        obtain ⟨b, hb⟩ : ∃ b, bt s n = b := ⟨_, rfl⟩
        rw [hb] at HN
        simp only [hb] at hat
        have Hb := Lib.hid hb
        clear hb
        by_cases he : b = c
        · have heb : (b == c) = true := by rw [he]; exact beq_self_eq_true c
          have hr : isAt s n cs = true := by
            unfold isAt
            rw [decide_eq_true hlt, Bool.true_and, List.any_eq_true]
            refine ⟨c, ?_, by rw [Hb.out, he]; exact beq_self_eq_true c⟩
            have h2 := HCD.out
            rw [List.getElem?_eq_getElem hjl, Option.getD_some] at h2
            rw [← h2]
            exact List.getElem_mem hjl
          have HR := Lib.hid hr
          clear hr
          have HE := Lib.hid he
          clear he
          go_wp2
          go_ret
          rw [HR.out]
          exact ⟨rfl, HH.out.move _⟩
        · have heb : (b == c) = false := beq_eq_false_iff_ne.2 he
          go_wp2
          go_roundg g
          case measure => omega
          case rel => exact ⟨rfl, j + 1, by go_num, by omega, Lib.hid (fun k hk => by
            rcases (show k < j ∨ k = j by omega) with h | rfl
            · rw [Hb.out]; exact HN.out k h
            · rw [HCD.out, Hb.out]; exact fun x => he x.2)⟩
      · go_wp2
        go_roundg g
        case measure => omega
        case rel => exact ⟨rfl, j + 1, by go_num, by omega, Lib.hid (fun k hk x => by omega)⟩
set_option maxHeartbeats 800000 in
theorem some_any (w W : World) (ba bp : Nat) (s : ByteArray) (p : Int) (hp0 : 0 ≤ p) (hp1 : p ≤ s.size) (hs : s.size ≤ 1000000) (H : NumSt w W ba bp s p) :
    Calls Tryd.prog 41 #[.pointer (some ⟨ba, 0, none⟩), .pointer (some ⟨bp, 0, none⟩)] W fun e W' =>
      e = .returned (.bool (decide (0 < dig (at_ s p)))) ∧ NumSt w W' ba bp s (p + dig (at_ s p)) := by
  have c1 := cell_of_one H.ha
  have c2 := cell_of_one H.hp
  have HH := Lib.hid H
  have hu : upto isDig s p = p + dig (at_ s p) := by unfold upto; rw [if_pos ⟨hp0, hp1⟩]; rfl
  have HD := Lib.hid (fun W => digits_any s p W (by omega))
  rw [hu] at HD
  obtain ⟨d, hd⟩ : ∃ d, dig (at_ s p) = d := ⟨_, rfl⟩
  rw [hd] at HD ⊢
  clear hd hu
  go_enter Tryd.func41, Tryd.ntmps41
  go_wp2_with (go_at_call 42; refine (HD.out _).mono ?_; rintro e W' ⟨rfl, hb⟩; have h2 := Lib.hid (HH.out.later hb); have c3 := cell_of_one h2.out.ha; have f3 := free_of_one h2.out.ha; clear c1 c2)
  go_ret
  exact ⟨ret_bool (by apply decide_eq_decide.2; omega), h2.out.move _⟩
theorem is_one (w W : World) (ba bp bs : Nat) (s : ByteArray) (p c : Int) (hp0 : 0 ≤ p) (hp1 : p ≤ s.size) (hs : s.size ≤ 1000000)
    (H : NumSt w W ba bp s p) (hc : W.cell? ⟨bs, 0, none⟩ = some (.int .u8 c)) :
    Calls Tryd.prog 40 #[.slice (some ⟨bs, 0, none⟩) 1 1, .pointer (some ⟨ba, 0, none⟩), .pointer (some ⟨bp, 0, none⟩)] W fun e W' =>
      e = .returned (.bool (isAt s p [c])) ∧ NumSt w W' ba bp s (mv p (isAt s p [c])) :=
  is_any w W ba bp bs s p [c] hp0 hp1 hs (by simp) H (fun j hj => by
    have hj : j < 1 := hj
    obtain rfl : j = 0 := by omega
    exact hc)
theorem is_two (w W : World) (ba bp bs : Nat) (s : ByteArray) (p c d : Int) (hp0 : 0 ≤ p) (hp1 : p ≤ s.size) (hs : s.size ≤ 1000000)
    (H : NumSt w W ba bp s p) (hc : W.cell? ⟨bs, 0, none⟩ = some (.int .u8 c)) (hd : W.cell? ⟨bs, 1, none⟩ = some (.int .u8 d)) :
    Calls Tryd.prog 40 #[.slice (some ⟨bs, 0, none⟩) 2 2, .pointer (some ⟨ba, 0, none⟩), .pointer (some ⟨bp, 0, none⟩)] W fun e W' =>
      e = .returned (.bool (isAt s p [c, d])) ∧ NumSt w W' ba bp s (mv p (isAt s p [c, d])) :=
  is_any w W ba bp bs s p [c, d] hp0 hp1 hs (by simp) H (fun j hj => by
    have hj : j < 2 := hj
    rcases (show j = 0 ∨ j = 1 by omega) with rfl | rfl
    · exact hc
    · exact hd)
theorem isAt_lt {s : ByteArray} {p : Int} {cs : List Int} (h : isAt s p cs = true) : p < s.size := by
  unfold isAt at h
  rw [Bool.and_eq_true] at h
  exact of_decide_eq_true h.1
theorem mv_le {s : ByteArray} {p : Int} (cs : List Int) (h1 : p ≤ s.size) : p ≤ mv p (isAt s p cs) ∧ mv p (isAt s p cs) ≤ s.size := by
  unfold mv
  by_cases h : isAt s p cs = true
  · rw [if_pos h]; have := isAt_lt h; omega
  · rw [if_neg h]; omega
theorem dig_le (s : ByteArray) (p : Int) (h0 : 0 ≤ p) (h1 : p ≤ s.size) : p + dig (at_ s p) ≤ s.size := by
  have := cnt_le isDig (at_ s p); have := at_length s p h0 h1; unfold dig; omega
theorem begins_any (c : Int) (w : World) (h0 : 0 ≤ c) (h1 : c ≤ 255) :
    Calls Tryd.prog 30 #[.int .u8 c] w fun e w' => e = .returned (.bool (isLet c)) ∧ w' = w := by
  go_enter Tryd.func30, Tryd.ntmps30
  go_wp2_with (go_at_call 55; refine (letter_any _ _ h0 h1).mono ?_; rintro e w' ⟨rfl, rfl⟩)
  go_ret
  exact ⟨rfl, rfl⟩
theorem NumSt.drew {w W : World} {ba bp : Nat} {s : ByteArray} {p : Int} (h : NumSt w W ba bp s p) : NumSt w W.drew ba bp s p := ⟨below_drew h.below, h.la, h.lp, h.ne, h.ha, h.hp⟩
theorem NumSt.drewN {w W : World} {ba bp : Nat} {s : ByteArray} {p : Int} (h : NumSt w W ba bp s p) (n : Nat) : NumSt w (W.drewN n) ba bp s p := ⟨below_drawn h.below n, h.la, h.lp, h.ne, h.ha, h.hp⟩
theorem NumSt.cells {w W : World} {ba bp : Nat} {s : ByteArray} {p : Int} (h : NumSt w W ba bp s p) : W.cell? ⟨ba, 0, none⟩ = some (.int .i64 p) ∧ W.cell? ⟨bp, 0, none⟩ = some (.string s) ∧ NumSt w W ba bp s p :=
  ⟨cell_of_one h.ha, cell_of_one h.hp, h⟩
end Go.Proofs.YtjgpmfjkcioinaaDoor.G
