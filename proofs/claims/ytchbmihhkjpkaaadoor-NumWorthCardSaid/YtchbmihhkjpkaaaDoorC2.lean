/-
  'real.Real': the walks of its two inner functions, which move the place that they share.
-/
import Derived.Test.YtchbmihhkjpkaaaDoorK1
import Derived.Test.YtchbmihhkjpkaaaDoorC1
import Derived.OneCell
import Derived.ScopeJumps
namespace Go.Proofs.YtchbmihhkjpkaaaDoor.G
open Go.RowKit Go.Proofs.YtchbmihhkjpkaaaDoorW.PrintWords Go.Proofs.YtchbmihhkjpkaaaDoor.M
set_option linter.unusedVariables false
set_option linter.unusedSimpArgs false

/-- The place and the text that Real's inner functions share. -/
structure RSt (w W : World) (ba bp : Nat) (s : ByteArray) (p : Int) : Prop where
  below : Below w.heap.size w W
  la : w.heap.size ≤ ba
  lp : w.heap.size ≤ bp
  ne : ba ≠ bp
  ha : W.heap[ba]? = some (.cells #[.int .i64 p] 3 (0, 0))
  hp : W.heap[bp]? = some (.cells #[.string s] 9 (0, 0))
theorem RSt.alloc {w W : World} {ba bp : Nat} {s : ByteArray} {p : Int} (h : RSt w W ba bp s p) (o : Obj) : RSt w (W.alloc o) ba bp s p :=
  ⟨h.below.alloc h.below.size o, h.la, h.lp, h.ne, (Below.heap_alloc W o ba (lt_of_block h.ha)).trans h.ha, (Below.heap_alloc W o bp (lt_of_block h.hp)).trans h.hp⟩
theorem RSt.later {w W W' : World} {ba bp : Nat} {s : ByteArray} {p : Int} (h : RSt w W ba bp s p) (hb : Below W.heap.size W W') : RSt w W' ba bp s p :=
  ⟨h.below.trans (hb.mono h.below.size), h.la, h.lp, h.ne, (hb.block _ (lt_of_block h.ha)).trans h.ha, (hb.block _ (lt_of_block h.hp)).trans h.hp⟩
theorem RSt.move {w W : World} {ba bp : Nat} {s : ByteArray} {p : Int} (h : RSt w W ba bp s p) (q : Int) : RSt w (W.setCell ⟨ba, 0, none⟩ (.int .i64 q)) ba bp s q :=
  ⟨h.below.setCell (p := ⟨ba, 0, none⟩) h.la _, h.la, h.lp, h.ne, one_setCell h.ha, by rw [Below.heap_setCell _ _ _ _ (fun e => h.ne e.symm)]; exact h.hp⟩
theorem dig_at_le (s : ByteArray) (n : Nat) (h : n ≤ s.size) : n + dig (at_ s n) ≤ s.size := by
  have h1 := cnt_le isDig (at_ s n)
  have h2 := at_length s n (by omega) (by omega)
  have h3 : dig (at_ s n) ≤ (at_ s n).length := h1
  omega
theorem dig_in (s : ByteArray) (n j : Nat) (h : n ≤ s.size) (hj : j < dig (at_ s n)) : 48 ≤ bt s ((n + j : Nat) : Int) ∧ bt s ((n + j : Nat) : Int) ≤ 57 := by
  have hle := dig_at_le s n h
  obtain ⟨c, q1, q2⟩ := cnt_get (p := isDig) (l := at_ s n) (k := j) hj
  have hb := bt_by s ((n + j : Nat) : Int) (by omega)
  have e : (at_ s n)[j]? = (by_ s)[n + j]? := by unfold at_; rw [List.getElem?_drop, Int.toNat_natCast]
  rw [Int.toNat_natCast, ← e, q1] at hb
  cases hb
  exact of_decide_eq_true q2
theorem dig_end (s : ByteArray) (n : Nat) (h : n ≤ s.size) (hl : n + dig (at_ s n) < s.size) : ¬ (48 ≤ bt s ((n + dig (at_ s n) : Nat) : Int) ∧ bt s ((n + dig (at_ s n) : Nat) : Int) ≤ 57) := by
  intro hc
  rcases cnt_stop isDig (at_ s n) with q | ⟨c, m, q, hcc⟩
  · have h2 := at_length s n (by omega) (by omega)
    have := List.drop_eq_nil_iff.1 q
    have h3 : (at_ s n).length ≤ dig (at_ s n) := this
    omega
  · have hb := bt_by s ((n + dig (at_ s n) : Nat) : Int) (by omega)
    have e : (at_ s n)[dig (at_ s n)]? = (by_ s)[n + dig (at_ s n)]? := by
      obtain ⟨d, hd⟩ : ∃ d, dig (at_ s n) = d := ⟨_, rfl⟩
      rw [hd]; unfold at_
      rw [List.getElem?_drop, Int.toNat_natCast]
    have e2 : (at_ s n)[dig (at_ s n)]? = some c := by
      have h0 : ((at_ s n).drop (cnt isDig (at_ s n)))[0]? = some c := by rw [q]; rfl
      rw [List.getElem?_drop, Nat.add_zero] at h0; exact h0
    rw [Int.toNat_natCast, ← e, e2] at hb
    cases hb
    have : isDig (bt s ((n + dig (at_ s n) : Nat) : Int)) = true := decide_eq_true hc
    rw [this] at hcc; cases hcc
set_option maxHeartbeats 1600000 in
theorem digits_in (w W : World) (ba bp : Nat) (s : ByteArray) (n : Nat) (hn : n ≤ s.size) (hs : s.size ≤ 140737488351232) (H : RSt w W ba bp s n) :
    Calls Tryd.prog 24 #[.pointer (some ⟨ba, 0, none⟩), .pointer (some ⟨bp, 0, none⟩)] W fun e W' =>
      e = .returned (.string (s.extract n (n + dig (at_ s n)))) ∧ RSt w W' ba bp s ((n + dig (at_ s n) : Nat) : Int) := by
  have hle := dig_at_le s n hn
  have hIn := Lib.hid (fun j => dig_in s n j hn)
  have hEnd := Lib.hid (dig_end s n hn)
  obtain ⟨d, hd⟩ : ∃ d, dig (at_ s n) = d := ⟨_, rfl⟩
  rw [hd] at hle hEnd ⊢
  simp only [hd] at hIn
  clear hd
  have c1 := cell_of_one H.ha
  have c2 := cell_of_one H.hp
  have HH := Lib.hid H
  clear H
  go_enter Tryd.func24, Tryd.ntmps24
  go_wp2
  go_loopg [] d (fun gf wx => ∃ j : Nat, j + gf = d ∧ RSt w wx ba bp s ((n + j : Nat) : Int))
  case atStart => exact ⟨0, by omega, HH.out⟩
  case round =>
    obtain ⟨j, hj, H⟩ := hrel
    clear c1 c2
    have c1 := cell_of_one H.ha
    have c2 := cell_of_one H.hp
    have f1 := free_of_one H.ha
    have HR := Lib.hid H
    clear H
    cases gk with
    | zero =>
      obtain rfl : j = d := by omega
      by_cases hlt : n + j < s.size
      · have hx := hEnd.out hlt
        have hat : ∀ h : n + j < s.size, (((s[n + j]'h).toNat : Nat) : Int) = bt s ((n + j : Nat) : Int) := fun h => bt_at s (n + j) h
        obtain ⟨b, hb⟩ : ∃ b, bt s ((n + j : Nat) : Int) = b := ⟨_, rfl⟩
        rw [hb] at hx
        simp only [hb] at hat
        clear hb hIn hEnd
        by_cases h1 : 48 ≤ b
        · have h2 : ¬ b ≤ 57 := fun q => hx ⟨h1, q⟩
          have t1 : decide (48 ≤ b) = true := decide_eq_true h1
          have t2 : decide (b ≤ 57) = false := decide_eq_false h2
          clear hx
          go_wp2
          go_ret
          exact ⟨rfl, HR.out⟩
        · have t1 : decide (48 ≤ b) = false := decide_eq_false h1
          clear hx
          go_wp2
          go_ret
          exact ⟨rfl, HR.out⟩
      · clear hIn hEnd
        go_wp2
        go_ret
        exact ⟨rfl, HR.out⟩
    | succ g =>
      have hlt : n + j < s.size := by omega
      have hx := hIn.out j (by omega)
      have hat : ∀ h : n + j < s.size, (((s[n + j]'h).toNat : Nat) : Int) = bt s ((n + j : Nat) : Int) := fun h => bt_at s (n + j) h
      obtain ⟨b, hb⟩ : ∃ b, bt s ((n + j : Nat) : Int) = b := ⟨_, rfl⟩
      rw [hb] at hx
      simp only [hb] at hat
      clear hb
      have t1 : decide (48 ≤ b) = true := decide_eq_true hx.1
      have t2 : decide (b ≤ 57) = true := decide_eq_true hx.2
      clear hx
      go_wp2
      go_roundg g
      case measure => omega
      case rel => exact ⟨j + 1, by omega, by rw [show ((n + (j + 1) : Nat) : Int) = ((n + j : Nat) : Int) + 1 by omega]; exact HR.out.move _⟩
/-- Does one of some bytes stand there? -/
def isC (s : ByteArray) (n : Nat) (cs : List UInt8) : Bool := decide (n < s.size) && cs.any fun c => bt s n == (c.toNat : Int)
def mvN (n : Nat) (b : Bool) : Nat := if b = true then n + 1 else n
theorem isC_idx (s : ByteArray) (n : Nat) (cs : List UInt8) (h : n < s.size) : isC s n cs = decide (0 ≤ Lib.indexByte cs (bt s n).toNat.toUInt8) := by
  have hat : (((s[n]'h).toNat : Nat) : Int) = bt s n := bt_at s n h
  obtain ⟨x, hx⟩ : ∃ x, s[n]'h = x := ⟨_, rfl⟩
  rw [hx] at hat
  have e : (bt s n).toNat.toUInt8 = x := by rw [← hat, Int.toNat_natCast]; simp
  have hk := Lib.contains_iff_indexByte cs x
  rw [e, ← hk]
  unfold isC
  rw [decide_eq_true h, Bool.true_and, ← hat, Bool.eq_iff_iff, List.any_eq_true, List.contains_iff_mem]
  constructor
  · rintro ⟨c, h1, h2⟩
    have : x.toNat = c.toNat := by have q := beq_iff_eq.1 h2; omega
    rw [UInt8.toNat_inj.1 this]; exact h1
  · intro h1; exact ⟨x, h1, by simp⟩
set_option maxHeartbeats 1600000 in
theorem is_in (w W : World) (ba bp : Nat) (s : ByteArray) (n : Nat) (cs : ByteArray) (hn : n ≤ s.size) (hs : s.size ≤ 140737488351232) (H : RSt w W ba bp s n) :
    Calls Tryd.prog 25 #[.string cs, .pointer (some ⟨ba, 0, none⟩), .pointer (some ⟨bp, 0, none⟩)] W fun e W' =>
      e = .returned (.bool (isC s n cs.data.toList)) ∧ RSt w W' ba bp s ((mvN n (isC s n cs.data.toList) : Nat) : Int) := by
  have c1 := cell_of_one H.ha
  have c2 := cell_of_one H.hp
  have f1 := free_of_one H.ha
  have HH := Lib.hid H
  clear H
  by_cases hlt : n < s.size
  · have hat : ∀ h : n < s.size, (((s[n]'h).toNat : Nat) : Int) = bt s (n : Int) := fun h => bt_at s n h
    have hI := fun (W : World) => Tryd.strings_IndexByte cs (bt s n) W
    have hc := isC_idx s n cs.data.toList hlt
    obtain ⟨r, hr⟩ : ∃ r, isC s n cs.data.toList = r := ⟨_, rfl⟩
    obtain ⟨k, hk⟩ : ∃ k, Lib.indexByte cs.data.toList (bt s n).toNat.toUInt8 = k := ⟨_, rfl⟩
    obtain ⟨b, hb⟩ : ∃ b, bt s (n : Int) = b := ⟨_, rfl⟩
    simp only [hk, hr] at hI hc ⊢
    simp only [hb] at hI hat
    clear hb hk hr
    cases r with
    | true =>
      have t1 : decide (0 ≤ k) = true := hc.symm
      clear hc
      go_enter Tryd.func25, Tryd.ntmps25
      go_wp2_with (go_at_call 26; refine (hI _).mono ?_; rintro e w' ⟨rfl, rfl⟩)
      go_ret
      exact ⟨rfl, HH.out.move _⟩
    | false =>
      have t1 : decide (0 ≤ k) = false := hc.symm
      clear hc
      go_enter Tryd.func25, Tryd.ntmps25
      go_wp2_with (go_at_call 26; refine (hI _).mono ?_; rintro e w' ⟨rfl, rfl⟩)
      go_ret
      exact ⟨rfl, HH.out⟩
  · have e : isC s n cs.data.toList = false := by unfold isC; rw [decide_eq_false hlt]; rfl
    rw [e]
    go_enter Tryd.func25, Tryd.ntmps25
    go_wp2
    go_ret
    exact ⟨rfl, HH.out⟩
end Go.Proofs.YtchbmihhkjpkaaaDoor.G
