/-
  'real.Real', in stages: what each tells.
-/
import Derived.Test.YtchbmihhkjpkaaaDoorC2
import Derived.Test.YtchbmihhkjpkaaaDoorRX2
import Derived.Test.YtchbmihhkjpkaaaDoorWLast
import Derived.Test.YtchbmihhkjpkaaaDoorWMore
import Derived.Lib.ConvBytes
import Derived.Lib.SmallJoins
namespace Go.Proofs.YtchbmihhkjpkaaaDoor.G
open Go.RowKit Go.Proofs.YtchbmihhkjpkaaaDoorW.PrintWords Go.Proofs.YtchbmihhkjpkaaaDoorW.PrintLast Go.Proofs.YtchbmihhkjpkaaaDoorW.PrintMore Go.Proofs.YtchbmihhkjpkaaaDoor.M
attribute [local go_sem] max2_int min2_int max_two min_two
set_option linter.unusedVariables false
set_option linter.unusedSimpArgs false

/-- What is told at the end: of the digits, the exponent, and whether all is fine. -/
def fin_ (minus : Bool) (wl pt : List Int) (x : Int) (ok : Bool) : Nat := if ok = true then sgv (M.valOf (noZero (wl ++ pt)) (x - pt.length)) minus else NANF
def stageE (t : ByteArray) (minus : Bool) (wl pt : List Int) (fine down : Bool) (n : Nat) : Nat :=
  fin_ minus wl pt (if down = true then - sat ((at_ t n).take (dig (at_ t n))) else sat ((at_ t n).take (dig (at_ t n)))) (fine && decide (0 < dig (at_ t n)) && decide (n + dig (at_ t n) = t.size))
def stageD (t : ByteArray) (minus : Bool) (wl pt : List Int) (fine : Bool) (n : Nat) : Nat :=
  if isC t n [45] = true then stageE t minus wl pt fine true (n + 1) else stageE t minus wl pt fine false (mvN n (isC t n [43]))
def stageC (t : ByteArray) (minus : Bool) (wl pt : List Int) (fine : Bool) (n : Nat) : Nat :=
  if isC t n [101, 69] = true then stageD t minus wl pt fine (n + 1) else fin_ minus wl pt 0 (fine && decide (n = t.size))
def stageB (t : ByteArray) (minus : Bool) (wl : List Int) (n : Nat) : Nat :=
  if isC t n [46] = true then stageC t minus wl ((at_ t (n + 1 : Nat)).take (dig (at_ t (n + 1 : Nat)))) (decide (0 < wl.length) && decide (0 < dig (at_ t (n + 1 : Nat)))) (n + 1 + dig (at_ t (n + 1 : Nat)))
  else stageC t minus wl [] (decide (0 < wl.length)) n
def stageA (t : ByteArray) (minus : Bool) : Nat := stageB t minus ((by_ t).take (dig (by_ t))) (dig (by_ t))
theorem bt_getD (S : ByteArray) (j : Nat) (h : j < S.size) : bt S j = ((S.data.toList.getD j 0).toNat : Int) := by
  have h1 := bt_by S j (by simpa using h)
  rw [Int.toNat_natCast] at h1
  unfold by_ at h1
  rw [List.getElem?_map] at h1
  rw [List.getD_eq_getElem?_getD]
  cases hx : S.data.toList[j]? with
  | none => rw [hx] at h1; cases h1
  | some x => rw [hx] at h1; simpa using h1.symm
theorem ne_it (x : ByteArray) : (!x.toList.isEmpty) = decide (0 < (by_ x).length) := by
  rw [Lib.toList_data, by_length]
  have : x.data.toList.length = x.size := by simp
  cases h : x.data.toList with
  | nil => rw [h] at this; rw [← this]; rfl
  | cons a r => rw [h] at this; rw [← this]; rfl
theorem trim0 (y : ByteArray) : by_ (⟨(Lib.trimLeftB y.data.toList 48).toArray⟩ : ByteArray) = noZero (by_ y) := by
  rw [by_mk]
  unfold by_ noZero Lib.trimLeftB
  generalize y.data.toList = l
  induction l with
  | nil => rfl
  | cons a r ih =>
    rw [List.map_cons, List.dropWhile_cons, List.dropWhile_cons]
    by_cases h : a = 48
    · subst h; rw [if_pos (by decide), if_pos (by decide)]; exact ih
    · have h2 : ¬ ((a.toNat : Int) = 48) := fun q => h (UInt8.toNat_inj.1 (by have : (48 : UInt8).toNat = 48 := rfl; omega))
      rw [if_neg (by simpa using h), if_neg (by simpa using h2)]; rfl
theorem valF_fin (m : List Int) (x : Int) : valF (.fin m x) = if x < 0 then (F64.div (dv m) (pw (-x).toNat)).getD 0 else (F64.mul (dv m) (pw x.toNat)).getD 0 := rfl
theorem sgv_fin (m : List Int) (x : Int) (minus : Bool) : sgv (.fin m x) minus = if minus = true then flip (valF (.fin m x)) else valF (.fin m x) := if_neg (fun h => by cases h)
theorem lt63 {r : Nat} (h : r < 2 ^ F64.width) (hs : sgn r = false) : r < 9223372036854775808 := by
  have e : 2 ^ F64.width = 18446744073709551616 := by decide
  rw [e] at h
  unfold sgn at hs
  have := beq_eq_false_iff_ne.1 hs
  omega
theorem isC_lt {s : ByteArray} {n : Nat} {cs : List UInt8} (h : isC s n cs = true) : n < s.size := by
  unfold isC at h
  rw [Bool.and_eq_true, decide_eq_true_eq] at h; exact h.1
def stepS (x c : Int) : Int := min 1000000 (10 * x + (c - 48))
def ROut (w : World) (v : Nat) (e : Ending) (w' : World) : Prop := e = .returned (.float .f64 v) ∧ Below w.heap.size w w'
end Go.Proofs.YtchbmihhkjpkaaaDoor.G
