/-
  fold: the functions as the laws' texts call them.
-/
import Derived.Test.YthcneciafiaphaaDoorF9
namespace Go.Proofs.YthcneciafiaphaaDoor.G
open Go.RowKit Go.Shelf Go.Proofs.YthcneciafiaphaaDoorW.PrintWords Go.Proofs.YthcneciafiaphaaDoor.M
set_option linter.unusedVariables false
set_option linter.unusedSimpArgs false

def fold_Lines.f (s : ByteArray) : Option (List ByteArray) := if s.size ≤ 2000000 then some (fls s) else none
theorem fold_Lines.calls (a0 : ByteArray) (r : List ByteArray) (w : World) (h : fold_Lines.f a0 = some r) :
    Calls Tryd.prog 14 #[.string a0] w fun e w' => ∃ v0_ : Value, e = .returned (v0_) ∧ Kd.R Kd.string 9 w' w.heap.size (fun _ => True) v0_ r ∧ Below w.heap.size w w' := by
  unfold fold_Lines.f at h
  split at h
  · rename_i hs
    cases h
    exact (flines_any a0 w hs).mono fun e w' ⟨v, he, ho, hb⟩ => ⟨v, he, Kd.R_of_own ho (fun _ _ => trivial), hb⟩
  · cases h
def fold_Raw.f (s : ByteArray) (i : Int) : Option (ByteArray × Int × Bool) := if s.size ≤ 1000000 then some (ba (rawAt s i).2.1, (rawAt s i).2.2, (rawAt s i).1) else none
theorem fold_Raw.calls (a0 : ByteArray) (a1 : Int) (r1 : ByteArray) (r2 : Int) (r3 : Bool) (w : World) (h : fold_Raw.f a0 a1 = some (r1, r2, r3)) :
    Calls Tryd.prog 11 #[.string a0, .int .i64 a1] w fun e w' => e = .returned (.tuple #[.string r1, .int .i64 r2, .bool r3]) ∧ Below w.heap.size w w' := by
  unfold fold_Raw.f at h
  split at h
  · rename_i hs; cases h; exact Raw_any a0 a1 w hs
  · cases h
def fold_Fold.f (s : ByteArray) : Option ByteArray := if s.size ≤ 2000000 then some (ba (foldL (by_ s))) else none
theorem fold_Fold.calls (a0 : ByteArray) (r : ByteArray) (w : World) (h : fold_Fold.f a0 = some r) :
    Calls Tryd.prog 18 #[.string a0] w fun e w' => e = .returned (.string r) ∧ Below w.heap.size w w' := by
  unfold fold_Fold.f at h
  split at h
  · rename_i hs; cases h; exact Fold_any a0 w hs
  · cases h
def fold_Indent.f (l0 : List ByteArray) : Option Int := if l0.length ≤ 10000000 ∧ ∀ x ∈ l0, x.size ≤ 2000000 then some (indent (l0.map by_)) else none
theorem fold_Indent.calls (A0 : Option Addr) (c0 : Nat) (l0 : List ByteArray) (r : Int) (w : World) (hr0 : Kd.C Kd.string w A0 l0.length l0) (hc0 : l0.length ≤ c0) (h : fold_Indent.f l0 = some r) :
    Calls Tryd.prog 16 #[.slice A0 l0.length c0] w fun e w' => e = .returned (.int .i64 r) ∧ Below w.heap.size w w' := by
  unfold fold_Indent.f at h
  split at h
  · rename_i hs; cases h; exact Indent_any A0 c0 l0 w hr0 hs.1 hs.2
  · cases h
end Go.Proofs.YthcneciafiaphaaDoor.G
