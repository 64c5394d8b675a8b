/-
  text: 'String', 'Escape', 'Hex', as the laws' texts call them; the tables that the cards lay.
-/
import Derived.Test.YtjgpmfjkcioinaaDoorPTE7
import Derived.Test.YtjgpmfjkcioinaaDoorPTV3
import Derived.Test.YtjgpmfjkcioinaaDoorRows
import Derived.Lib.LaidU8
import Derived.Lib.LaidCase
import Derived.LaidMore
namespace Go.Proofs.YtjgpmfjkcioinaaDoor.G
open Go.RowKit Go.Shelf Go.Proofs.YtjgpmfjkcioinaaDoorW.PrintWords Go.Proofs.YtjgpmfjkcioinaaDoor.M
set_option linter.unusedVariables false
set_option linter.unusedSimpArgs false
abbrev LW (w : World) : Prop := TE w
theorem LW.low {w W : World} (h : LW w) (hb : Below w.heap.size w W) : LW W := TE.low h hb
theorem accept_is : (Rows.laid_unicode_utf8_acceptRanges : DataW Unit) = Lib.acceptData := by kernel_rfl
theorem first_is : (Rows.laid_unicode_utf8_first : DataW Unit) = Lib.firstData := by kernel_rfl
theorem case_is : (Rows.laid_unicode_CaseRanges : DataW Unit) = Lib.caseData := by kernel_rfl
theorem U8.of_reads {W : World} {l : List (String × DataW Unit)} (h : laidMet Tryd.prog l W) (ma : ("unicode/utf8.acceptRanges", Rows.laid_unicode_utf8_acceptRanges) ∈ l) (mf : ("unicode/utf8.first", Rows.laid_unicode_utf8_first) ∈ l) :
    Lib.Utf8Tabs 3 4 W := by
  have ra := Lib.laidMet.reads h ma
  have rf := Lib.laidMet.reads h mf
  rw [accept_is] at ra
  rw [first_is] at rf
  exact utf8Tabs_of_reads (ρ := Tryd.lays260_ren) { Tryd.lays260 with } ⟨by kernel_rfl, by kernel_rfl, by kernel_rfl, by kernel_rfl, by kernel_rfl, by kernel_rfl, by kernel_rfl⟩ rf ra
theorem LW.of_reads {W : World} {l : List (String × DataW Unit)} (h : laidMet Tryd.prog l W) (ma : ("unicode/utf8.acceptRanges", Rows.laid_unicode_utf8_acceptRanges) ∈ l) (mc : ("unicode.CaseRanges", Rows.laid_unicode_CaseRanges) ∈ l)
    (mf : ("unicode/utf8.first", Rows.laid_unicode_utf8_first) ∈ l) : LW W := by
  have rc := Lib.laidMet.reads h mc
  rw [case_is] at rc
  exact ⟨U8.of_reads h ma mf, caseVar_of_reads (ρ := Tryd.lays204_ren) { Tryd.lays204 with } (by kernel_rfl) ⟨by kernel_rfl, by kernel_rfl, by kernel_rfl, by kernel_rfl, by kernel_rfl, by kernel_rfl⟩ rc⟩
abbrev laidText : List (String × DataW Unit) := [("unicode/utf8.acceptRanges", Rows.laid_unicode_utf8_acceptRanges), ("unicode.CaseRanges", Rows.laid_unicode_CaseRanges), ("unicode/utf8.first", Rows.laid_unicode_utf8_first)]
theorem LW.of {W : World} (h : laidMetH Tryd.prog laidText W) : LW W := by
  rw [MakeChecks.laidMetH_plain _ _ _ (by kernel_rfl)] at h
  exact LW.of_reads h (by simp) (by simp) (by simp)
def utf_Next.f (s : ByteArray) (i : Int) : Option (Int × Int) := if s.size ≤ 1000000 then some (nxr s i, nxn s i) else none
theorem utf_Next.calls (a0 : ByteArray) (a1 : Int) (r1 : Int) (r2 : Int) (w : World) (h : utf_Next.f a0 a1 = some (r1, r2)) :
    Calls Tryd.prog 59 #[.string a0, .int .i64 a1] w fun e w' => e = .returned (.tuple #[.int .i64 r1, .int .i64 r2]) ∧ Below w.heap.size w w' := by
  unfold utf_Next.f at h
  split at h
  · cases h; exact next_any a0 a1 w (by omega)
  · cases h
def utf_May.f (s : ByteArray) : Option Bool := if s.size ≤ 1000000 then some (mayp isc (by_ s)) else none
theorem utf_May.calls (a0 : ByteArray) (r : Bool) (w : World) (h : utf_May.f a0 = some r) :
    Calls Tryd.prog 14 #[.string a0] w fun e w' => e = .returned (.bool r) ∧ Below w.heap.size w w' := by
  unfold utf_May.f at h
  split at h
  · cases h; exact may_any a0 w (by omega)
  · cases h
def text_Hex.f (s : ByteArray) (i : Int) : Option (Int × Bool) := if s.size ≤ 1000000 then some (hexN s i, hexOk s i) else none
theorem text_Hex.calls (a0 : ByteArray) (a1 : Int) (r1 : Int) (r2 : Bool) (w : World) (h : text_Hex.f a0 a1 = some (r1, r2)) (hL : LW w) :
    Calls Tryd.prog 88 #[.string a0, .int .i64 a1] w fun e w' => e = .returned (.tuple #[.int .i64 r1, .bool r2]) ∧ Below w.heap.size w w' := by
  unfold text_Hex.f at h
  split at h
  · cases h; exact hex_any a0 a1 w (by omega) hL
  · cases h
def text_Escape.f (s : ByteArray) (i : Int) : Option (ByteArray × Int × Bool) := if s.size ≤ 1000000 then some (EsT s i, EsI s i, EsB s i) else none
def text_String.f (s : ByteArray) (i : Int) : Option (ByteArray × Int × Bool) := if s.size ≤ 1000000 then some (StT s i, StI s i, StB s i) else none
theorem text_String.calls (a0 : ByteArray) (a1 : Int) (r1 : ByteArray) (r2 : Int) (r3 : Bool) (w : World) (h : text_String.f a0 a1 = some (r1, r2, r3)) (hL : LW w) :
    Calls Tryd.prog 34 #[.string a0, .int .i64 a1] w fun e w' => e = .returned (.tuple #[.string r1, .int .i64 r2, .bool r3]) ∧ Below w.heap.size w w' := by
  unfold text_String.f at h
  split at h
  · cases h; exact String_any a0 a1 w (by omega) hL
  · cases h
end Go.Proofs.YtjgpmfjkcioinaaDoor.G
