/-
  The Builder's writers by the library's contracts: their facts stand among those of a greater laying.
-/
import Derived.Test.YtjgpmfjkcioinaaDoorPTK1
import Derived.Shelf.Strings.BuilderK
import Derived.Shelf.Strings.BuilderRune
import Derived.Lib.OthersKept
namespace Go.Proofs.YtjgpmfjkcioinaaDoor.G
open Go.RowKit Go.Proofs.YtjgpmfjkcioinaaDoorW.PrintWords Go.Proofs.YtjgpmfjkcioinaaDoor.M
set_option linter.unusedVariables false
set_option linter.unusedSimpArgs false
theorem lays_n166 : Go.Proofs.Lays.n166 Tryd.prog Tryd.lays156_ren := {
  mixed := Tryd.lays156.mixed
  f166 := Tryd.lays156.f166
  f240 := Tryd.lays156.f240
  f276 := Tryd.lays156.f276
  t0 := Tryd.lays156.t0
  a0 := Tryd.lays156.a0
  z0 := Tryd.lays156.z0
  v0 := Tryd.lays156.v0
  t3 := Tryd.lays156.t3
  a3 := Tryd.lays156.a3
  z3 := Tryd.lays156.z3
  v3 := Tryd.lays156.v3
  t4 := Tryd.lays156.t4
  a4 := Tryd.lays156.a4
  z4 := Tryd.lays156.z4
  v4 := Tryd.lays156.v4
  t9 := Tryd.lays156.t9
  a9 := Tryd.lays156.a9
  z9 := Tryd.lays156.z9
  v9 := Tryd.lays156.v9
  t20 := Tryd.lays156.t20
  a20 := Tryd.lays156.a20
  z20 := Tryd.lays156.z20
  v20 := Tryd.lays156.v20
  t37 := Tryd.lays156.t37
  a37 := Tryd.lays156.a37
  z37 := Tryd.lays156.z37
  v37 := Tryd.lays156.v37
  t70 := Tryd.lays156.t70
  a70 := Tryd.lays156.a70
  z70 := Tryd.lays156.z70
  v70 := Tryd.lays156.v70
  t72 := Tryd.lays156.t72
  a72 := Tryd.lays156.a72
  z72 := Tryd.lays156.z72
  v72 := Tryd.lays156.v72
  t75 := Tryd.lays156.t75
  a75 := Tryd.lays156.a75
  z75 := Tryd.lays156.z75
  v75 := Tryd.lays156.v75
  t164 := Tryd.lays156.t164
  a164 := Tryd.lays156.a164
  z164 := Tryd.lays156.z164
  v164 := Tryd.lays156.v164 }
theorem wstr (B b : Nat) (bs : List Value) (s : ByteArray) (w : World) (h : Lib.IsBuilderF 60 5 B b bs w) (hl : bs.length + s.size ≤ 140737488355328) (hB : B ≤ w.heap.size) :
    Calls Tryd.prog 37 #[.pointer (some ⟨b, 0, none⟩), .string s] w fun e w' => e = .returned (.tuple #[.int .i64 s.size, .nilIface]) ∧ Lib.BuilderAtF 60 5 B b (.pointer (some ⟨b, 0, none⟩)) (bs ++ Lib.strCells s) w' ∧ Below B w w' ∧ Lib.OthersKept 5 (some b) w w' :=
  Any.Builder_WriteString_k lays_n166 Tryd.Builder_Extra_156 B b bs s w h hl hB
theorem strCells_app (a b : ByteArray) : Lib.strCells (a ++ b) = Lib.strCells a ++ Lib.strCells b := by
  unfold Lib.strCells
  rw [ByteArray.data_append, Array.toList_append, List.map_append]
theorem bld_below {T e : TypeId} {B b : Nat} {p : Value} {bs : List Value} {w w' : World} (h : Lib.BuilderAtF T e B b p bs w) (hb : Below w.heap.size w w') : Lib.BuilderAtF T e B b p bs w' := by
  have hlt := h.lt
  obtain ⟨hB, v, h1, hown, hne⟩ := h
  refine ⟨hB, v, by rw [hb.block _ hlt]; exact h1, ?_, hne⟩
  obtain ⟨hl, h2⟩ := hown
  refine ⟨hl, ?_⟩
  rcases h2 with h2 | ⟨g, cap, cur, fz, rest⟩
  · exact .inl h2
  · right
    have hg : ∀ o, w.heap[g]? = some o → w'.heap[g]? = some o := fun o ho => by rw [hb.block g (Array.getElem?_eq_some_iff.1 ho).1]; exact ho
    obtain ⟨r1, r2, r3, r4⟩ := rest
    exact ⟨g, cap, cur, fz, r1, r2, hg _ r3, r4⟩
theorem bstr (B b : Nat) (S : ByteArray) (w : World) (h : Lib.IsBuilderF 60 5 B b (Lib.strCells S) w) (hBw : B ≤ w.heap.size) :
    Calls Tryd.prog 39 #[.pointer (some ⟨b, 0, none⟩)] w fun e w' => e = .returned (.string S) ∧ Below B w w' := by
  have := Any.Builder_String_any_k Tryd.lays169 Tryd.Builder_Extra_169 B b S.data.toList w h hBw
  exact this.mono fun e w' h => ⟨h.1, h.2.2.1⟩
end Go.Proofs.YtjgpmfjkcioinaaDoor.G
