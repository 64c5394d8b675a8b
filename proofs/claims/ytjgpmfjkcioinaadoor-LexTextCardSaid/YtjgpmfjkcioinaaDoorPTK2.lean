/-
  The Builder's writers by the library's contracts: their facts stand among those of a greater laying.
-/
import Derived.Test.YtjgpmfjkcioinaaDoorPTK1
import Derived.Shelf.Strings.BuilderK
import Derived.Shelf.Strings.BuilderRune
import Derived.Lib.OthersKept
import Derived.Test.YtjgpmfjkcioinaaDoorPTKE
namespace Go.Proofs.YtjgpmfjkcioinaaDoor.G
open Go.RowKit Go.Proofs.YtjgpmfjkcioinaaDoorW.PrintWords Go.Proofs.YtjgpmfjkcioinaaDoor.M
set_option linter.unusedVariables false
set_option linter.unusedSimpArgs false
theorem lays_n167 : Go.Proofs.Lays.n167 Tryd.prog Tryd.lays159_ren := {
  mixed := Tryd.lays159.mixed
  f167 := Tryd.lays159.f167
  f240 := Tryd.lays159.f240
  f276 := Tryd.lays159.f276
  t0 := Tryd.lays159.t0
  a0 := Tryd.lays159.a0
  z0 := Tryd.lays159.z0
  v0 := Tryd.lays159.v0
  t4 := Tryd.lays159.t4
  a4 := Tryd.lays159.a4
  z4 := Tryd.lays159.z4
  v4 := Tryd.lays159.v4
  t5 := Tryd.lays159.t5
  a5 := Tryd.lays159.a5
  z5 := Tryd.lays159.z5
  v5 := Tryd.lays159.v5
  t9 := Tryd.lays159.t9
  a9 := Tryd.lays159.a9
  z9 := Tryd.lays159.z9
  v9 := Tryd.lays159.v9
  t20 := Tryd.lays159.t20
  a20 := Tryd.lays159.a20
  z20 := Tryd.lays159.z20
  v20 := Tryd.lays159.v20
  t37 := Tryd.lays159.t37
  a37 := Tryd.lays159.a37
  z37 := Tryd.lays159.z37
  v37 := Tryd.lays159.v37
  t70 := Tryd.lays159.t70
  a70 := Tryd.lays159.a70
  z70 := Tryd.lays159.z70
  v70 := Tryd.lays159.v70
  t72 := Tryd.lays159.t72
  a72 := Tryd.lays159.a72
  z72 := Tryd.lays159.z72
  v72 := Tryd.lays159.v72
  t75 := Tryd.lays159.t75
  a75 := Tryd.lays159.a75
  z75 := Tryd.lays159.z75
  v75 := Tryd.lays159.v75
  t164 := Tryd.lays159.t164
  a164 := Tryd.lays159.a164
  z164 := Tryd.lays159.z164
  v164 := Tryd.lays159.v164 }
theorem wbyte (B b : Nat) (bs : List Value) (c : Int) (w : World) (h : Lib.IsBuilderF 60 5 B b bs w) (hl : bs.length + 1 ≤ 140737488355328) (hB : B ≤ w.heap.size) :
    Calls Tryd.prog 36 #[.pointer (some ⟨b, 0, none⟩), .int .u8 c] w fun e w' => e = .returned .nilIface ∧ Lib.BuilderAtF 60 5 B b (.pointer (some ⟨b, 0, none⟩)) (bs ++ [.int .u8 c]) w' ∧ Below B w w' ∧ Lib.OthersKept 5 (some b) w w' :=
  Any.Builder_WriteByte_k lays_n167 Tryd.Builder_Extra_159 B b bs c w h hl hB
end Go.Proofs.YtjgpmfjkcioinaaDoor.G
