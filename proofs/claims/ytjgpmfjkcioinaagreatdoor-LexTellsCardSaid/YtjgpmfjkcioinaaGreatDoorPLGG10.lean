/-
  The head of this seat's walks: what they import, and small words of their own.
-/
import Derived.Test.YtjgpmfjkcioinaaGreatDoorPLShelf
import Derived.Test.YtjgpmfjkcioinaaGreatDoorPLGG2
import Derived.Below
import Derived.Deep.Draws
import Derived.Deep.AppendLies
import Derived.Maps.AppendAt
import Derived.OwnWalk
import Derived.Laws.BytesArg
import Derived.Laws.MakeOwn
import Derived.Laws.OwnMore
import Derived.Deep.OwnRows
import Derived.Tactics
import Derived.Lib.ConvBytes
import Derived.Laws.Slices
import Derived.WalkKit
import Derived.KernelRfl
import Derived.RowKit3
import Derived.Deep.LoopGhost
import Derived.Deep.QuietTactic
import Derived.BigQuiet
import Derived.WideLaws
import Derived.Deep.DeepCutAuto
import Derived.Deep.CutBlock
import Derived.Deep.RegionHeld3
import Derived.Laws.Rows
import Derived.Lib.AppendStr
import Derived.ArgAppend
import Derived.Laws.IdiomCopy
import Derived.OrdersHeld
import Derived.Laws.BitsLemmas
import Derived.RowKit
import Derived.Laws.EntriesVeiled
import Derived.WalkSpells
import Derived.WalkLawsBesides
import Derived.Outline
import Derived.Lib.Hide
import Derived.OpenShut
import Derived.Shelf.Strings.BuilderK
import Derived.Shelf.Strings.BuilderRune
import Derived.Lib.OthersKept
namespace Go.Proofs.YtjgpmfjkcioinaaGreatDoor.G
open Go.RowKit Go.Proofs.YtjgpmfjkcioinaaGreatDoorW.PrintWords Go.Proofs.YtjgpmfjkcioinaaGreatDoor.M
set_option linter.unusedVariables false
set_option linter.unusedSimpArgs false
theorem ret_int {k : IntKind} {a b : Int} (h : a = b) : Ending.returned (.int k a) = .returned (.int k b) := by rw [h]
theorem ret_bool {a b : Bool} (h : a = b) : Ending.returned (.bool a) = .returned (.bool b) := by rw [h]
theorem or32 (c : Int) (h0 : 0 ≤ c) (h1 : c ≤ 255) : (97 ≤ Go.bits .or .u8 c 32 ∧ Go.bits .or .u8 c 32 ≤ 122) ↔ (65 ≤ c ∧ c ≤ 90 ∨ 97 ≤ c ∧ c ≤ 122) := by
  have key : ∀ n : Fin 256, (decide (97 ≤ Go.bits .or .u8 (n.val : Int) 32 ∧ Go.bits .or .u8 (n.val : Int) 32 ≤ 122)) = decide (65 ≤ (n.val : Int) ∧ (n.val : Int) ≤ 90 ∨ 97 ≤ (n.val : Int) ∧ (n.val : Int) ≤ 122) := by decide +kernel
  obtain ⟨n, rfl⟩ : ∃ n : Nat, c = n := ⟨c.toNat, by omega⟩
  have := key ⟨n, by omega⟩
  exact decide_eq_decide.1 this
theorem quiet_add_same {P : Program} {f : FuncId} {args : Array Value} {w : World} {a n : Nat} {v : Value}
    (h : Calls P f args (w.drewN (a + n)) fun e w' => e = .returned v ∧ w' = w.drewN (a + n)) :
    Calls P f args (w.drewN (a + n)) fun e w'' => e = .returned v ∧ ∃ m, w'' = w.drewN (a + m) :=
  h.mono fun _ _ ⟨he, hm⟩ => ⟨he, n, hm⟩
theorem quiet_same {P : Program} {f : FuncId} {args : Array Value} {w : World} {n : Nat} {v : Value}
    (h : Calls P f args (w.drewN n) fun e w' => e = .returned v ∧ w' = w.drewN n) :
    Calls P f args (w.drewN n) fun e w'' => e = .returned v ∧ ∃ m, w'' = w.drewN m :=
  h.mono fun _ _ ⟨he, hm⟩ => ⟨he, n, hm⟩
theorem below_drawn {B : Nat} {a w : World} (h : Below B a w) (n : Nat) : Below B a (w.drewN n) := ⟨h.os, h.tape, h.output, h.size, h.block⟩
end Go.Proofs.YtjgpmfjkcioinaaGreatDoor.G
namespace Go.Proofs.YtjgpmfjkcioinaaGreatDoor.G
open Go.RowKit Go.Proofs.YtjgpmfjkcioinaaGreatDoorW.PrintWords Go.Proofs.YtjgpmfjkcioinaaGreatDoor.M
set_option linter.unusedVariables false
set_option linter.unusedSimpArgs false
def ba (l : List Int) : ByteArray := ⟨(l.map fun c => c.toNat.toUInt8).toArray⟩
theorem ba_nil : ba [] = ⟨#[]⟩ := rfl
theorem by_ba {l : List Int} (h : ∀ c ∈ l, 0 ≤ c ∧ c ≤ 255) : by_ (ba l) = l := by
  unfold ba
  rw [by_mk, List.map_map]
  conv => rhs; rw [← List.map_id l]
  refine List.map_congr_left fun c hc => ?_
  have := h c hc
  show ((c.toNat.toUInt8).toNat : Int) = c
  rw [UInt8.toNat_ofNat']
  omega
theorem ba_by (s : ByteArray) : ba (by_ s) = s := by
  refine by_inj (by_ba (by_range s))
theorem ba_append (a b : List Int) : ba (a ++ b) = ba a ++ ba b := by
  unfold ba
  apply ByteArray.ext
  rw [ByteArray.data_append]
  simp
theorem ba_size (l : List Int) : (ba l).size = l.length := by
  show ((l.map fun c => c.toNat.toUInt8).toArray).size = _
  simp
end Go.Proofs.YtjgpmfjkcioinaaGreatDoor.G
namespace Go.Proofs.YtjgpmfjkcioinaaGreatDoor.G
open Go.RowKit Go.Proofs.YtjgpmfjkcioinaaGreatDoorW.PrintWords Go.Proofs.YtjgpmfjkcioinaaGreatDoor.M
set_option linter.unusedVariables false
set_option linter.unusedSimpArgs false
theorem lays_n166 : Go.Proofs.Lays.n166 Tryz.prog Tryz.lays156_ren := {
  mixed := Tryz.lays156.mixed
  f166 := Tryz.lays156.f166
  f240 := Tryz.lays156.f240
  f276 := Tryz.lays156.f276
  t0 := Tryz.lays156.t0
  a0 := Tryz.lays156.a0
  z0 := Tryz.lays156.z0
  v0 := Tryz.lays156.v0
  t3 := Tryz.lays156.t3
  a3 := Tryz.lays156.a3
  z3 := Tryz.lays156.z3
  v3 := Tryz.lays156.v3
  t4 := Tryz.lays156.t4
  a4 := Tryz.lays156.a4
  z4 := Tryz.lays156.z4
  v4 := Tryz.lays156.v4
  t9 := Tryz.lays156.t9
  a9 := Tryz.lays156.a9
  z9 := Tryz.lays156.z9
  v9 := Tryz.lays156.v9
  t20 := Tryz.lays156.t20
  a20 := Tryz.lays156.a20
  z20 := Tryz.lays156.z20
  v20 := Tryz.lays156.v20
  t37 := Tryz.lays156.t37
  a37 := Tryz.lays156.a37
  z37 := Tryz.lays156.z37
  v37 := Tryz.lays156.v37
  t70 := Tryz.lays156.t70
  a70 := Tryz.lays156.a70
  z70 := Tryz.lays156.z70
  v70 := Tryz.lays156.v70
  t72 := Tryz.lays156.t72
  a72 := Tryz.lays156.a72
  z72 := Tryz.lays156.z72
  v72 := Tryz.lays156.v72
  t75 := Tryz.lays156.t75
  a75 := Tryz.lays156.a75
  z75 := Tryz.lays156.z75
  v75 := Tryz.lays156.v75
  t164 := Tryz.lays156.t164
  a164 := Tryz.lays156.a164
  z164 := Tryz.lays156.z164
  v164 := Tryz.lays156.v164 }
theorem wstr (B b : Nat) (bs : List Value) (s : ByteArray) (w : World) (h : Lib.IsBuilderF 59 5 B b bs w) (hl : bs.length + s.size ≤ 140737488355328) (hB : B ≤ w.heap.size) :
    Calls Tryz.prog 45 #[.pointer (some ⟨b, 0, none⟩), .string s] w fun e w' => e = .returned (.tuple #[.int .i64 s.size, .nilIface]) ∧ Lib.BuilderAtF 59 5 B b (.pointer (some ⟨b, 0, none⟩)) (bs ++ Lib.strCells s) w' ∧ Below B w w' ∧ Lib.OthersKept 5 (some b) w w' :=
  Any.Builder_WriteString_k lays_n166 Tryz.Builder_Extra_156 B b bs s w h hl hB
theorem strCells_app (a b : ByteArray) : Lib.strCells (a ++ b) = Lib.strCells a ++ Lib.strCells b := by
  unfold Lib.strCells
  rw [ByteArray.data_append, Array.toList_append, List.map_append]
theorem bld_below {T e : TypeId} {B b : Nat} {p : Value} {bs : List Value} {w w' : World} (h : Lib.BuilderAtF T e B b p bs w) (hb : Below w.heap.size w w') : Lib.BuilderAtF T e B b p bs w' := by
  have hlt := h.lt
  obtain ⟨hB, v, h1, hown, hne⟩ := h
  refine ⟨hB, v, by rw [hb.block _ hlt]; exact h1, ?_, hne⟩
  obtain ⟨hl, h2⟩ := hown
  refine ⟨hl, ?_⟩
  rcases h2 with h2 | ⟨g, cap, cur, fz, rest⟩
  · exact .inl h2
  · right
    have hg : ∀ o, w.heap[g]? = some o → w'.heap[g]? = some o := fun o ho => by rw [hb.block g (Array.getElem?_eq_some_iff.1 ho).1]; exact ho
    obtain ⟨r1, r2, r3, r4⟩ := rest
    exact ⟨g, cap, cur, fz, r1, r2, hg _ r3, r4⟩
theorem bstr (B b : Nat) (S : ByteArray) (w : World) (h : Lib.IsBuilderF 59 5 B b (Lib.strCells S) w) (hBw : B ≤ w.heap.size) :
    Calls Tryz.prog 44 #[.pointer (some ⟨b, 0, none⟩)] w fun e w' => e = .returned (.string S) ∧ Below B w w' := by
  have := Any.Builder_String_any_k Tryz.lays169 Tryz.Builder_Extra_169 B b S.data.toList w h hBw
  exact this.mono fun e w' h => ⟨h.1, h.2.2.1⟩
end Go.Proofs.YtjgpmfjkcioinaaGreatDoor.G
