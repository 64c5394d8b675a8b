/-
  'quote.one': what stands for a character.
-/
import Derived.Test.YtjgpmfjkcioinaaDoorPTZ2
import Derived.Test.YtjgpmfjkcioinaaDoorPTV2
import Derived.LoopTactic
namespace Go.Proofs.YtjgpmfjkcioinaaDoor.G
open Go.RowKit Go.Proofs.YtjgpmfjkcioinaaDoorW.PrintWords Go.Proofs.YtjgpmfjkcioinaaDoor.M
set_option linter.unusedVariables false
set_option linter.unusedSimpArgs false
attribute [local irreducible] Utf8.encode Utf8.decode
def escB : List ByteArray := [⟨#[34]⟩, ⟨#[92, 34]⟩, ⟨#[92]⟩, ⟨#[92, 92]⟩, ⟨#[8]⟩, ⟨#[92, 98]⟩, ⟨#[12]⟩, ⟨#[92, 102]⟩, ⟨#[10]⟩, ⟨#[92, 110]⟩, ⟨#[13]⟩, ⟨#[92, 114]⟩, ⟨#[9]⟩, ⟨#[92, 116]⟩]
structure ES (w : World) : Prop where
  es : ∀ k : Nat, k < 14 → w.cell? ⟨1, k, none⟩ = some (.string (escB.getD k ⟨#[]⟩))
theorem ES.low {w W : World} (h : ES w) (hb : Below w.heap.size w W) : ES W :=
  ⟨fun k hk => (hb.cell (World.block_lt_of_cell? _ _ (h.es k hk))).trans (h.es k hk)⟩
theorem esc_ix0 (w : World) : (Instr.index 102 (.agg #[.string ⟨#[34]⟩, .string ⟨#[92, 34]⟩, .string ⟨#[92]⟩, .string ⟨#[92, 92]⟩, .string ⟨#[8]⟩, .string ⟨#[92, 98]⟩, .string ⟨#[12]⟩, .string ⟨#[92, 102]⟩, .string ⟨#[10]⟩, .string ⟨#[92, 110]⟩, .string ⟨#[13]⟩, .string ⟨#[92, 114]⟩, .string ⟨#[9]⟩, .string ⟨#[92, 116]⟩]) (.int .i64 0)).run Tryd.prog w = .ok (.agg #[.string ⟨#[34]⟩, .string ⟨#[92, 34]⟩]) w := by kernel_rfl
theorem esc_ix1 (w : World) : (Instr.index 102 (.agg #[.string ⟨#[34]⟩, .string ⟨#[92, 34]⟩, .string ⟨#[92]⟩, .string ⟨#[92, 92]⟩, .string ⟨#[8]⟩, .string ⟨#[92, 98]⟩, .string ⟨#[12]⟩, .string ⟨#[92, 102]⟩, .string ⟨#[10]⟩, .string ⟨#[92, 110]⟩, .string ⟨#[13]⟩, .string ⟨#[92, 114]⟩, .string ⟨#[9]⟩, .string ⟨#[92, 116]⟩]) (.int .i64 1)).run Tryd.prog w = .ok (.agg #[.string ⟨#[92]⟩, .string ⟨#[92, 92]⟩]) w := by kernel_rfl
theorem esc_ix2 (w : World) : (Instr.index 102 (.agg #[.string ⟨#[34]⟩, .string ⟨#[92, 34]⟩, .string ⟨#[92]⟩, .string ⟨#[92, 92]⟩, .string ⟨#[8]⟩, .string ⟨#[92, 98]⟩, .string ⟨#[12]⟩, .string ⟨#[92, 102]⟩, .string ⟨#[10]⟩, .string ⟨#[92, 110]⟩, .string ⟨#[13]⟩, .string ⟨#[92, 114]⟩, .string ⟨#[9]⟩, .string ⟨#[92, 116]⟩]) (.int .i64 2)).run Tryd.prog w = .ok (.agg #[.string ⟨#[8]⟩, .string ⟨#[92, 98]⟩]) w := by kernel_rfl
theorem esc_ix3 (w : World) : (Instr.index 102 (.agg #[.string ⟨#[34]⟩, .string ⟨#[92, 34]⟩, .string ⟨#[92]⟩, .string ⟨#[92, 92]⟩, .string ⟨#[8]⟩, .string ⟨#[92, 98]⟩, .string ⟨#[12]⟩, .string ⟨#[92, 102]⟩, .string ⟨#[10]⟩, .string ⟨#[92, 110]⟩, .string ⟨#[13]⟩, .string ⟨#[92, 114]⟩, .string ⟨#[9]⟩, .string ⟨#[92, 116]⟩]) (.int .i64 3)).run Tryd.prog w = .ok (.agg #[.string ⟨#[12]⟩, .string ⟨#[92, 102]⟩]) w := by kernel_rfl
theorem esc_ix4 (w : World) : (Instr.index 102 (.agg #[.string ⟨#[34]⟩, .string ⟨#[92, 34]⟩, .string ⟨#[92]⟩, .string ⟨#[92, 92]⟩, .string ⟨#[8]⟩, .string ⟨#[92, 98]⟩, .string ⟨#[12]⟩, .string ⟨#[92, 102]⟩, .string ⟨#[10]⟩, .string ⟨#[92, 110]⟩, .string ⟨#[13]⟩, .string ⟨#[92, 114]⟩, .string ⟨#[9]⟩, .string ⟨#[92, 116]⟩]) (.int .i64 4)).run Tryd.prog w = .ok (.agg #[.string ⟨#[10]⟩, .string ⟨#[92, 110]⟩]) w := by kernel_rfl
theorem esc_ix5 (w : World) : (Instr.index 102 (.agg #[.string ⟨#[34]⟩, .string ⟨#[92, 34]⟩, .string ⟨#[92]⟩, .string ⟨#[92, 92]⟩, .string ⟨#[8]⟩, .string ⟨#[92, 98]⟩, .string ⟨#[12]⟩, .string ⟨#[92, 102]⟩, .string ⟨#[10]⟩, .string ⟨#[92, 110]⟩, .string ⟨#[13]⟩, .string ⟨#[92, 114]⟩, .string ⟨#[9]⟩, .string ⟨#[92, 116]⟩]) (.int .i64 5)).run Tryd.prog w = .ok (.agg #[.string ⟨#[13]⟩, .string ⟨#[92, 114]⟩]) w := by kernel_rfl
theorem esc_ix6 (w : World) : (Instr.index 102 (.agg #[.string ⟨#[34]⟩, .string ⟨#[92, 34]⟩, .string ⟨#[92]⟩, .string ⟨#[92, 92]⟩, .string ⟨#[8]⟩, .string ⟨#[92, 98]⟩, .string ⟨#[12]⟩, .string ⟨#[92, 102]⟩, .string ⟨#[10]⟩, .string ⟨#[92, 110]⟩, .string ⟨#[13]⟩, .string ⟨#[92, 114]⟩, .string ⟨#[9]⟩, .string ⟨#[92, 116]⟩]) (.int .i64 6)).run Tryd.prog w = .ok (.agg #[.string ⟨#[9]⟩, .string ⟨#[92, 116]⟩]) w := by kernel_rfl
set_option maxHeartbeats 4000000 in
set_option maxRecDepth 100000 in
theorem one_0 (r : Int) (E : ByteArray) (w : World) (hS : ES w) (hE : Utf8.encode r = E) (h0 : ([34] == E.toList) = true) :
    Calls Tryd.prog 38 #[.int .i32 r] w fun e w' => e = .returned (.string ⟨#[92, 34]⟩) ∧ Below w.heap.size w w' := by
  have g0 : w.cell? ⟨1, 0, none⟩ = some (.string ⟨#[34]⟩) := hS.es 0 (by decide)
  have g1 : w.cell? ⟨1, 1, none⟩ = some (.string ⟨#[92, 34]⟩) := hS.es 1 (by decide)
  have g2 : w.cell? ⟨1, 2, none⟩ = some (.string ⟨#[92]⟩) := hS.es 2 (by decide)
  have g3 : w.cell? ⟨1, 3, none⟩ = some (.string ⟨#[92, 92]⟩) := hS.es 3 (by decide)
  have g4 : w.cell? ⟨1, 4, none⟩ = some (.string ⟨#[8]⟩) := hS.es 4 (by decide)
  have g5 : w.cell? ⟨1, 5, none⟩ = some (.string ⟨#[92, 98]⟩) := hS.es 5 (by decide)
  have g6 : w.cell? ⟨1, 6, none⟩ = some (.string ⟨#[12]⟩) := hS.es 6 (by decide)
  have g7 : w.cell? ⟨1, 7, none⟩ = some (.string ⟨#[92, 102]⟩) := hS.es 7 (by decide)
  have g8 : w.cell? ⟨1, 8, none⟩ = some (.string ⟨#[10]⟩) := hS.es 8 (by decide)
  have g9 : w.cell? ⟨1, 9, none⟩ = some (.string ⟨#[92, 110]⟩) := hS.es 9 (by decide)
  have g10 : w.cell? ⟨1, 10, none⟩ = some (.string ⟨#[13]⟩) := hS.es 10 (by decide)
  have g11 : w.cell? ⟨1, 11, none⟩ = some (.string ⟨#[92, 114]⟩) := hS.es 11 (by decide)
  have g12 : w.cell? ⟨1, 12, none⟩ = some (.string ⟨#[9]⟩) := hS.es 12 (by decide)
  have g13 : w.cell? ⟨1, 13, none⟩ = some (.string ⟨#[92, 116]⟩) := hS.es 13 (by decide)
  have x0 := esc_ix0
  have x1 := esc_ix1
  have x2 := esc_ix2
  have x3 := esc_ix3
  have x4 := esc_ix4
  have x5 := esc_ix5
  have x6 := esc_ix6
  go_enter Tryd.func38, Tryd.ntmps38
  go_wp2
  go_loopw [6] (fun i wr => ∃ j : Nat, j ≤ 0 ∧ i = .int .i64 (j : Int) ∧ Below w.heap.size w wr) (fun i _ => 8 - (intOf i).toNat)
  case atStart => exact ⟨0, Nat.zero_le _, rfl, Below.refl _ _⟩
  case round =>
    obtain ⟨j, hj, rfl, hnx⟩ := hrel
    have hsize := hnx.size
    rcases (show j = 0 from by omega) with rfl
    · go_wp2
      go_ret
      exact ⟨rfl, hnx.alloc hsize _⟩
set_option maxHeartbeats 4000000 in
set_option maxRecDepth 100000 in
theorem one_1 (r : Int) (E : ByteArray) (w : World) (hS : ES w) (hE : Utf8.encode r = E) (h0 : ([34] == E.toList) = false) (h1 : ([92] == E.toList) = true) :
    Calls Tryd.prog 38 #[.int .i32 r] w fun e w' => e = .returned (.string ⟨#[92, 92]⟩) ∧ Below w.heap.size w w' := by
  have g0 : w.cell? ⟨1, 0, none⟩ = some (.string ⟨#[34]⟩) := hS.es 0 (by decide)
  have g1 : w.cell? ⟨1, 1, none⟩ = some (.string ⟨#[92, 34]⟩) := hS.es 1 (by decide)
  have g2 : w.cell? ⟨1, 2, none⟩ = some (.string ⟨#[92]⟩) := hS.es 2 (by decide)
  have g3 : w.cell? ⟨1, 3, none⟩ = some (.string ⟨#[92, 92]⟩) := hS.es 3 (by decide)
  have g4 : w.cell? ⟨1, 4, none⟩ = some (.string ⟨#[8]⟩) := hS.es 4 (by decide)
  have g5 : w.cell? ⟨1, 5, none⟩ = some (.string ⟨#[92, 98]⟩) := hS.es 5 (by decide)
  have g6 : w.cell? ⟨1, 6, none⟩ = some (.string ⟨#[12]⟩) := hS.es 6 (by decide)
  have g7 : w.cell? ⟨1, 7, none⟩ = some (.string ⟨#[92, 102]⟩) := hS.es 7 (by decide)
  have g8 : w.cell? ⟨1, 8, none⟩ = some (.string ⟨#[10]⟩) := hS.es 8 (by decide)
  have g9 : w.cell? ⟨1, 9, none⟩ = some (.string ⟨#[92, 110]⟩) := hS.es 9 (by decide)
  have g10 : w.cell? ⟨1, 10, none⟩ = some (.string ⟨#[13]⟩) := hS.es 10 (by decide)
  have g11 : w.cell? ⟨1, 11, none⟩ = some (.string ⟨#[92, 114]⟩) := hS.es 11 (by decide)
  have g12 : w.cell? ⟨1, 12, none⟩ = some (.string ⟨#[9]⟩) := hS.es 12 (by decide)
  have g13 : w.cell? ⟨1, 13, none⟩ = some (.string ⟨#[92, 116]⟩) := hS.es 13 (by decide)
  have x0 := esc_ix0
  have x1 := esc_ix1
  have x2 := esc_ix2
  have x3 := esc_ix3
  have x4 := esc_ix4
  have x5 := esc_ix5
  have x6 := esc_ix6
  go_enter Tryd.func38, Tryd.ntmps38
  go_wp2
  go_loopw [6] (fun i wr => ∃ j : Nat, j ≤ 1 ∧ i = .int .i64 (j : Int) ∧ Below w.heap.size w wr) (fun i _ => 8 - (intOf i).toNat)
  case atStart => exact ⟨0, Nat.zero_le _, rfl, Below.refl _ _⟩
  case round =>
    obtain ⟨j, hj, rfl, hnx⟩ := hrel
    have hsize := hnx.size
    rcases (show j = 0 ∨ j = 1 from by omega) with rfl | rfl
    · go_wp2
      go_roundw
      case rel => exact ⟨1, by omega, by first | rfl | simp, hnx.alloc hsize _⟩
      case measure => simp [intOf]
    · go_wp2
      go_ret
      exact ⟨rfl, hnx.alloc hsize _⟩
set_option maxHeartbeats 4000000 in
set_option maxRecDepth 100000 in
theorem one_2 (r : Int) (E : ByteArray) (w : World) (hS : ES w) (hE : Utf8.encode r = E) (h0 : ([34] == E.toList) = false) (h1 : ([92] == E.toList) = false) (h2 : ([8] == E.toList) = true) :
    Calls Tryd.prog 38 #[.int .i32 r] w fun e w' => e = .returned (.string ⟨#[92, 98]⟩) ∧ Below w.heap.size w w' := by
  have g0 : w.cell? ⟨1, 0, none⟩ = some (.string ⟨#[34]⟩) := hS.es 0 (by decide)
  have g1 : w.cell? ⟨1, 1, none⟩ = some (.string ⟨#[92, 34]⟩) := hS.es 1 (by decide)
  have g2 : w.cell? ⟨1, 2, none⟩ = some (.string ⟨#[92]⟩) := hS.es 2 (by decide)
  have g3 : w.cell? ⟨1, 3, none⟩ = some (.string ⟨#[92, 92]⟩) := hS.es 3 (by decide)
  have g4 : w.cell? ⟨1, 4, none⟩ = some (.string ⟨#[8]⟩) := hS.es 4 (by decide)
  have g5 : w.cell? ⟨1, 5, none⟩ = some (.string ⟨#[92, 98]⟩) := hS.es 5 (by decide)
  have g6 : w.cell? ⟨1, 6, none⟩ = some (.string ⟨#[12]⟩) := hS.es 6 (by decide)
  have g7 : w.cell? ⟨1, 7, none⟩ = some (.string ⟨#[92, 102]⟩) := hS.es 7 (by decide)
  have g8 : w.cell? ⟨1, 8, none⟩ = some (.string ⟨#[10]⟩) := hS.es 8 (by decide)
  have g9 : w.cell? ⟨1, 9, none⟩ = some (.string ⟨#[92, 110]⟩) := hS.es 9 (by decide)
  have g10 : w.cell? ⟨1, 10, none⟩ = some (.string ⟨#[13]⟩) := hS.es 10 (by decide)
  have g11 : w.cell? ⟨1, 11, none⟩ = some (.string ⟨#[92, 114]⟩) := hS.es 11 (by decide)
  have g12 : w.cell? ⟨1, 12, none⟩ = some (.string ⟨#[9]⟩) := hS.es 12 (by decide)
  have g13 : w.cell? ⟨1, 13, none⟩ = some (.string ⟨#[92, 116]⟩) := hS.es 13 (by decide)
  have x0 := esc_ix0
  have x1 := esc_ix1
  have x2 := esc_ix2
  have x3 := esc_ix3
  have x4 := esc_ix4
  have x5 := esc_ix5
  have x6 := esc_ix6
  go_enter Tryd.func38, Tryd.ntmps38
  go_wp2
  go_loopw [6] (fun i wr => ∃ j : Nat, j ≤ 2 ∧ i = .int .i64 (j : Int) ∧ Below w.heap.size w wr) (fun i _ => 8 - (intOf i).toNat)
  case atStart => exact ⟨0, Nat.zero_le _, rfl, Below.refl _ _⟩
  case round =>
    obtain ⟨j, hj, rfl, hnx⟩ := hrel
    have hsize := hnx.size
    rcases (show j = 0 ∨ j = 1 ∨ j = 2 from by omega) with rfl | rfl | rfl
    · go_wp2
      go_roundw
      case rel => exact ⟨1, by omega, by first | rfl | simp, hnx.alloc hsize _⟩
      case measure => simp [intOf]
    · go_wp2
      go_roundw
      case rel => exact ⟨2, by omega, by first | rfl | simp, hnx.alloc hsize _⟩
      case measure => simp [intOf]
    · go_wp2
      go_ret
      exact ⟨rfl, hnx.alloc hsize _⟩
set_option maxHeartbeats 4000000 in
set_option maxRecDepth 100000 in
theorem one_3 (r : Int) (E : ByteArray) (w : World) (hS : ES w) (hE : Utf8.encode r = E) (h0 : ([34] == E.toList) = false) (h1 : ([92] == E.toList) = false) (h2 : ([8] == E.toList) = false) (h3 : ([12] == E.toList) = true) :
    Calls Tryd.prog 38 #[.int .i32 r] w fun e w' => e = .returned (.string ⟨#[92, 102]⟩) ∧ Below w.heap.size w w' := by
  have g0 : w.cell? ⟨1, 0, none⟩ = some (.string ⟨#[34]⟩) := hS.es 0 (by decide)
  have g1 : w.cell? ⟨1, 1, none⟩ = some (.string ⟨#[92, 34]⟩) := hS.es 1 (by decide)
  have g2 : w.cell? ⟨1, 2, none⟩ = some (.string ⟨#[92]⟩) := hS.es 2 (by decide)
  have g3 : w.cell? ⟨1, 3, none⟩ = some (.string ⟨#[92, 92]⟩) := hS.es 3 (by decide)
  have g4 : w.cell? ⟨1, 4, none⟩ = some (.string ⟨#[8]⟩) := hS.es 4 (by decide)
  have g5 : w.cell? ⟨1, 5, none⟩ = some (.string ⟨#[92, 98]⟩) := hS.es 5 (by decide)
  have g6 : w.cell? ⟨1, 6, none⟩ = some (.string ⟨#[12]⟩) := hS.es 6 (by decide)
  have g7 : w.cell? ⟨1, 7, none⟩ = some (.string ⟨#[92, 102]⟩) := hS.es 7 (by decide)
  have g8 : w.cell? ⟨1, 8, none⟩ = some (.string ⟨#[10]⟩) := hS.es 8 (by decide)
  have g9 : w.cell? ⟨1, 9, none⟩ = some (.string ⟨#[92, 110]⟩) := hS.es 9 (by decide)
  have g10 : w.cell? ⟨1, 10, none⟩ = some (.string ⟨#[13]⟩) := hS.es 10 (by decide)
  have g11 : w.cell? ⟨1, 11, none⟩ = some (.string ⟨#[92, 114]⟩) := hS.es 11 (by decide)
  have g12 : w.cell? ⟨1, 12, none⟩ = some (.string ⟨#[9]⟩) := hS.es 12 (by decide)
  have g13 : w.cell? ⟨1, 13, none⟩ = some (.string ⟨#[92, 116]⟩) := hS.es 13 (by decide)
  have x0 := esc_ix0
  have x1 := esc_ix1
  have x2 := esc_ix2
  have x3 := esc_ix3
  have x4 := esc_ix4
  have x5 := esc_ix5
  have x6 := esc_ix6
  go_enter Tryd.func38, Tryd.ntmps38
  go_wp2
  go_loopw [6] (fun i wr => ∃ j : Nat, j ≤ 3 ∧ i = .int .i64 (j : Int) ∧ Below w.heap.size w wr) (fun i _ => 8 - (intOf i).toNat)
  case atStart => exact ⟨0, Nat.zero_le _, rfl, Below.refl _ _⟩
  case round =>
    obtain ⟨j, hj, rfl, hnx⟩ := hrel
    have hsize := hnx.size
    rcases (show j = 0 ∨ j = 1 ∨ j = 2 ∨ j = 3 from by omega) with rfl | rfl | rfl | rfl
    · go_wp2
      go_roundw
      case rel => exact ⟨1, by omega, by first | rfl | simp, hnx.alloc hsize _⟩
      case measure => simp [intOf]
    · go_wp2
      go_roundw
      case rel => exact ⟨2, by omega, by first | rfl | simp, hnx.alloc hsize _⟩
      case measure => simp [intOf]
    · go_wp2
      go_roundw
      case rel => exact ⟨3, by omega, by first | rfl | simp, hnx.alloc hsize _⟩
      case measure => simp [intOf]
    · go_wp2
      go_ret
      exact ⟨rfl, hnx.alloc hsize _⟩
set_option maxHeartbeats 4000000 in
set_option maxRecDepth 100000 in
theorem one_4 (r : Int) (E : ByteArray) (w : World) (hS : ES w) (hE : Utf8.encode r = E) (h0 : ([34] == E.toList) = false) (h1 : ([92] == E.toList) = false) (h2 : ([8] == E.toList) = false) (h3 : ([12] == E.toList) = false) (h4 : ([10] == E.toList) = true) :
    Calls Tryd.prog 38 #[.int .i32 r] w fun e w' => e = .returned (.string ⟨#[92, 110]⟩) ∧ Below w.heap.size w w' := by
  have g0 : w.cell? ⟨1, 0, none⟩ = some (.string ⟨#[34]⟩) := hS.es 0 (by decide)
  have g1 : w.cell? ⟨1, 1, none⟩ = some (.string ⟨#[92, 34]⟩) := hS.es 1 (by decide)
  have g2 : w.cell? ⟨1, 2, none⟩ = some (.string ⟨#[92]⟩) := hS.es 2 (by decide)
  have g3 : w.cell? ⟨1, 3, none⟩ = some (.string ⟨#[92, 92]⟩) := hS.es 3 (by decide)
  have g4 : w.cell? ⟨1, 4, none⟩ = some (.string ⟨#[8]⟩) := hS.es 4 (by decide)
  have g5 : w.cell? ⟨1, 5, none⟩ = some (.string ⟨#[92, 98]⟩) := hS.es 5 (by decide)
  have g6 : w.cell? ⟨1, 6, none⟩ = some (.string ⟨#[12]⟩) := hS.es 6 (by decide)
  have g7 : w.cell? ⟨1, 7, none⟩ = some (.string ⟨#[92, 102]⟩) := hS.es 7 (by decide)
  have g8 : w.cell? ⟨1, 8, none⟩ = some (.string ⟨#[10]⟩) := hS.es 8 (by decide)
  have g9 : w.cell? ⟨1, 9, none⟩ = some (.string ⟨#[92, 110]⟩) := hS.es 9 (by decide)
  have g10 : w.cell? ⟨1, 10, none⟩ = some (.string ⟨#[13]⟩) := hS.es 10 (by decide)
  have g11 : w.cell? ⟨1, 11, none⟩ = some (.string ⟨#[92, 114]⟩) := hS.es 11 (by decide)
  have g12 : w.cell? ⟨1, 12, none⟩ = some (.string ⟨#[9]⟩) := hS.es 12 (by decide)
  have g13 : w.cell? ⟨1, 13, none⟩ = some (.string ⟨#[92, 116]⟩) := hS.es 13 (by decide)
  have x0 := esc_ix0
  have x1 := esc_ix1
  have x2 := esc_ix2
  have x3 := esc_ix3
  have x4 := esc_ix4
  have x5 := esc_ix5
  have x6 := esc_ix6
  go_enter Tryd.func38, Tryd.ntmps38
  go_wp2
  go_loopw [6] (fun i wr => ∃ j : Nat, j ≤ 4 ∧ i = .int .i64 (j : Int) ∧ Below w.heap.size w wr) (fun i _ => 8 - (intOf i).toNat)
  case atStart => exact ⟨0, Nat.zero_le _, rfl, Below.refl _ _⟩
  case round =>
    obtain ⟨j, hj, rfl, hnx⟩ := hrel
    have hsize := hnx.size
    rcases (show j = 0 ∨ j = 1 ∨ j = 2 ∨ j = 3 ∨ j = 4 from by omega) with rfl | rfl | rfl | rfl | rfl
    · go_wp2
      go_roundw
      case rel => exact ⟨1, by omega, by first | rfl | simp, hnx.alloc hsize _⟩
      case measure => simp [intOf]
    · go_wp2
      go_roundw
      case rel => exact ⟨2, by omega, by first | rfl | simp, hnx.alloc hsize _⟩
      case measure => simp [intOf]
    · go_wp2
      go_roundw
      case rel => exact ⟨3, by omega, by first | rfl | simp, hnx.alloc hsize _⟩
      case measure => simp [intOf]
    · go_wp2
      go_roundw
      case rel => exact ⟨4, by omega, by first | rfl | simp, hnx.alloc hsize _⟩
      case measure => simp [intOf]
    · go_wp2
      go_ret
      exact ⟨rfl, hnx.alloc hsize _⟩
set_option maxHeartbeats 4000000 in
set_option maxRecDepth 100000 in
theorem one_5 (r : Int) (E : ByteArray) (w : World) (hS : ES w) (hE : Utf8.encode r = E) (h0 : ([34] == E.toList) = false) (h1 : ([92] == E.toList) = false) (h2 : ([8] == E.toList) = false) (h3 : ([12] == E.toList) = false) (h4 : ([10] == E.toList) = false) (h5 : ([13] == E.toList) = true) :
    Calls Tryd.prog 38 #[.int .i32 r] w fun e w' => e = .returned (.string ⟨#[92, 114]⟩) ∧ Below w.heap.size w w' := by
  have g0 : w.cell? ⟨1, 0, none⟩ = some (.string ⟨#[34]⟩) := hS.es 0 (by decide)
  have g1 : w.cell? ⟨1, 1, none⟩ = some (.string ⟨#[92, 34]⟩) := hS.es 1 (by decide)
  have g2 : w.cell? ⟨1, 2, none⟩ = some (.string ⟨#[92]⟩) := hS.es 2 (by decide)
  have g3 : w.cell? ⟨1, 3, none⟩ = some (.string ⟨#[92, 92]⟩) := hS.es 3 (by decide)
  have g4 : w.cell? ⟨1, 4, none⟩ = some (.string ⟨#[8]⟩) := hS.es 4 (by decide)
  have g5 : w.cell? ⟨1, 5, none⟩ = some (.string ⟨#[92, 98]⟩) := hS.es 5 (by decide)
  have g6 : w.cell? ⟨1, 6, none⟩ = some (.string ⟨#[12]⟩) := hS.es 6 (by decide)
  have g7 : w.cell? ⟨1, 7, none⟩ = some (.string ⟨#[92, 102]⟩) := hS.es 7 (by decide)
  have g8 : w.cell? ⟨1, 8, none⟩ = some (.string ⟨#[10]⟩) := hS.es 8 (by decide)
  have g9 : w.cell? ⟨1, 9, none⟩ = some (.string ⟨#[92, 110]⟩) := hS.es 9 (by decide)
  have g10 : w.cell? ⟨1, 10, none⟩ = some (.string ⟨#[13]⟩) := hS.es 10 (by decide)
  have g11 : w.cell? ⟨1, 11, none⟩ = some (.string ⟨#[92, 114]⟩) := hS.es 11 (by decide)
  have g12 : w.cell? ⟨1, 12, none⟩ = some (.string ⟨#[9]⟩) := hS.es 12 (by decide)
  have g13 : w.cell? ⟨1, 13, none⟩ = some (.string ⟨#[92, 116]⟩) := hS.es 13 (by decide)
  have x0 := esc_ix0
  have x1 := esc_ix1
  have x2 := esc_ix2
  have x3 := esc_ix3
  have x4 := esc_ix4
  have x5 := esc_ix5
  have x6 := esc_ix6
  go_enter Tryd.func38, Tryd.ntmps38
  go_wp2
  go_loopw [6] (fun i wr => ∃ j : Nat, j ≤ 5 ∧ i = .int .i64 (j : Int) ∧ Below w.heap.size w wr) (fun i _ => 8 - (intOf i).toNat)
  case atStart => exact ⟨0, Nat.zero_le _, rfl, Below.refl _ _⟩
  case round =>
    obtain ⟨j, hj, rfl, hnx⟩ := hrel
    have hsize := hnx.size
    rcases (show j = 0 ∨ j = 1 ∨ j = 2 ∨ j = 3 ∨ j = 4 ∨ j = 5 from by omega) with rfl | rfl | rfl | rfl | rfl | rfl
    · go_wp2
      go_roundw
      case rel => exact ⟨1, by omega, by first | rfl | simp, hnx.alloc hsize _⟩
      case measure => simp [intOf]
    · go_wp2
      go_roundw
      case rel => exact ⟨2, by omega, by first | rfl | simp, hnx.alloc hsize _⟩
      case measure => simp [intOf]
    · go_wp2
      go_roundw
      case rel => exact ⟨3, by omega, by first | rfl | simp, hnx.alloc hsize _⟩
      case measure => simp [intOf]
    · go_wp2
      go_roundw
      case rel => exact ⟨4, by omega, by first | rfl | simp, hnx.alloc hsize _⟩
      case measure => simp [intOf]
    · go_wp2
      go_roundw
      case rel => exact ⟨5, by omega, by first | rfl | simp, hnx.alloc hsize _⟩
      case measure => simp [intOf]
    · go_wp2
      go_ret
      exact ⟨rfl, hnx.alloc hsize _⟩
set_option maxHeartbeats 4000000 in
set_option maxRecDepth 100000 in
theorem one_6 (r : Int) (E : ByteArray) (w : World) (hS : ES w) (hE : Utf8.encode r = E) (h0 : ([34] == E.toList) = false) (h1 : ([92] == E.toList) = false) (h2 : ([8] == E.toList) = false) (h3 : ([12] == E.toList) = false) (h4 : ([10] == E.toList) = false) (h5 : ([13] == E.toList) = false) (h6 : ([9] == E.toList) = true) :
    Calls Tryd.prog 38 #[.int .i32 r] w fun e w' => e = .returned (.string ⟨#[92, 116]⟩) ∧ Below w.heap.size w w' := by
  have g0 : w.cell? ⟨1, 0, none⟩ = some (.string ⟨#[34]⟩) := hS.es 0 (by decide)
  have g1 : w.cell? ⟨1, 1, none⟩ = some (.string ⟨#[92, 34]⟩) := hS.es 1 (by decide)
  have g2 : w.cell? ⟨1, 2, none⟩ = some (.string ⟨#[92]⟩) := hS.es 2 (by decide)
  have g3 : w.cell? ⟨1, 3, none⟩ = some (.string ⟨#[92, 92]⟩) := hS.es 3 (by decide)
  have g4 : w.cell? ⟨1, 4, none⟩ = some (.string ⟨#[8]⟩) := hS.es 4 (by decide)
  have g5 : w.cell? ⟨1, 5, none⟩ = some (.string ⟨#[92, 98]⟩) := hS.es 5 (by decide)
  have g6 : w.cell? ⟨1, 6, none⟩ = some (.string ⟨#[12]⟩) := hS.es 6 (by decide)
  have g7 : w.cell? ⟨1, 7, none⟩ = some (.string ⟨#[92, 102]⟩) := hS.es 7 (by decide)
  have g8 : w.cell? ⟨1, 8, none⟩ = some (.string ⟨#[10]⟩) := hS.es 8 (by decide)
  have g9 : w.cell? ⟨1, 9, none⟩ = some (.string ⟨#[92, 110]⟩) := hS.es 9 (by decide)
  have g10 : w.cell? ⟨1, 10, none⟩ = some (.string ⟨#[13]⟩) := hS.es 10 (by decide)
  have g11 : w.cell? ⟨1, 11, none⟩ = some (.string ⟨#[92, 114]⟩) := hS.es 11 (by decide)
  have g12 : w.cell? ⟨1, 12, none⟩ = some (.string ⟨#[9]⟩) := hS.es 12 (by decide)
  have g13 : w.cell? ⟨1, 13, none⟩ = some (.string ⟨#[92, 116]⟩) := hS.es 13 (by decide)
  have x0 := esc_ix0
  have x1 := esc_ix1
  have x2 := esc_ix2
  have x3 := esc_ix3
  have x4 := esc_ix4
  have x5 := esc_ix5
  have x6 := esc_ix6
  go_enter Tryd.func38, Tryd.ntmps38
  go_wp2
  go_loopw [6] (fun i wr => ∃ j : Nat, j ≤ 6 ∧ i = .int .i64 (j : Int) ∧ Below w.heap.size w wr) (fun i _ => 8 - (intOf i).toNat)
  case atStart => exact ⟨0, Nat.zero_le _, rfl, Below.refl _ _⟩
  case round =>
    obtain ⟨j, hj, rfl, hnx⟩ := hrel
    have hsize := hnx.size
    rcases (show j = 0 ∨ j = 1 ∨ j = 2 ∨ j = 3 ∨ j = 4 ∨ j = 5 ∨ j = 6 from by omega) with rfl | rfl | rfl | rfl | rfl | rfl | rfl
    · go_wp2
      go_roundw
      case rel => exact ⟨1, by omega, by first | rfl | simp, hnx.alloc hsize _⟩
      case measure => simp [intOf]
    · go_wp2
      go_roundw
      case rel => exact ⟨2, by omega, by first | rfl | simp, hnx.alloc hsize _⟩
      case measure => simp [intOf]
    · go_wp2
      go_roundw
      case rel => exact ⟨3, by omega, by first | rfl | simp, hnx.alloc hsize _⟩
      case measure => simp [intOf]
    · go_wp2
      go_roundw
      case rel => exact ⟨4, by omega, by first | rfl | simp, hnx.alloc hsize _⟩
      case measure => simp [intOf]
    · go_wp2
      go_roundw
      case rel => exact ⟨5, by omega, by first | rfl | simp, hnx.alloc hsize _⟩
      case measure => simp [intOf]
    · go_wp2
      go_roundw
      case rel => exact ⟨6, by omega, by first | rfl | simp, hnx.alloc hsize _⟩
      case measure => simp [intOf]
    · go_wp2
      go_ret
      exact ⟨rfl, hnx.alloc hsize _⟩
set_option maxHeartbeats 4000000 in
set_option maxRecDepth 100000 in
theorem one_p (r : Int) (E : ByteArray) (w : World) (hS : ES w) (hE : Utf8.encode r = E) (h0 : ([34] == E.toList) = false) (h1 : ([92] == E.toList) = false) (h2 : ([8] == E.toList) = false) (h3 : ([12] == E.toList) = false) (h4 : ([10] == E.toList) = false) (h5 : ([13] == E.toList) = false) (h6 : ([9] == E.toList) = false) (h32 : decide (r < 32) = false) :
    Calls Tryd.prog 38 #[.int .i32 r] w fun e w' => e = .returned (.string E) ∧ Below w.heap.size w w' := by
  have g0 : w.cell? ⟨1, 0, none⟩ = some (.string ⟨#[34]⟩) := hS.es 0 (by decide)
  have g1 : w.cell? ⟨1, 1, none⟩ = some (.string ⟨#[92, 34]⟩) := hS.es 1 (by decide)
  have g2 : w.cell? ⟨1, 2, none⟩ = some (.string ⟨#[92]⟩) := hS.es 2 (by decide)
  have g3 : w.cell? ⟨1, 3, none⟩ = some (.string ⟨#[92, 92]⟩) := hS.es 3 (by decide)
  have g4 : w.cell? ⟨1, 4, none⟩ = some (.string ⟨#[8]⟩) := hS.es 4 (by decide)
  have g5 : w.cell? ⟨1, 5, none⟩ = some (.string ⟨#[92, 98]⟩) := hS.es 5 (by decide)
  have g6 : w.cell? ⟨1, 6, none⟩ = some (.string ⟨#[12]⟩) := hS.es 6 (by decide)
  have g7 : w.cell? ⟨1, 7, none⟩ = some (.string ⟨#[92, 102]⟩) := hS.es 7 (by decide)
  have g8 : w.cell? ⟨1, 8, none⟩ = some (.string ⟨#[10]⟩) := hS.es 8 (by decide)
  have g9 : w.cell? ⟨1, 9, none⟩ = some (.string ⟨#[92, 110]⟩) := hS.es 9 (by decide)
  have g10 : w.cell? ⟨1, 10, none⟩ = some (.string ⟨#[13]⟩) := hS.es 10 (by decide)
  have g11 : w.cell? ⟨1, 11, none⟩ = some (.string ⟨#[92, 114]⟩) := hS.es 11 (by decide)
  have g12 : w.cell? ⟨1, 12, none⟩ = some (.string ⟨#[9]⟩) := hS.es 12 (by decide)
  have g13 : w.cell? ⟨1, 13, none⟩ = some (.string ⟨#[92, 116]⟩) := hS.es 13 (by decide)
  have x0 := esc_ix0
  have x1 := esc_ix1
  have x2 := esc_ix2
  have x3 := esc_ix3
  have x4 := esc_ix4
  have x5 := esc_ix5
  have x6 := esc_ix6
  go_enter Tryd.func38, Tryd.ntmps38
  go_wp2
  go_loopw [6] (fun i wr => ∃ j : Nat, j ≤ 7 ∧ i = .int .i64 (j : Int) ∧ Below w.heap.size w wr) (fun i _ => 8 - (intOf i).toNat)
  case atStart => exact ⟨0, Nat.zero_le _, rfl, Below.refl _ _⟩
  case round =>
    obtain ⟨j, hj, rfl, hnx⟩ := hrel
    have hsize := hnx.size
    rcases (show j = 0 ∨ j = 1 ∨ j = 2 ∨ j = 3 ∨ j = 4 ∨ j = 5 ∨ j = 6 ∨ j = 7 from by omega) with rfl | rfl | rfl | rfl | rfl | rfl | rfl | rfl
    · go_wp2
      go_roundw
      case rel => exact ⟨1, by omega, by first | rfl | simp, hnx.alloc hsize _⟩
      case measure => simp [intOf]
    · go_wp2
      go_roundw
      case rel => exact ⟨2, by omega, by first | rfl | simp, hnx.alloc hsize _⟩
      case measure => simp [intOf]
    · go_wp2
      go_roundw
      case rel => exact ⟨3, by omega, by first | rfl | simp, hnx.alloc hsize _⟩
      case measure => simp [intOf]
    · go_wp2
      go_roundw
      case rel => exact ⟨4, by omega, by first | rfl | simp, hnx.alloc hsize _⟩
      case measure => simp [intOf]
    · go_wp2
      go_roundw
      case rel => exact ⟨5, by omega, by first | rfl | simp, hnx.alloc hsize _⟩
      case measure => simp [intOf]
    · go_wp2
      go_roundw
      case rel => exact ⟨6, by omega, by first | rfl | simp, hnx.alloc hsize _⟩
      case measure => simp [intOf]
    · go_wp2
      go_roundw
      case rel => exact ⟨7, by omega, by first | rfl | simp, hnx.alloc hsize _⟩
      case measure => simp [intOf]
    · go_wp2
      go_ret
      exact ⟨rfl, hnx⟩
set_option maxHeartbeats 4000000 in
set_option maxRecDepth 100000 in
theorem one_c (r : Int) (E : ByteArray) (q m : Nat) (X Y : ByteArray) (w : World) (hS : ES w) (hE : Utf8.encode r = E) (h0 : ([34] == E.toList) = false) (h1 : ([92] == E.toList) = false) (h2 : ([8] == E.toList) = false) (h3 : ([12] == E.toList) = false) (h4 : ([10] == E.toList) = false) (h5 : ([13] == E.toList) = false) (h6 : ([9] == E.toList) = false) (h32 : decide (r < 32) = true) (hq : Int.tdiv r 16 = (q : Int)) (hm : Int.tmod r 16 = (m : Int)) (hq1 : q < 16) (hm1 : m < 16) (hX : (⟨#[48, 49, 50, 51, 52, 53, 54, 55, 56, 57, 97, 98, 99, 100, 101, 102]⟩ : ByteArray).extract q (q + 1) = X) (hY : (⟨#[48, 49, 50, 51, 52, 53, 54, 55, 56, 57, 97, 98, 99, 100, 101, 102]⟩ : ByteArray).extract m (m + 1) = Y) (hXz : X.size = 1) (hYz : Y.size = 1) :
    Calls Tryd.prog 38 #[.int .i32 r] w fun e w' => e = .returned (.string (⟨#[92, 117, 48, 48]⟩ ++ X ++ Y)) ∧ Below w.heap.size w w' := by
  have g0 : w.cell? ⟨1, 0, none⟩ = some (.string ⟨#[34]⟩) := hS.es 0 (by decide)
  have g1 : w.cell? ⟨1, 1, none⟩ = some (.string ⟨#[92, 34]⟩) := hS.es 1 (by decide)
  have g2 : w.cell? ⟨1, 2, none⟩ = some (.string ⟨#[92]⟩) := hS.es 2 (by decide)
  have g3 : w.cell? ⟨1, 3, none⟩ = some (.string ⟨#[92, 92]⟩) := hS.es 3 (by decide)
  have g4 : w.cell? ⟨1, 4, none⟩ = some (.string ⟨#[8]⟩) := hS.es 4 (by decide)
  have g5 : w.cell? ⟨1, 5, none⟩ = some (.string ⟨#[92, 98]⟩) := hS.es 5 (by decide)
  have g6 : w.cell? ⟨1, 6, none⟩ = some (.string ⟨#[12]⟩) := hS.es 6 (by decide)
  have g7 : w.cell? ⟨1, 7, none⟩ = some (.string ⟨#[92, 102]⟩) := hS.es 7 (by decide)
  have g8 : w.cell? ⟨1, 8, none⟩ = some (.string ⟨#[10]⟩) := hS.es 8 (by decide)
  have g9 : w.cell? ⟨1, 9, none⟩ = some (.string ⟨#[92, 110]⟩) := hS.es 9 (by decide)
  have g10 : w.cell? ⟨1, 10, none⟩ = some (.string ⟨#[13]⟩) := hS.es 10 (by decide)
  have g11 : w.cell? ⟨1, 11, none⟩ = some (.string ⟨#[92, 114]⟩) := hS.es 11 (by decide)
  have g12 : w.cell? ⟨1, 12, none⟩ = some (.string ⟨#[9]⟩) := hS.es 12 (by decide)
  have g13 : w.cell? ⟨1, 13, none⟩ = some (.string ⟨#[92, 116]⟩) := hS.es 13 (by decide)
  have x0 := esc_ix0
  have x1 := esc_ix1
  have x2 := esc_ix2
  have x3 := esc_ix3
  have x4 := esc_ix4
  have x5 := esc_ix5
  have x6 := esc_ix6
  have wq : IntKind.i32.wrap (q : Int) = (q : Int) := by simp [IntKind.wrap, IntKind.bits]; omega
  have wq1 : IntKind.i32.wrap ((q : Int) + 1) = (q : Int) + 1 := by simp [IntKind.wrap, IntKind.bits]; omega
  have wm1 : IntKind.i32.wrap ((m : Int) + 1) = (m : Int) + 1 := by simp [IntKind.wrap, IntKind.bits]; omega
  have tq : ((q : Int) + 1).toNat = q + 1 := by omega
  have tm : ((m : Int) + 1).toNat = m + 1 := by omega
  go_enter Tryd.func38, Tryd.ntmps38
  go_wp2
  go_loopw [6] (fun i wr => ∃ j : Nat, j ≤ 7 ∧ i = .int .i64 (j : Int) ∧ Below w.heap.size w wr) (fun i _ => 8 - (intOf i).toNat)
  case atStart => exact ⟨0, Nat.zero_le _, rfl, Below.refl _ _⟩
  case round =>
    obtain ⟨j, hj, rfl, hnx⟩ := hrel
    have hsize := hnx.size
    rcases (show j = 0 ∨ j = 1 ∨ j = 2 ∨ j = 3 ∨ j = 4 ∨ j = 5 ∨ j = 6 ∨ j = 7 from by omega) with rfl | rfl | rfl | rfl | rfl | rfl | rfl | rfl
    · go_wp2
      go_roundw
      case rel => exact ⟨1, by omega, by first | rfl | simp, hnx.alloc hsize _⟩
      case measure => simp [intOf]
    · go_wp2
      go_roundw
      case rel => exact ⟨2, by omega, by first | rfl | simp, hnx.alloc hsize _⟩
      case measure => simp [intOf]
    · go_wp2
      go_roundw
      case rel => exact ⟨3, by omega, by first | rfl | simp, hnx.alloc hsize _⟩
      case measure => simp [intOf]
    · go_wp2
      go_roundw
      case rel => exact ⟨4, by omega, by first | rfl | simp, hnx.alloc hsize _⟩
      case measure => simp [intOf]
    · go_wp2
      go_roundw
      case rel => exact ⟨5, by omega, by first | rfl | simp, hnx.alloc hsize _⟩
      case measure => simp [intOf]
    · go_wp2
      go_roundw
      case rel => exact ⟨6, by omega, by first | rfl | simp, hnx.alloc hsize _⟩
      case measure => simp [intOf]
    · go_wp2
      go_roundw
      case rel => exact ⟨7, by omega, by first | rfl | simp, hnx.alloc hsize _⟩
      case measure => simp [intOf]
    · go_wp2
      go_quiet (fail)
      go_wp2
      go_ret
      exact ⟨rfl, below_drawn hnx _⟩
end Go.Proofs.YtjgpmfjkcioinaaDoor.G
