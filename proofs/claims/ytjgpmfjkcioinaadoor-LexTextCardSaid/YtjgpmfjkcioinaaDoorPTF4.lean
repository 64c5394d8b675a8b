/-
  fold: 'indent', 'blank', 'Indent'.
-/
import Derived.Test.YtjgpmfjkcioinaaDoorPTV2
import Derived.Test.YtjgpmfjkcioinaaDoorPTBA
import Derived.Test.YtjgpmfjkcioinaaDoorPTZ2
import Derived.Shelf.Strings.SlTrimAscii
namespace Go.Proofs.YtjgpmfjkcioinaaDoor.G
open Go.RowKit Go.Shelf Go.Proofs.YtjgpmfjkcioinaaDoorW.PrintWords Go.Proofs.YtjgpmfjkcioinaaDoor.M
set_option linter.unusedVariables false
set_option linter.unusedSimpArgs false
attribute [local irreducible] Utf8.encode Utf8.decode
def WSP : ByteArray := ⟨#[32, 9]⟩
theorem trim_ws : ∀ l : List UInt8, (Lib.trimLeftS l [32, 9]).length + cnt isWs (l.map fun b => (b.toNat : Int)) = l.length
  | [] => rfl
  | b :: l => by
    have ih := trim_ws l
    unfold Lib.trimLeftS at *
    by_cases h : b = 32 ∨ b = 9
    · have hb : isWs (b.toNat : Int) = true := by rcases h with rfl | rfl <;> decide
      have hc : ([32, 9] : List UInt8).contains b = true := by rcases h with rfl | rfl <;> decide
      rw [List.map_cons, cnt_yes _ hb, List.dropWhile_cons, if_pos hc, List.length_cons]; omega
    · have hb : isWs (b.toNat : Int) = false := by
        unfold isWs
        exact decide_eq_false fun e => h (e.elim (fun e => .inr (UInt8.toNat_inj.1 (by show b.toNat = 9; omega))) (fun e => .inl (UInt8.toNat_inj.1 (by show b.toNat = 32; omega))))
      have hc : ¬ ([32, 9] : List UInt8).contains b = true := fun e => h (by simpa using e)
      rw [List.map_cons, cnt_no _ hb, List.dropWhile_cons, if_neg hc, List.length_cons]
theorem trim_size (s : ByteArray) : ((⟨(Lib.trimLeftS s.data.toList WSP.data.toList).toArray⟩ : ByteArray).size : Int) = (s.size : Int) - (marg (by_ s) : Int) := by
  have := trim_ws s.data.toList
  have e : (⟨(Lib.trimLeftS s.data.toList WSP.data.toList).toArray⟩ : ByteArray).size = (Lib.trimLeftS s.data.toList [32, 9]).length := by
    show (Lib.trimLeftS s.data.toList [32, 9]).toArray.size = _; simp
  rw [e]
  unfold marg by_
  have e2 : s.data.toList.length = s.size := by simp
  omega
set_option maxHeartbeats 400000 in
theorem indent_any (s : ByteArray) (w : World) (hs : s.size ≤ 140737488351232) :
    Calls Tryd.prog 84 #[.string s] w fun e w' => e = .returned (.int .i64 (marg (by_ s) : Nat)) ∧ Below w.heap.size w w' := by
  have hT := Any.strings_TrimLeft_laid Tryd.lays161 (by kernel_rfl) s WSP w (by decide) (ascii_of_all (by decide))
  have hz := trim_size s
  obtain ⟨t, ht⟩ : ∃ t, (⟨(Lib.trimLeftS s.data.toList WSP.data.toList).toArray⟩ : ByteArray) = t := ⟨_, rfl⟩
  rw [ht] at hT hz
  have hm : marg (by_ s) ≤ s.size := by have := marg_le (by_ s); rw [by_length] at this; exact this
  have hts : (t.size : Int) ≤ s.size := by omega
  have hT2 : Calls Tryd.prog 96 #[.string s, .string ⟨#[32, 9]⟩] w fun e w' => e = .returned (.string t) ∧ Below w.heap.size w w' := hT
  have HZ := Lib.hid hz
  clear ht hz hT
  go_enter Tryd.func84, Tryd.ntmps84
  go_wp2_with (go_at_call 96; refine hT2.mono ?_; rintro e w' ⟨rfl, hb⟩)
  go_ret
  exact ⟨ret_int (by have := HZ.out; omega), hb⟩
set_option maxHeartbeats 400000 in
theorem fblank_any (s : ByteArray) (w : World) (hs : s.size ≤ 140737488351232) :
    Calls Tryd.prog 63 #[.string s] w fun e w' => e = .returned (.bool (blk (by_ s))) ∧ Below w.heap.size w w' := by
  have hI := indent_any s w hs
  have hb0 : blk (by_ s) = decide (marg (by_ s) = s.size) := by unfold blk; rw [by_length]
  obtain ⟨m, hm⟩ : ∃ m, marg (by_ s) = m := ⟨_, rfl⟩
  rw [hm] at hI hb0
  have HB := Lib.hid hb0
  clear hb0 hm
  by_cases h : m = s.size
  · subst h
    go_enter Tryd.func63, Tryd.ntmps63
    go_wp2_with (go_at_call 84; refine hI.mono ?_; rintro e w' ⟨rfl, hb⟩)
    go_ret
    exact ⟨ret_bool (by rw [HB.out]; simp), hb⟩
  · have h1 : (m == s.size) = false := by simpa using h
    have h2 : ((m : Int) == (s.size : Int)) = false := beq_eq_false_iff_ne.2 (by omega)
    go_enter Tryd.func63, Tryd.ntmps63
    go_wp2_with (go_at_call 84; refine hI.mono ?_; rintro e w' ⟨rfl, hb⟩)
    go_ret
    exact ⟨ret_bool (by rw [HB.out, decide_eq_false h]), hb⟩
end Go.Proofs.YtjgpmfjkcioinaaDoor.G
