/-
  lines: 'Lines', 'Cols', 'Margin', 'Clean'.
  lines: 'Clean'.
  lines: the iterator over a text's lines with their widths.
  lines: 'Widest'.
  lines: 'Over'; the functions as the laws' texts call them.
  lines: the functions as the laws' texts call them.
-/
import Derived.Test.YthjoclmggomhoaaDoorV3
import Derived.Test.YthjoclmggomhoaaDoorI1
import Derived.Test.YthjoclmggomhoaaDoorBA
import Derived.Test.YthjoclmggomhoaaDoorS2
import Derived.Shelf.Strings.SplitCore
import Derived.Lib.IndexBytes
import Derived.Lib.SlBy
import Derived.RangeFuncBox
import Derived.Maps.AppendAt
import Derived.OwnWalkIn
import Derived.Test.YthjoclmggomhoaaDoorWWords
namespace Go.Proofs.YthjoclmggomhoaaDoor.G
open Go.RowKit Go.Shelf Go.Proofs.YthjoclmggomhoaaDoorW.PrintWords Go.Proofs.YthjoclmggomhoaaDoor.M
set_option linter.unusedVariables false
set_option linter.unusedSimpArgs false
attribute [local irreducible] Utf8.encode Utf8.decode

/-! ### Lines -/
def lns (s : ByteArray) : List ByteArray := Lib.splitB TEN 0 (Lib.countB s TEN) s
theorem lns_by (s : ByteArray) : (lns s).map by_ = spl (by_ s) := pieces s
theorem lns_length (s : ByteArray) : (lns s).length = Lib.countB s TEN + 1 := Lib.splitB_all TEN (by decide) 0 _ s rfl
theorem gensplit_any (s : ByteArray) (w : World) (hs : s.size ≤ 1000000) :
    Calls Tryd.prog 36 #[.string s, .string TEN, .int .i64 0, .int .i64 (-1)] w fun e w' => e = .returned (.slice (some ⟨w.heap.size, 0, none⟩) (lns s).length (lns s).length) ∧ w' = w.alloc (.cells ((lns s).map Value.string).toArray 9) := by
  have hle := Lib.countB_le TEN (by decide) s.size s (Nat.le_refl _)
  have hlen := lns_length s
  have c := Any.strings_genSplit_core Tryd.lays221 (by kernel_rfl) s TEN 0 (-1) (Lib.countB s TEN + 1) w (by omega) (by decide) (Nat.zero_le _)
    (fun x c _ => (Tryd.strings_Index_one x 10 _).mono fun e w' ⟨he, hw⟩ => ⟨by rw [he, ← Lib.index_one]; rfl, hw⟩)
    ((Tryd.strings_Count_one s 10 w).mono fun e w' ⟨he, hw⟩ => ⟨by rw [he]; show _ = Ending.returned (Value.int .i64 ((Lib.count s.data.toList [10] : Nat) : Int)); rw [Lib.count_one]; rfl, hw⟩)
    (by decide) (by decide) (by rw [if_pos (by decide)]; omega)
  rw [Nat.add_sub_cancel] at c
  have e2 : Lib.cellsOf (Lib.splitB TEN 0 (Lib.countB s TEN) s) (Lib.countB s TEN + 1) = ((lns s).map Value.string).toArray := by
    rw [← hlen]; exact Lib.cellsOf_full _
  rw [e2] at c
  refine c.mono fun e w' ⟨he, hw⟩ => ⟨?_, hw⟩
  rw [he, hlen]
  show Ending.returned (.slice _ (lns s).length _) = _
  rw [hlen]
set_option maxHeartbeats 400000 in
theorem split_any (s : ByteArray) (w : World) (hs : s.size ≤ 1000000) :
    Calls Tryd.prog 24 #[.string s, .string TEN] w fun e w' => e = .returned (.slice (some ⟨w.heap.size, 0, none⟩) (lns s).length (lns s).length) ∧ w' = w.alloc (.cells ((lns s).map Value.string).toArray 9) := by
  have hG := gensplit_any s w hs
  obtain ⟨n, hn⟩ : ∃ n, (lns s).length = n := ⟨_, rfl⟩
  obtain ⟨cs, hcs⟩ : ∃ c, ((lns s).map Value.string).toArray = c := ⟨_, rfl⟩
  rw [hn, hcs] at hG ⊢
  clear hn hcs
  go_enter Tryd.func24, Tryd.ntmps24
  go_wp2_with (go_at_call 36; refine hG.mono ?_; rintro e w' ⟨rfl, rfl⟩)
  go_ret
  exact ⟨rfl, rfl⟩
set_option maxHeartbeats 400000 in
theorem lines_any (s : ByteArray) (w : World) (hs : s.size ≤ 1000000) :
    Calls Tryd.prog 11 #[.string s] w fun e w' => e = .returned (.slice (some ⟨w.heap.size, 0, none⟩) (lns s).length (lns s).length) ∧ w' = w.alloc (.cells ((lns s).map Value.string).toArray 9) := by
  have hG := split_any s w hs
  obtain ⟨n, hn⟩ : ∃ n, (lns s).length = n := ⟨_, rfl⟩
  obtain ⟨cs, hcs⟩ : ∃ c, ((lns s).map Value.string).toArray = c := ⟨_, rfl⟩
  rw [hn, hcs] at hG ⊢
  clear hn hcs
  go_enter Tryd.func11, Tryd.ntmps11
  go_wp2_with (go_at_call 24; refine hG.mono ?_; rintro e w' ⟨rfl, rfl⟩)
  go_ret
  exact ⟨rfl, rfl⟩

/-! ### Cols -/
theorem cols_at (s : ByteArray) (n : Nat) (h : n < s.size) : cols (at_ s n) = cols (at_ s ((n + max 1 (nxp isc (at_ s n)).2 : Nat) : Int)) + 1 := by
  have hne : at_ s n ≠ [] := by rw [at_cons s n (by omega) (by omega)]; simp
  rw [cols_step hne, ← at_add s n _ (by omega)]
  rfl
theorem nxn_at (s : ByteArray) (n : Nat) : nxn s n = ((nxp isc (at_ s n)).2 : Int) := by unfold nxn; rw [if_neg (by omega)]
set_option maxHeartbeats 1000000 in
theorem cols_any (s : ByteArray) (w : World) (hs : s.size ≤ 1000000) :
    Calls Tryd.prog 22 #[.string s] w fun e w' => e = .returned (.int .i64 (cols (by_ s) : Int)) ∧ Below w.heap.size w w' := by
  have hT := cols_le s.size (by_ s) (by rw [by_length]; exact Nat.le_refl _)
  rw [by_length] at hT
  go_enter Tryd.func22, Tryd.ntmps22
  go_wp2
  go_loopw [3, 4] (fun n i wr => ∃ (m k : Nat), n = .int .i64 (m : Int) ∧ i = .int .i64 (k : Int) ∧ m ≤ k ∧ k ≤ s.size ∧ Hid (m + cols (at_ s k) = cols (by_ s)) ∧ Below w.heap.size w wr) (fun _ i _ => s.size - (intOf i).toNat)
  case atStart => exact ⟨0, 0, rfl, rfl, Nat.le_refl _, Nat.zero_le _, Lib.hid (by rw [show ((0 : Nat) : Int) = 0 from rfl, at_zero]; omega), Below.refl _ _⟩
  case round =>
    obtain ⟨m, k, rfl, rfl, hmk, hk, hm, hb⟩ := hrel
    have hsize := hb.size
    by_cases hlt : k < s.size
    · have hc := cols_at s k hlt
      have hn := nxn_at s k
      have hle := nxp_le isc (at_ s k)
      have hl := at_length s k (by omega) (by omega)
      obtain ⟨K, hK⟩ : ∃ K, (nxp isc (at_ s k)).2 = K := ⟨_, rfl⟩
      obtain ⟨R, hR⟩ : ∃ R, nxr s k = R := ⟨_, rfl⟩
      have hN := fun (W : World) => next_any s k W (by omega)
      rw [hK] at hc hn hle
      rw [hn, hR] at hN
      have h2 : Hid ((m + 1) + cols (at_ s ((k + max 1 K : Nat) : Int)) = cols (by_ s)) := Lib.hid (by have := hm.out; omega)
      have hmax : k + max 1 K ≤ s.size := by omega
      have hM : (max (1 : Int) (K : Int)) = ((max 1 K : Nat) : Int) := by omega
      have HM := Lib.hid hM
      clear hc hn hK hR hm hM hl
      go_wp2_with (go_at_call 34; refine (hN _).mono ?_; rintro e w1 ⟨rfl, hb1⟩)
      go_roundw
      case rel => exact ⟨m + 1, k + max 1 K, by go_num, by go_num, by omega, hmax, h2, hb.trans (hb1.mono hsize)⟩
      case measure => simp [intOf]; omega
    · obtain rfl : k = s.size := by omega
      have hm2 : (m : Int) = (cols (by_ s) : Int) := by
        have := hm.out
        rw [at_nil s _ (by omega), cols_nil] at this
        omega
      have HM := Lib.hid hm2
      clear hm2 hm
      go_wp2
      go_ret
      exact ⟨ret_int HM.out, hb⟩

/-! ### Margin -/
theorem trim_cnt : ∀ l : List UInt8, (Lib.trimLeftB l 32).length + cnt isSp (l.map fun b => (b.toNat : Int)) = l.length
  | [] => rfl
  | b :: l => by
    by_cases h : b = 32
    · subst h
      have := trim_cnt l
      unfold Lib.trimLeftB at *
      rw [List.map_cons, cnt_yes _ (by decide)]
      simp
      omega
    · have hb : isSp (b.toNat : Int) = false := by
        unfold isSp
        exact decide_eq_false fun e => h (UInt8.toNat_inj.1 (by show b.toNat = 32; omega))
      unfold Lib.trimLeftB
      rw [List.map_cons, cnt_no _ hb]
      simp [h]
theorem trim_size (s : ByteArray) : ((⟨(Lib.trimLeftB s.data.toList 32).toArray⟩ : ByteArray).size : Int) = (s.size : Int) - (marg (by_ s) : Int) := by
  have := trim_cnt s.data.toList
  have e : (⟨(Lib.trimLeftB s.data.toList 32).toArray⟩ : ByteArray).size = (Lib.trimLeftB s.data.toList 32).length := by
    show (Lib.trimLeftB s.data.toList 32).toArray.size = _; simp
  rw [e]
  unfold marg by_
  have e2 : s.data.toList.length = s.size := by simp
  omega
set_option maxHeartbeats 400000 in
theorem margin_any (s : ByteArray) (w : World) (hs : s.size ≤ 140737488351232) :
    Calls Tryd.prog 19 #[.string s] w fun e w' => e = .returned (.int .i64 (marg (by_ s) : Int)) ∧ w = w' := by
  have hT := Tryd.strings_TrimLeft_one s 32 (by decide) w
  have hz := trim_size s
  obtain ⟨t, ht⟩ : ∃ t, (⟨(Lib.trimLeftB s.data.toList 32).toArray⟩ : ByteArray) = t := ⟨_, rfl⟩
  rw [ht] at hT hz
  have hm : marg (by_ s) ≤ s.size := by have := cnt_le isSp (by_ s); rw [by_length] at this; exact this
  have hts : (t.size : Int) ≤ s.size := by omega
  have HZ := Lib.hid hz
  clear ht hz
  go_enter Tryd.func19, Tryd.ntmps19
  go_wp2_with (go_at_call 29; refine hT.mono ?_; rintro e w' ⟨rfl, rfl⟩)
  go_ret
  exact ⟨ret_int (by have := HZ.out; omega), rfl⟩
end Go.Proofs.YthjoclmggomhoaaDoor.G
namespace Go.Proofs.YthjoclmggomhoaaDoor.G
open Go.RowKit Go.Shelf Go.Proofs.YthjoclmggomhoaaDoorW.PrintWords Go.Proofs.YthjoclmggomhoaaDoor.M
set_option linter.unusedVariables false
set_option linter.unusedSimpArgs false
attribute [local irreducible] Utf8.encode Utf8.decode

theorem cnt_any (p : Int → Bool) : ∀ l : List Int, decide (cnt p l < l.length) = l.any fun c => !p c
  | [] => rfl
  | c :: l => by
    have ih := cnt_any p l
    cases h : p c with
    | true =>
      rw [cnt_yes _ h, List.any_cons, h, ← ih, List.length_cons]
      simp
    | false => rw [cnt_no _ h, List.any_cons, h]; simp
def CRTAB : ByteArray := ⟨#[13, 9]⟩
theorem odd_idx (s : ByteArray) : decide (0 ≤ anyIdx CRTAB s) = odd (by_ s) := by
  have e : decide (0 ≤ anyIdx CRTAB s) = decide (cnt (noneOf CRTAB) (by_ s) < (by_ s).length) := by
    unfold anyIdx
    rw [by_length]
    by_cases h : cnt (noneOf CRTAB) (by_ s) < s.size
    · rw [if_pos h, decide_eq_true h]; simp
    · rw [if_neg h, decide_eq_false h]; rfl
  rw [e, cnt_any]
  unfold odd
  congr 1
  funext c
  unfold noneOf
  rw [show bt CRTAB 0 = 13 from rfl, show bt CRTAB 1 = 9 from rfl, Bool.eq_iff_iff]
  simp
  omega
theorem contains_odd (s : ByteArray) (w : World) (hs : s.size ≤ 1000000) :
    Calls Tryd.prog 32 #[.string s, .string CRTAB] w fun e w' => e = .returned (.bool (odd (by_ s))) ∧ Below w.heap.size w w' := by
  have hI := indexAny_any CRTAB rfl (by decide) s hs w
  have hO := odd_idx s
  obtain ⟨x, hx⟩ : ∃ x, anyIdx CRTAB s = x := ⟨_, rfl⟩
  rw [hx] at hI hO
  have HO := Lib.hid hO
  clear hx hO
  obtain ⟨C, hC⟩ : ∃ C, CRTAB = C := ⟨_, rfl⟩
  rw [hC] at hI ⊢
  clear hC
  by_cases h0 : 0 ≤ x
  · go_enter Tryd.func32, Tryd.ntmps32
    go_wp2_with (go_at_call 45; refine hI.mono ?_; rintro e w' ⟨rfl, hb⟩)
    go_ret
    exact ⟨ret_bool (by rw [← HO.out, decide_eq_true h0]), hb⟩
  · have h1 : x < 0 := by omega
    go_enter Tryd.func32, Tryd.ntmps32
    go_wp2_with (go_at_call 45; refine hI.mono ?_; rintro e w' ⟨rfl, hb⟩)
    go_ret
    exact ⟨ret_bool (by rw [← HO.out, decide_eq_false (by omega)]), hb⟩
/-- Does a line end by a blank? -/
def eb (x : ByteArray) : Bool := endSp (by_ x)
theorem suffix_end (l : List UInt8) : Lib.hasSuffix l [32] = endSp (l.map fun b => (b.toNat : Int)) := by
  unfold Lib.hasSuffix endSp
  rw [Bool.eq_iff_iff, List.isSuffixOf_iff_suffix, decide_eq_true_eq, List.getLast?_map]
  constructor
  · rintro ⟨t, rfl⟩
    rw [List.getLast?_append]; rfl
  · intro h
    cases hl : l.getLast? with
    | none => rw [hl] at h; cases h
    | some b =>
      rw [hl] at h
      simp only [Option.map_some, Option.some.injEq] at h
      have hb : b = 32 := UInt8.toNat_inj.1 (by show b.toNat = 32; omega)
      subst hb
      obtain ⟨t, ht⟩ := List.getLast?_eq_some_iff.1 hl
      exact ⟨t, ht.symm⟩
/-- A line of a size that is no matter. -/
abbrev Sm := { x : ByteArray // x.size ≤ 1000000 }
instance : Inhabited Sm := ⟨⟨⟨#[]⟩, by decide⟩⟩
def small (x : ByteArray) : Sm := if h : x.size ≤ 1000000 then ⟨x, h⟩ else ⟨⟨#[]⟩, by decide⟩
theorem small_it {x : ByteArray} (h : x.size ≤ 1000000) : (small x).1 = x := by unfold small; rw [dif_pos h]
def encS (x : Sm) : Value := .string x.1
def ebS (x : Sm) : Bool := eb x.1
set_option maxHeartbeats 400000 in
theorem pred_blank (w : World) : PredAt Tryd.prog 30 #[] encS ebS w := fun W x hb => by
  obtain ⟨x, hz⟩ := x
  show Calls Tryd.prog 30 #[.string x] W _
  have hS := Tryd.strings_HasSuffix x ⟨#[32]⟩ W (by omega)
  have e : Lib.hasSuffix x.data.toList (⟨#[32]⟩ : ByteArray).data.toList = ebS ⟨x, hz⟩ := suffix_end x.data.toList
  rw [e] at hS
  obtain ⟨b, hb2⟩ : ∃ b, ebS ⟨x, hz⟩ = b := ⟨_, rfl⟩
  rw [hb2] at hS ⊢
  clear e hb2 hb
  go_enter Tryd.func30, Tryd.ntmps30
  go_wp2_with (go_at_call 31; refine hS.mono ?_; rintro e w' ⟨rfl, rfl⟩)
  go_ret
  exact ⟨rfl, 0, rfl⟩
theorem spl_short : ∀ (l x : List Int), x ∈ spl l → x.length ≤ l.length
  | [], x, h => by rw [spl_nil, List.mem_singleton] at h; subst h; exact Nat.le_refl _
  | c :: l, x, h => by
    by_cases e : c = 10
    · subst e
      rw [spl_ten] at h
      rcases List.mem_cons.1 h with rfl | h
      · simp
      · have := spl_short l x h; simp; omega
    · rw [spl_other e] at h
      rcases List.mem_cons.1 h with rfl | h
      · have := spl_short l ((spl l).headD []) (by rw [spl_head l]; simp); rw [List.length_cons, List.length_cons]; omega
      · have := spl_short l x (List.mem_of_mem_tail h); simp; omega
theorem lns_short (s x : ByteArray) (h : x ∈ lns s) : x.size ≤ s.size := by
  have h2 : by_ x ∈ spl (by_ s) := by rw [← lns_by]; exact List.mem_map.2 ⟨x, h, rfl⟩
  have := spl_short _ _ h2
  rw [by_length, by_length] at this; exact this
theorem any_lines (s : ByteArray) (hs : s.size ≤ 1000000) : ((lns s).map small).any ebS = (spl (by_ s)).any endSp := by
  rw [← lns_by, List.any_map, List.any_map, Bool.eq_iff_iff, List.any_eq_true, List.any_eq_true]
  constructor
  · rintro ⟨x, hx, h⟩
    refine ⟨x, hx, ?_⟩
    have e := small_it (x := x) (by have := lns_short s x hx; omega)
    show endSp (by_ x) = true
    rw [← e]; exact h
  · rintro ⟨x, hx, h⟩
    refine ⟨x, hx, ?_⟩
    have e := small_it (x := x) (by have := lns_short s x hx; omega)
    show endSp (by_ (small x).1) = true
    rw [e]; exact h
theorem lns_cell (s : ByteArray) (hs : s.size ≤ 1000000) (w : World) (j : Nat) (hj : j < ((lns s).map small).length) : (w.alloc (.cells ((lns s).map Value.string).toArray 9)).cell? ⟨w.heap.size, 0 + j, none⟩ = some (encS ((lns s).map small)[j]!) := by
  have hj2 : j < (lns s).length := by rw [List.length_map] at hj; exact hj
  rw [cell_of_row _ _ (0 + j) _ _ _ (World.alloc_heap_new w _), Nat.zero_add, List.getElem?_toArray, List.getElem?_map, List.getElem?_eq_getElem hj2, getElem!_pos _ j hj]
  show some (Value.string (lns s)[j]) = some (.string (((lns s).map small)[j]).1)
  rw [List.getElem_map, small_it (by have := lns_short s _ (List.getElem_mem hj2); omega)]
set_option maxHeartbeats 1000000 in
theorem clean_any (s : ByteArray) (w : World) (hs : s.size ≤ 1000000) :
    Calls Tryd.prog 21 #[.string s] w fun e w' => e = .returned (.bool (clean (by_ s))) ∧ Below w.heap.size w w' := by
  have hM := fun (W : World) => may_any s W hs
  have hC := fun (W : World) => contains_odd s W hs
  have hL := fun (W : World) => lines_any s W hs
  have hlen : (lns s).length ≤ 1000001 := by have := lns_length s; have := Lib.countB_le TEN (by decide) s.size s (Nat.le_refl _); omega
  have hF := fun (W : World) => Tryd.slices_ContainsFunc (α := Sm) encS ebS 30 #[] (enters_of Tryd.func30 (by kernel_rfl) rfl) W.heap.size 0 (lns s).length (lns s).length ((lns s).map small) (W.alloc (.cells ((lns s).map Value.string).toArray 9)) (pred_blank _) (by rw [List.length_map]; exact Nat.le_refl _) (by omega) (lns_cell s hs W)
  rw [List.take_of_length_le (by rw [List.length_map]; exact Nat.le_refl _), any_lines s hs] at hF
  have hcl : clean (by_ s) = (mayp isc (by_ s) && (!odd (by_ s) && !(spl (by_ s)).any endSp)) := rfl
  rw [hcl]
  obtain ⟨a, ha⟩ : ∃ a, mayp isc (by_ s) = a := ⟨_, rfl⟩
  obtain ⟨b, hb⟩ : ∃ a, odd (by_ s) = a := ⟨_, rfl⟩
  obtain ⟨c, hc⟩ : ∃ a, (spl (by_ s)).any endSp = a := ⟨_, rfl⟩
  obtain ⟨n, hn⟩ : ∃ n, (lns s).length = n := ⟨_, rfl⟩
  obtain ⟨cs, hcs⟩ : ∃ c, ((lns s).map Value.string).toArray = c := ⟨_, rfl⟩
  rw [ha] at hM ⊢
  rw [hb] at hC ⊢
  rw [hc] at hF ⊢
  rw [hn, hcs] at hF hL
  clear ha hb hc hn hcs hcl hlen
  obtain ⟨C, hCe⟩ : ∃ C, CRTAB = C := ⟨_, rfl⟩
  cases a with
  | false =>
    go_enter Tryd.func21, Tryd.ntmps21
    go_wp2_with (go_at_call 23; refine (hM _).mono ?_; rintro e w1 ⟨rfl, hb1⟩)
    go_ret
    exact ⟨rfl, hb1⟩
  | true =>
    cases b with
    | true =>
      go_enter Tryd.func21, Tryd.ntmps21
      go_wp2_with (first
        | (go_at_call 23; refine (hM _).mono ?_; rintro e w1 ⟨rfl, hb1⟩)
        | (go_at_call 32; refine (hC _).mono ?_; rintro e w2 ⟨rfl, hb2⟩))
      go_ret
      exact ⟨rfl, hb1.trans (hb2.mono hb1.size)⟩
    | false =>
      go_enter Tryd.func21, Tryd.ntmps21
      go_wp2_with (first
        | (go_at_call 23; refine (hM _).mono ?_; rintro e w1 ⟨rfl, hb1⟩)
        | (go_at_call 32; refine (hC _).mono ?_; rintro e w2 ⟨rfl, hb2⟩)
        | (go_at_call 11; refine (hL _).mono ?_; rintro e w3 ⟨rfl, rfl⟩)
        | (go_at_call 33; refine (hF _).mono ?_; rintro e w4 ⟨rfl, q, rfl⟩))
      go_ret
      have hb12 := hb1.trans (hb2.mono hb1.size)
      exact ⟨rfl, below_drawn (hb12.alloc hb12.size _) q⟩
end Go.Proofs.YthjoclmggomhoaaDoor.G
namespace Go.Proofs.YthjoclmggomhoaaDoor.G
open Go.RowKit Go.Shelf Go.Proofs.YthjoclmggomhoaaDoorW.PrintWords Go.Proofs.YthjoclmggomhoaaDoor.M
set_option linter.unusedVariables false
set_option linter.unusedSimpArgs false
attribute [local go_sem] Oper.semAt_some
attribute [local irreducible] Utf8.encode Utf8.decode

/-- Lines with their places, and widths. -/
def wds : Nat → List ByteArray → List (Nat × Nat)
  | _, [] => []
  | k, x :: r => (k, cols (by_ x)) :: wds (k + 1) r
theorem wds_length : ∀ (k : Nat) (l : List ByteArray), (wds k l).length = l.length
  | k, [] => rfl
  | k, x :: r => by rw [wds, List.length_cons, wds_length (k + 1) r, List.length_cons]
/-- What a round keeps: whatever block holds texts. -/
def KS (W W' : World) : Prop := ∀ (k : Nat) (cs : Array Value) (fz : Nat × Nat), W.heap[k]? = some (Obj.cells cs 9 fz) → W'.heap[k]? = some (Obj.cells cs 9 fz)
theorem KS.trans {A B C : World} (h : KS A B) (k : KS B C) : KS A C := fun i cs fz hi => k i cs fz (h i cs fz hi)
theorem KS.putObj {B : Nat} (W : World) (l : Nat) (o o' : Obj) (_ : B ≤ l) (hl : W.heap[l]? = some o) (ho : o.isCells = false) (_ : o.isWalk = false) : KS W (W.putObj l o') := fun k cs fz hk => by
  by_cases e : k = l
  · subst e; rw [hl] at hk; cases hk; cases ho
  · exact (World.putObj_heap_other e).trans hk
theorem KS.below {W W' : World} (h : Below W.heap.size W W') : KS W W' := fun k cs fz hk => (h.block k (Array.getElem?_eq_some_iff.1 hk).1).trans hk
theorem KS.refl (W : World) : KS W W := fun _ _ _ h => h
set_option maxRecDepth 100000 in
set_option maxHeartbeats 2000000 in
theorem wides1_in (n : Nat) (l Bs : Nat) (s : ByteArray) (hn : 1 ≤ n) (hs : s.size ≤ 1000000) (J Jx : List (Nat × Nat) → World → Prop) (W : World) (hJ : AbidesFrom W.heap.size J)
    (hY : ∀ pre x W, J pre W → pre.length < (wds 0 (lns s)).length → YieldAt Fence.wide (n - 1) Tryd.prog l #[.int .i64 (x.1 : Nat), .int .i64 (x.2 : Nat)] W fun e W' =>
      (e = .returned (.bool true) ∧ J (pre ++ [x]) W' ∧ KS W W') ∨ (e = .returned (.bool false) ∧ Jx (pre ++ [x]) W'))
    (hBs : W.cell? ⟨Bs, 0, none⟩ = some (.string s)) (h0 : J [] W) :
    CallsIn Fence.wide n Tryd.prog 37 #[.func (.yield l) #[] #[], .pointer (some ⟨Bs, 0, none⟩)] W fun e W' => (∃ v, e = .returned v) ∧
      ((∃ ys, ys = wds 0 (lns s) ∧ J ys W') ∨ (∃ pre, pre <+: wds 0 (lns s) ∧ Jx pre W')) := by
  have hlen : (lns s).length ≤ 1000001 := by have := lns_length s; have := Lib.countB_le TEN (by decide) s.size s (Nat.le_refl _); omega
  have hshort := lns_short s
  have hL := lines_any s W hs
  obtain ⟨L, hLs⟩ : ∃ L, lns s = L := ⟨_, rfl⟩
  rw [hLs] at hlen hshort hL hY ⊢
  clear hLs
  obtain ⟨g, hg⟩ : ∃ g, W.heap.size = g := ⟨_, rfl⟩
  rw [hg] at hL hJ
  have hJ1 : J [] (W.alloc (.cells (L.map Value.string).toArray 9)) := hJ [] W _ none h0 (World.grownBy_alloc W _ none) (fun r e => by cases e)
  have hrow : (W.alloc (.cells (L.map Value.string).toArray 9)).heap[g]? = some (.cells (L.map Value.string).toArray 9 (0, 0)) := by rw [← hg]; exact World.alloc_heap_new W _
  obtain ⟨W0, hW0⟩ : ∃ W0, W.alloc (.cells (L.map Value.string).toArray 9) = W0 := ⟨_, rfl⟩
  rw [hW0] at hL hJ1 hrow
  refine callsIn_of_wp Tryd.func37 rfl trivial ?_ rfl
  simp only [Tryd.ntmps37, List.size_toArray, List.length_cons, List.length_nil, Nat.reduceAdd, Nat.reduceSub, Array.replicate_succ, Array.replicate_zero, List.push_toArray, List.append_toArray, List.nil_append, List.cons_append]
  gi_wp2_with (refine ⟨trivial, ?_⟩; gi_at_call 11; refine (callsIn_wide.2 hL).mono ?_; rintro e w' ⟨rfl, hw⟩; rw [hw])
  gi_loopw [8] (fun i wr => ∃ (pre : List (Nat × Nat)) (k : Nat), i = .int .i64 (k : Int) ∧ k ≤ L.length ∧ Hid (pre ++ wds k (L.drop k) = wds 0 L) ∧ J pre wr ∧ KS W0 wr ∧ g < wr.heap.size)
    (fun i _ => L.length - (intOf i).toNat)
  case atStart => exact ⟨[], 0, rfl, Nat.zero_le _, rfl, hJ1, KS.refl _, (Array.getElem?_eq_some_iff.1 hrow).1⟩
  case round =>
    obtain ⟨pre, k, rfl, hk, hpre, hJs, hks, hgw⟩ := hrel
    have hrw := hks g _ _ hrow
    by_cases hlt : k < L.length
    · obtain ⟨x, hx⟩ : ∃ x, L[k]? = some x := ⟨L[k], List.getElem?_eq_getElem hlt⟩
      have hcell : wr.cell? ⟨g, k, none⟩ = some (.string x) := by
        rw [cell_of_row wr g k _ _ _ hrw, List.getElem?_toArray, List.getElem?_map, hx]; rfl
      have hxs : x.size ≤ 1000000 := by have := hshort x (List.mem_of_getElem? hx); omega
      have hC := fun (W : World) => cols_any x W hxs
      have hd : L.drop k = x :: L.drop (k + 1) := by
        rw [List.drop_eq_getElem_cons hlt]
        rw [List.getElem?_eq_getElem hlt] at hx
        rw [Option.some.inj hx]
      have hp2 : pre ++ [(k, cols (by_ x))] ++ wds (k + 1) (L.drop (k + 1)) = wds 0 L := by
        rw [← hpre.out, hd, wds, List.append_assoc]; rfl
      have hY' := fun (Wy : World) (hj : J pre Wy) => hY pre (k, cols (by_ x)) Wy hj (by rw [← hp2]; simp)
      obtain ⟨c, hc⟩ : ∃ c, cols (by_ x) = c := ⟨_, rfl⟩
      rw [hc] at hC hp2 hY'
      have HR := Lib.hid hrow
      have HP := Lib.hid hp2
      have HY := Lib.hid hY'
      have HJ := Lib.hid hJ
      clear hp2 hpre hY hY' hx hc hJ hrw hd hshort hJ1 hW0 hrow hL
      gi_wp2_with (first
        | (refine ⟨trivial, ?_⟩; gi_at_call 22; refine (callsIn_wide.2 (hC _)).mono ?_; rintro e w' ⟨rfl, hbn⟩; have hJ2 := HJ.out pre wr w' none hJs (grown_of_below hbn) (fun r e => by cases e); have hks2 := hks.trans (KS.below hbn); have hgw2 := Nat.lt_of_lt_of_le hgw hbn.size; obtain ⟨fn, tmps, assign, body, hy, hRR⟩ := HY.out w' hJ2))
      refine hRR.mono ?_
      rintro e W3 (⟨rfl, hJ3, hk3⟩ | ⟨rfl, hJx3⟩)
      · gi_wp2
        go_roundw
        case rel => exact ⟨_, k + 1, by go_num, by omega, HP, hJ3, hks2.trans hk3, by have := hk3 g _ _ (hks2 g _ _ HR.out); exact (Array.getElem?_eq_some_iff.1 this).1⟩
        case measure => simp [intOf]; omega
      · gi_wp2
        refine bodyPost_ret (results_none rfl _ _ _) rfl ?_
        exact ⟨⟨_, rfl⟩, .inr ⟨_, ⟨_, HP.out⟩, hJx3⟩⟩
    · obtain rfl : k = L.length := by omega
      have hp2 : pre = wds 0 L := by rw [← hpre.out, List.drop_length, wds, List.append_nil]
      have HP := Lib.hid hp2
      clear hp2 hpre hY hrw hshort hJ1 hW0 hrow hL
      gi_wp2
      go_end0
      exact ⟨⟨_, rfl⟩, .inl ⟨_, HP.out, hJs⟩⟩
theorem wides_stops (n Bs : Nat) (s : ByteArray) (hn : 1 ≤ n) (hs : s.size ≤ 1000000) (w : World) (hb : Bs < w.heap.size) (hc : w.cell? ⟨Bs, 0, none⟩ = some (.string s)) :
    SeqStopsK Fence.wide n Tryd.prog 37 #[.pointer (some ⟨Bs, 0, none⟩)] (fun x : Nat × Nat => #[Value.int .i64 (x.1 : Nat), Value.int .i64 (x.2 : Nat)]) KS (fun ys => ys = wds 0 (lns s)) (fun pre => pre <+: wds 0 (lns s)) (wds 0 (lns s)).length w :=
  fun l J Jx W hW hJ _ hY h0 => wides1_in n l Bs s hn hs J Jx W hJ hY ((hW.cell (p := ⟨Bs, 0, none⟩) hb).trans hc) h0
theorem wides_in (n : Nat) (s : ByteArray) (w : World) :
    CallsIn Fence.wide n Tryd.prog 25 #[.string s] w fun e w' => e = .returned (.func (.func 37) #[] #[.pointer (some ⟨w.heap.size, 0, none⟩)]) ∧ w' = w.alloc (.cells #[.string s] 9) := by
  refine callsIn_of_wp Tryd.func25 rfl trivial ?_ rfl
  simp only [Tryd.ntmps25, List.size_toArray, List.length_cons, List.length_nil, Nat.reduceAdd, Nat.reduceSub, Array.replicate_succ, Array.replicate_zero, List.push_toArray, List.append_toArray, List.nil_append, List.cons_append]
  gi_wp2
  go_ret
  exact ⟨rfl, rfl⟩
end Go.Proofs.YthjoclmggomhoaaDoor.G
namespace Go.Proofs.YthjoclmggomhoaaDoor.G
open Go.RowKit Go.Shelf Go.Proofs.YthjoclmggomhoaaDoorW.PrintWords Go.Proofs.YthjoclmggomhoaaDoor.M
set_option linter.unusedVariables false
set_option linter.unusedSimpArgs false
attribute [local go_sem] Oper.semAt_some
attribute [local irreducible] Utf8.encode Utf8.decode

/-- The greatest width that has come. -/
def mx (l : List (Nat × Nat)) : Nat := most (l.map (·.2))
theorem mx_snoc (l : List (Nat × Nat)) (x : Nat × Nat) : mx (l ++ [x]) = max (mx l) x.2 := by
  unfold mx; rw [List.map_append, most_append]; simp [most]
theorem wds_map : ∀ (k : Nat) (l : List ByteArray), (wds k l).map (·.2) = (l.map by_).map cols
  | k, [] => rfl
  | k, x :: r => by rw [wds, List.map_cons, wds_map (k + 1) r]; rfl
theorem mx_wds (s : ByteArray) : mx (wds 0 (lns s)) = widest (by_ s) := by
  unfold mx widest; rw [wds_map, lns_by]
theorem boxed_kept {X Y : World} {row : Option Nat} {B : Nat} {t : TypeId} {v : Value} (h : Boxed X B t v) (hg : X.grownBy Y row) (hrow : ∀ r, row = some r → ∃ o : Obj, X.heap[r]? = some o ∧ o.isCells = false) : Boxed Y B t v :=
  h.kept hg (fun e => by
    obtain ⟨o, ho, hc⟩ := hrow B e.symm
    rw [show X.heap[B]? = _ from h] at ho; cases ho; cases hc)
theorem KS.setBox {W : World} {B : Nat} {t : TypeId} {v : Value} (h : Boxed W B t v) (ht : t ≠ 9) (u : Value) : KS W (W.setCell ⟨B, 0, none⟩ u) := fun k cs fz hk => by
  by_cases e : k = B
  · subst e
    rw [show W.heap[k]? = _ from h] at hk
    cases hk
    exact absurd rfl ht
  · exact (Below.heap_setCell W ⟨B, 0, none⟩ u k e).trans hk
set_option maxRecDepth 100000 in
set_option maxHeartbeats 2000000 in
theorem most_in (s : ByteArray) (Bs : Nat) (w : World) (hs : s.size ≤ 1000000) (hb : Bs < w.heap.size) (hc : w.cell? ⟨Bs, 0, none⟩ = some (.string s)) :
    CallsIn Fence.wide 9 Tryd.prog 28 #[.func (.func 37) #[] #[.pointer (some ⟨Bs, 0, none⟩)]] w fun e W' => e = .returned (.int .i64 (widest (by_ s) : Nat)) ∧ Below w.heap.size w W' := by
  have HB := Lib.hid (mx_wds s)
  refine callsIn_of_wp_marks Tryd.func28 rfl trivial ?_ rfl
  simp only [Tryd.ntmps28, List.size_toArray, List.length_cons, List.length_nil, Nat.reduceAdd, Nat.reduceSub, Array.replicate_succ, Array.replicate_zero, List.push_toArray, List.append_toArray, List.nil_append, List.cons_append]
  gi_wp2
  have b0 := Boxed.new w 3 (.int .i64 0)
  have hc1 := cell_alloc_l (.cells #[.int .i64 0] 3) hc
  have hB0 : Below w.heap.size w (w.alloc (.cells #[.int .i64 0] 3)) := (Below.refl _ w).alloc (Nat.le_refl _) _
  refine wpIn_rangeFunc_ownF rfl (by omega) (gf := 37) (lb := #[.pointer (some ⟨Bs, 0, none⟩)]) rfl trivial (enters_of Tryd.func37 (by kernel_rfl) rfl)
    (wides_stops 8 Bs s (by omega) hs _ (by simp; omega) hc1) (fun h k => KS.trans h k) (fun W l o o' hl h1 h2 h3 => KS.putObj W l o o' hl h1 h2 h3) (Below.refl _ _) (fun _ => rfl)
    (fun pre W => Boxed W w.heap.size 3 (.int .i64 (mx pre : Nat)) ∧ Below w.heap.size w W)
    (fun _ _ _ => False)
    (OwnFrom.and (Own.from (I := fun (pre : List (Nat × Nat)) (W : World) => Boxed W w.heap.size 3 (.int .i64 (mx pre : Nat))) (fun s A B row hs hg hr => boxed_kept hs hg hr) _) (ownFrom_below (Nat.le_refl _) (by simp)))
    (fun c => Own.from (fun _ _ _ _ h _ _ => h) _)
    ⟨b0, hB0⟩
    (fun x => { tmps := #[.func (.func 37) #[] #[.pointer (some ⟨Bs, 0, none⟩)], undef, .pointer (some ⟨w.heap.size, 0, none⟩), undef, .int .i64 (x.2 : Nat), .func (.func 37) #[] #[.pointer (some ⟨Bs, 0, none⟩)], .int .i64 (x.1 : Nat), .int .i64 (x.2 : Nat), undef, undef, undef, undef], defers := [] }) ?assign ?body ?done ?stop
  case assign =>
    intro l x W K hK
    gi_wp2
    exact hK
  case body =>
    rintro l pre ⟨k, c⟩ W ⟨hbx, hB⟩ _
    have hcr := hbx.cell
    have hfr := hbx.frozen
    gi_wp2
    refine ⟨KeepsOthers.setCell _ _ _, KS.setBox hbx (by decide) _, ?_, hB.setCell (p := ⟨w.heap.size, 0, none⟩) (Nat.le_refl _) _⟩
    rw [mx_snoc]
    have e : ((max (mx pre) c : Nat) : Int) = max ((mx pre : Nat) : Int) ((c : Nat) : Int) := by omega
    rw [e]
    exact hbx.set _
  case done =>
    rintro D ys W hD rfl ⟨hbx, hB⟩ hK
    rw [HB.out] at hbx
    have hcr := hbx.cell
    have hfr := hbx.frozen
    gi_wp2
    have hK' := (KeepsOthers.setCell W ⟨w.heap.size, 0, none⟩ (.int .i64 (widest (by_ s) : Nat))).same D _ hK rfl
    refine ⟨by simp, .inl ⟨_, _, rfl, run_takeDeferred hK', ?_⟩⟩
    have hc5 := cell_kept (hbx.set (.int .i64 (widest (by_ s) : Nat))).cell (grownBy_putObj' _ D (.deferred none)) (fun r e => by cases e; exact ⟨_, hK', rfl⟩)
    refine ⟨.int .i64 (widest (by_ s) : Nat), ?_, rfl, (hB.setCell (p := ⟨w.heap.size, 0, none⟩) (Nat.le_refl _) _).trans (belowK_b (w := w) (Nat.le_refl _) _ D _ _ (by simp at hD; omega) hK' rfl rfl)⟩
    simp [results, Tryd.f28, go_sem, hc5]
  case stop =>
    rintro D c pre W _ _ h _
    exact h.elim
theorem most_call (s : ByteArray) (Bs : Nat) (w : World) (hs : s.size ≤ 1000000) (hb : Bs < w.heap.size) (hc : w.cell? ⟨Bs, 0, none⟩ = some (.string s)) :
    Calls Tryd.prog 28 #[.func (.func 37) #[] #[.pointer (some ⟨Bs, 0, none⟩)]] w fun e W' => e = .returned (.int .i64 (widest (by_ s) : Nat)) ∧ Below w.heap.size w W' := callsIn_wide.1 (most_in s Bs w hs hb hc)
set_option maxHeartbeats 400000 in
theorem widest_any (s : ByteArray) (w : World) (hs : s.size ≤ 1000000) :
    Calls Tryd.prog 17 #[.string s] w fun e w' => e = .returned (.int .i64 (widest (by_ s) : Nat)) ∧ Below w.heap.size w w' := by
  have hW := callsIn_wide.1 (wides_in 3 s w)
  have hM := most_call s w.heap.size (w.alloc (.cells #[.string s] 9)) hs (by simp) (Boxed.new w 9 (.string s)).cell
  obtain ⟨n, hn⟩ : ∃ n, widest (by_ s) = n := ⟨_, rfl⟩
  rw [hn] at hM ⊢
  clear hn
  go_enter Tryd.func17, Tryd.ntmps17
  go_wp2_with (first
    | (go_at_call 25; refine hW.mono ?_; rintro e w' ⟨rfl, rfl⟩)
    | (go_at_call 28; refine hM.mono ?_; rintro e w2 ⟨rfl, hb2⟩))
  go_ret
  exact ⟨rfl, ((Below.refl _ w).alloc (Nat.le_refl _) _).trans (hb2.mono (by simp))⟩
end Go.Proofs.YthjoclmggomhoaaDoor.G
namespace Go.Proofs.YthjoclmggomhoaaDoor.G
open Go.RowKit Go.Shelf Go.Proofs.YthjoclmggomhoaaDoorW.PrintWords Go.Proofs.YthjoclmggomhoaaDoor.M
set_option linter.unusedVariables false
set_option linter.unusedSimpArgs false
attribute [local go_sem] Oper.semAt_some
attribute [local irreducible] Utf8.encode Utf8.decode

/-- The places of those that are too wide. -/
def ov (w : Int) (l : List (Nat × Nat)) : List Int := (l.filter fun x => decide (w < (x.2 : Int))).map fun x => (x.1 : Int)
theorem ov_yes {w : Int} (l : List (Nat × Nat)) (x : Nat × Nat) (h : w < (x.2 : Int)) : ov w (l ++ [x]) = ov w l ++ [(x.1 : Int)] := by
  unfold ov; rw [List.filter_append, List.filter_cons_of_pos (by simpa using h)]; simp
theorem ov_no {w : Int} (l : List (Nat × Nat)) (x : Nat × Nat) (h : ¬ w < (x.2 : Int)) : ov w (l ++ [x]) = ov w l := by
  unfold ov; rw [List.filter_append, List.filter_cons_of_neg (by simpa using h)]; simp
theorem ov_le (w : Int) (l : List (Nat × Nat)) : (ov w l).length ≤ l.length := by
  unfold ov; rw [List.length_map]; exact List.length_filter_le _ _
theorem ov_wds (w : Int) : ∀ (k : Nat) (l : List ByteArray), ov w (wds k l) = overs w k (l.map by_)
  | k, [] => rfl
  | k, x :: r => by
    have ih := ov_wds w (k + 1) r
    rw [wds, List.map_cons, overs, ← ih]
    unfold ov
    by_cases h : w < (cols (by_ x) : Int)
    · rw [if_pos h, List.filter_cons_of_pos (by simpa using h)]; rfl
    · rw [if_neg h, List.filter_cons_of_neg (by simpa using h)]
theorem over_it (w : Int) (s : ByteArray) : ov w (wds 0 (lns s)) = over (by_ s) w := by rw [ov_wds, lns_by]; rfl
theorem KS.appended {W w1 : World} {n₀ B : Nat} {t e : TypeId} {v u : Value} {k : Nat} {xs : List Value} {o : Obj} (hrow : W.ownsRow n₀ e 1 v k xs) (he : e ≠ 9) (hg : (W.alloc o).grownBy w1 v.ownBlock) (hv : Boxed w1 B t u) (ht : t ≠ 9) (u' : Value) : KS W (w1.setCell ⟨B, 0, none⟩ u') := by
  have h1 : KS W w1 := fun k cs fz hk => by
    have hlt := (Array.getElem?_eq_some_iff.1 hk).1
    refine (hg.block k (by simp; omega) (fun e2 => ?_)).trans ((Below.heap_alloc W o k hlt).trans hk)
    rcases hrow.2 with ⟨rfl, _⟩ | ⟨g, cap, cur, rfl, _, hgb, _⟩
    · simp [Value.ownBlock] at e2
    · obtain rfl : k = g := by simpa [Value.ownBlock] using e2
      rw [hgb] at hk
      cases hk
      exact he rfl
  exact h1.trans (KS.setBox hv ht u')
theorem info_i64 : (Tryd.prog.info? 3).map (fun i => (i.zero, i.size, i.bytes)) = some (some (.int .i64 0), 1, 8) := by kernel_rfl
/-- What the loop has collected. -/
def OvI (v0 : Int) (n : Nat) (w : World) (pre : List (Nat × Nat)) (W : World) : Prop :=
  (∃ v, Boxed W (n + 1) 27 v ∧ W.ownsRow (n + 3) 3 1 v (ov v0 pre).length ((ov v0 pre).map (Value.int .i64))) ∧ (Boxed W n 3 (.int .i64 v0) ∧ (Below n w W ∧ n + 3 ≤ W.heap.size))
theorem row_own {β : Type} (n₀ B : Nat) (t e : TypeId) (size : Nat) (k : β → Nat) (f : β → List Value) : Own (fun s W => ∃ v, Boxed W B t v ∧ W.ownsRow n₀ e size v (k s) (f s)) := fun s X Y row h hg hrow => by
  obtain ⟨v, hv, hr⟩ := h
  obtain ⟨v', a, b, _⟩ := holdsRow_own n₀ B t e size k f (fun _ _ => True) s X Y row ⟨v, hv, hr, trivial⟩ hg hrow
  exact ⟨v', a, b⟩
theorem ovI_own (v0 : Int) (n : Nat) (w : World) (B : Nat) (hn : n ≤ w.heap.size) (hB : n ≤ B) : OwnFrom B (OvI v0 n w) :=
  OwnFrom.and (Own.from (row_own (n + 3) (n + 1) 27 3 1 (fun pre => (ov v0 pre).length) (fun pre => (ov v0 pre).map (Value.int .i64))) _)
    (OwnFrom.and (Own.from (I := fun (pre : List (Nat × Nat)) (W : World) => Boxed W n 3 (.int .i64 v0)) (fun s A B row hs hg hr => boxed_kept hs hg hr) _)
      (OwnFrom.and (ownFrom_below hn hB) (fun s A B row hs hg hr => Nat.le_trans hs hg.size)))
theorem ovI_no {v0 : Int} {n : Nat} {w W : World} {pre : List (Nat × Nat)} {x : Nat × Nat} (h : OvI v0 n w pre W) (hx : ¬ v0 < (x.2 : Int)) : OvI v0 n w (pre ++ [x]) W := by
  unfold OvI at *
  rw [ov_no pre x hx]; exact h
theorem ovI_yes {v0 : Int} {n : Nat} {w W w1 : World} {pre : List (Nat × Nat)} {k c : Nat} {v v' : Value} {o : Obj} (h : OvI v0 n w pre W) (hx : v0 < (c : Int)) (hv : Boxed W (n + 1) 27 v) (hrow : W.ownsRow (n + 3) 3 1 v (ov v0 pre).length ((ov v0 pre).map (Value.int .i64)))
    (hown' : w1.ownsRow (n + 3) 3 1 v' ((ov v0 pre).length + 1) ((ov v0 pre).map (Value.int .i64) ++ [.int .i64 (k : Nat)])) (hgrow : (W.alloc o).grownBy w1 v.ownBlock) :
    KeepsOthers W (w1.setCell ⟨n + 1, 0, none⟩ v') ∧ KS W (w1.setCell ⟨n + 1, 0, none⟩ v') ∧ OvI v0 n w (pre ++ [(k, c)]) (w1.setCell ⟨n + 1, 0, none⟩ v') := by
  obtain ⟨_, hb, hB, hsz⟩ := h
  have hn1 : n + 1 < W.heap.size := by omega
  have hv1 : Boxed w1 (n + 1) 27 v := (hv.alloc o).kept hgrow (hv.not_row (by decide) hrow)
  have hfar : ∀ g, v.ownBlock = some g → n + 3 ≤ g ∧ ∃ cur, W.heap[g]? = some (.cells cur 3 (0, 0)) := fun g e => by
    rcases hrow.2 with ⟨rfl, _⟩ | ⟨g', cap, cur, rfl, hg', hgb, _⟩
    · simp [Value.ownBlock] at e
    · obtain rfl : g' = g := by simpa [Value.ownBlock] using e
      exact ⟨hg', cur, hgb⟩
  have hb1 : Boxed w1 n 3 (.int .i64 v0) := (hb.alloc o).kept hgrow (fun e => by have := (hfar n e.symm).1; omega)
  have hB1 : Below n w w1 := (hB.alloc (by omega) o).grown hgrow (by simp; omega) (fun g e => by have := (hfar g e).1; omega)
  refine ⟨?_, KS.appended hrow (by decide) hgrow hv1 (by decide) v', ⟨v', hv1.set v', ?_⟩, ?_, hB1.setCell (p := ⟨n + 1, 0, none⟩) (by show n ≤ n + 1; omega) _, ?_⟩
  · refine ((KeepsOthers.alloc W o).trans (KeepsOthers.of_grownBy hgrow fun j ob ej hj => ?_)).trans (KeepsOthers.setCell _ _ _)
    obtain ⟨h1, cur, h2⟩ := hfar j ej
    have h3 := (Below.heap_alloc W o j (Array.getElem?_eq_some_iff.1 h2).1).trans h2
    rw [h3] at hj; cases hj; rfl
  · rw [ov_yes pre (k, c) hx, List.length_append, List.map_append]
    exact hown'.kept (grownBy_setCell' w1 (n + 1) v') (.inr (hv1.not_row (by decide) hown').symm)
  · exact (show (w1.setCell ⟨n + 1, 0, none⟩ v').heap[n]? = _ from Below.heap_setCell w1 ⟨n + 1, 0, none⟩ v' n (by show n ≠ n + 1; omega)).trans hb1
  · have := hgrow.size
    show n + 3 ≤ (w1.heap.modify _ _).size
    rw [Array.size_modify]; simp at this; omega
set_option maxRecDepth 100000 in
set_option maxHeartbeats 4000000 in
theorem over_in (s : ByteArray) (v0 : Int) (w : World) (hs : s.size ≤ 1000000) :
    CallsIn Fence.wide 9 Tryd.prog 14 #[.string s, .int .i64 v0] w fun e W' => ∃ v, e = .returned v ∧ W'.ownsRow w.heap.size 3 1 v (over (by_ s) v0).length ((over (by_ s) v0).map (Value.int .i64)) ∧ Below w.heap.size w W' := by
  obtain ⟨i0, hi, hz0, hz1, hz2⟩ := info_parts info_i64
  have hlen : (wds 0 (lns s)).length ≤ 1000001 := by rw [wds_length]; have := lns_length s; have := Lib.countB_le TEN (by decide) s.size s (Nat.le_refl _); omega
  have HB := Lib.hid (over_it v0 s)
  have hu := Tryd.underlying27
  refine callsIn_of_wp_marks Tryd.func14 rfl trivial ?_ rfl
  simp only [Tryd.ntmps14, List.size_toArray, List.length_cons, List.length_nil, Nat.reduceAdd, Nat.reduceSub, Array.replicate_succ, Array.replicate_zero, List.push_toArray, List.append_toArray, List.nil_append, List.cons_append]
  gi_wp2_with (refine ⟨trivial, ?_⟩; gi_at_call 25; refine (wides_in _ s _).mono ?_; rintro e w' ⟨rfl, rfl⟩)
  have b0 := ((Boxed.new w 3 (.int .i64 v0)).alloc (.cells #[.slice none 0 0] 27)).alloc (.cells #[.string s] 9)
  have b1 := (Boxed.new (w.alloc (.cells #[.int .i64 v0] 3)) 27 (.slice none 0 0)).alloc (.cells #[.string s] 9)
  have c2 := (Boxed.new ((w.alloc (.cells #[.int .i64 v0] 3)).alloc (.cells #[.slice none 0 0] 27)) 9 (.string s)).cell
  have hB0 : Below w.heap.size w (((w.alloc (.cells #[.int .i64 v0] 3)).alloc (.cells #[.slice none 0 0] 27)).alloc (.cells #[.string s] 9)) := (((Below.refl _ w).alloc (Nat.le_refl _) _).alloc (by simp) _).alloc (by simp; omega) _
  simp only [World.size_alloc] at b1 c2
  obtain ⟨W0, hW0⟩ : ∃ W0, ((w.alloc (.cells #[.int .i64 v0] 3)).alloc (.cells #[.slice none 0 0] 27)).alloc (.cells #[.string s] 9) = W0 := ⟨_, rfl⟩
  have hz : W0.heap.size = w.heap.size + 3 := by rw [← hW0]; simp
  rw [hW0] at b0 b1 c2 hB0 ⊢
  refine wpIn_rangeFunc_ownF rfl (by omega) (gf := 37) (lb := #[.pointer (some ⟨w.heap.size + 1 + 1, 0, none⟩)]) rfl trivial (enters_of Tryd.func37 (by kernel_rfl) rfl)
    (wides_stops 8 (w.heap.size + 1 + 1) s (by omega) hs _ (by omega) c2) (fun h k => KS.trans h k) (fun W l o o' hl h1 h2 h3 => KS.putObj W l o o' hl h1 h2 h3) (Below.refl _ _) (fun _ => rfl)
    (OvI v0 w.heap.size w)
    (fun _ _ _ => False)
    (ovI_own v0 _ w _ (Nat.le_refl _) (by omega))
    (fun c => Own.from (fun _ _ _ _ h _ _ => h) _)
    ⟨⟨_, b1, World.ownsRow_nil _ _ _ _⟩, b0, hB0, by omega⟩
    (fun x => { tmps := #[.string s, .int .i64 v0, undef, .pointer (some ⟨w.heap.size, 0, none⟩), .slice none 0 0, .pointer (some ⟨w.heap.size + 1, 0, none⟩), .int .i64 (x.1 : Nat), .int .i64 (x.2 : Nat), .string s, .func (.func 37) #[] #[.pointer (some ⟨w.heap.size + 1 + 1, 0, none⟩)], .int .i64 (x.1 : Nat), .int .i64 (x.2 : Nat), undef, undef, undef, undef, undef, undef, undef, undef], defers := [] }) ?assign ?body ?done ?stop
  case assign =>
    intro l x W K hK
    gi_wp2
    exact hK
  case body =>
    rintro l pre ⟨k, c⟩ W hI hN
    obtain ⟨⟨v, hv, hrow⟩, hb, hB, hsz⟩ := hI
    have hcr := hb.cell
    have hcv := hv.cell
    have hfv := hv.frozen
    have hol := ov_le v0 pre
    have hl1 : (ov v0 pre).length + 1 ≤ maxLen := by unfold maxLen; omega
    have hl2 : ((ov v0 pre).length + 1) * 8 ≤ 140737488355328 := by omega
    by_cases hlt : v0 < (c : Int)
    · gi_wp2_with (gi_at_builtin; refine wpListIn_append_own _ rfl _ _ 27 rfl (w.heap.size + 3) 3 i0 (.int .i64 0) 1 8 hu hi hz0 hz1 hz2 rfl (by decide) _ _ _ rfl (hrow.alloc _) ⟨W.heap.size, 0, none⟩ 1 1 [.int .i64 (k : Nat)] rfl rfl (cell_one_new _ _ _) (by simp [Value.oneCell']) hl1 hl2 (by simp; omega) ?_; intro v' w1 hown' hgrow _; obtain ⟨g', cap', rfl⟩ := ownsRow_succ hown'; have hY := ovI_yes ⟨⟨v, hv, hrow⟩, hb, hB, hsz⟩ hlt hv hrow hown' hgrow; have hv1 := (hv.alloc _).kept hgrow (hv.not_row (by decide) hrow); have hc1 := hv1.cell; have hf1 := hv1.frozen)
      exact hY
    · gi_wp2
      exact ⟨KeepsOthers.refl _, KS.refl _, ovI_no ⟨⟨v, hv, hrow⟩, hb, hB, hsz⟩ (by show ¬ v0 < (c : Int); omega)⟩
  case done =>
    rintro D ys W hD rfl hI hK
    obtain ⟨⟨v, hv, hrow⟩, hb, hB, hsz⟩ := hI
    rw [HB.out] at hrow
    have hcv := hv.cell
    have hfv := hv.frozen
    gi_wp2
    refine ⟨by simp, .inl ⟨_, _, rfl, run_takeDeferred hK, ?_⟩⟩
    refine ⟨v, ?_, v, rfl, ?_, hB.trans (belowK_b (w := w) (Nat.le_refl _) W D _ _ (by omega) hK rfl rfl)⟩
    · simp [results, Tryd.f14, go_sem]
    · exact ownsRow_putObj (own_weaken hrow (by omega)) _ hK rfl
  case stop =>
    rintro D c pre W _ _ h _
    exact h.elim
end Go.Proofs.YthjoclmggomhoaaDoor.G
namespace Go.Proofs.YthjoclmggomhoaaDoor.G
open Go.RowKit Go.Shelf Go.Proofs.YthjoclmggomhoaaDoorW.PrintWords Go.Proofs.YthjoclmggomhoaaDoor.M
set_option linter.unusedVariables false
set_option linter.unusedSimpArgs false

theorem lns_row (s : ByteArray) (hs : s.size ≤ 1000000) (w : World) : (w.alloc (.cells ((lns s).map Value.string).toArray 9)).ownsRow w.heap.size 9 1 (.slice (some ⟨w.heap.size, 0, none⟩) (lns s).length (lns s).length) (lns s).length ((lns s).map Value.string) := by
  have hlen : (lns s).length ≤ 1000001 := by have := lns_length s; have := Lib.countB_le TEN (by decide) s.size s (Nat.le_refl _); omega
  refine ⟨by simp, .inr ⟨w.heap.size, (lns s).length, _, rfl, Nat.le_refl _, World.alloc_heap_new w _, Nat.le_refl _, by unfold maxLen; omega, by simp, ?_⟩⟩
  rw [List.take_of_length_le (by simp)]
def lines_Lines.f (s : ByteArray) : Option (List ByteArray) := if s.size ≤ 1000000 then some (lns s) else none
theorem lines_Lines.calls (a0 : ByteArray) (r : List ByteArray) (w : World) (h : lines_Lines.f a0 = some r) :
    Calls Tryd.prog 11 #[.string a0] w fun e w' => ∃ v0_ : Value, e = .returned (v0_) ∧ Kd.R Kd.string 9 w' w.heap.size (fun _ => True) v0_ r ∧ Below w.heap.size w w' := by
  unfold lines_Lines.f at h
  split at h
  · rename_i hs
    cases h
    refine (lines_any a0 w hs).mono fun e w' ⟨he, hw⟩ => ?_
    subst hw
    exact ⟨_, he, Kd.R_of_own (lns_row a0 hs w) (fun _ _ => trivial), (Below.refl _ w).alloc (Nat.le_refl _) _⟩
  · cases h
def lines_Over.f (s : ByteArray) (v : Int) : Option (List Int) := if s.size ≤ 1000000 then some (over (by_ s) v) else none
theorem lines_Over.calls (a0 : ByteArray) (a1 : Int) (r : List Int) (w : World) (h : lines_Over.f a0 a1 = some r) :
    Calls Tryd.prog 14 #[.string a0, .int .i64 a1] w fun e w' => ∃ v0_ : Value, e = .returned (v0_) ∧ Kd.R (Kd.int .i64) 3 w' w.heap.size (fun _ => True) v0_ r ∧ Below w.heap.size w w' := by
  unfold lines_Over.f at h
  split at h
  · rename_i hs
    cases h
    refine (callsIn_wide.1 (over_in a0 a1 w hs)).mono fun e w' ⟨v, he, ho, hb⟩ => ?_
    exact ⟨v, he, Kd.R_of_own ho (fun _ _ => trivial), hb⟩
  · cases h
def lines_Widest.f (s : ByteArray) : Option Int := if s.size ≤ 1000000 then some ((widest (by_ s) : Nat) : Int) else none
theorem lines_Widest.calls (a0 : ByteArray) (r : Int) (w : World) (h : lines_Widest.f a0 = some r) :
    Calls Tryd.prog 17 #[.string a0] w fun e w' => e = .returned (.int .i64 r) ∧ Below w.heap.size w w' := by
  unfold lines_Widest.f at h
  split at h
  · rename_i hs; cases h; exact widest_any a0 w hs
  · cases h
def lines_Margin.f (s : ByteArray) : Option Int := if s.size ≤ 140737488351232 then some ((marg (by_ s) : Nat) : Int) else none
theorem lines_Margin.calls (a0 : ByteArray) (r : Int) (w : World) (h : lines_Margin.f a0 = some r) :
    Calls Tryd.prog 19 #[.string a0] w fun e w' => e = .returned (.int .i64 r) ∧ Below w.heap.size w w' := by
  unfold lines_Margin.f at h
  split at h
  · rename_i hs; cases h; exact (margin_any a0 w hs).mono (by rintro e w' ⟨rfl, rfl⟩; exact ⟨rfl, Below.refl _ _⟩)
  · cases h
def lines_Clean.f (s : ByteArray) : Option Bool := if s.size ≤ 1000000 then some (clean (by_ s)) else none
theorem lines_Clean.calls (a0 : ByteArray) (r : Bool) (w : World) (h : lines_Clean.f a0 = some r) :
    Calls Tryd.prog 21 #[.string a0] w fun e w' => e = .returned (.bool r) ∧ Below w.heap.size w w' := by
  unfold lines_Clean.f at h
  split at h
  · rename_i hs; cases h; exact clean_any a0 w hs
  · cases h
def span_Cols.f (s : ByteArray) : Option Int := if s.size ≤ 1000000 then some ((cols (by_ s) : Nat) : Int) else none
theorem span_Cols.calls (a0 : ByteArray) (r : Int) (w : World) (h : span_Cols.f a0 = some r) :
    Calls Tryd.prog 22 #[.string a0] w fun e w' => e = .returned (.int .i64 r) ∧ Below w.heap.size w w' := by
  unfold span_Cols.f at h
  split at h
  · rename_i hs; cases h; exact cols_any a0 w hs
  · cases h
def utf_May.f (s : ByteArray) : Option Bool := if s.size ≤ 1000000 then some (mayp isc (by_ s)) else none
theorem utf_May.calls (a0 : ByteArray) (r : Bool) (w : World) (h : utf_May.f a0 = some r) :
    Calls Tryd.prog 23 #[.string a0] w fun e w' => e = .returned (.bool r) ∧ Below w.heap.size w w' := by
  unfold utf_May.f at h
  split at h
  · rename_i hs; cases h; exact may_any a0 w hs
  · cases h
end Go.Proofs.YthjoclmggomhoaaDoor.G
