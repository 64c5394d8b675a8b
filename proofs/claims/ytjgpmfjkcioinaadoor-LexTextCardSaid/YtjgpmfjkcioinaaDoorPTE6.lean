/-
  'text.String': the way through a string.
-/
import Derived.Test.YtjgpmfjkcioinaaDoorPTE5
import Derived.Test.YtjgpmfjkcioinaaDoorPTV2
import Derived.Maps.AppendAt
import Derived.LoopTactic
namespace Go.Proofs.YtjgpmfjkcioinaaDoor.G
open Go.RowKit Go.Proofs.YtjgpmfjkcioinaaDoorW.PrintWords Go.Proofs.YtjgpmfjkcioinaaDoor.M
set_option linter.unusedVariables false
set_option linter.unusedSimpArgs false
attribute [local irreducible] Utf8.encode Utf8.decode
def jn (ps : List ByteArray) : ByteArray := ⟨(Lib.join (ps.map (·.data.toList)) []).toArray⟩
theorem join_nil_sep : ∀ (l : List (List UInt8)), Lib.join l [] = l.flatten
  | [] => rfl
  | [x] => by simp [Lib.join]
  | x :: y :: m => by
    have ih := join_nil_sep (y :: m)
    unfold Lib.join List.intercalate at ih ⊢
    rw [List.intersperse_cons_cons, List.flatten_cons, List.flatten_cons, ih]
    simp
theorem by_jn (ps : List ByteArray) : by_ (jn ps) = ps.flatMap by_ := by
  unfold jn
  rw [by_mk, join_nil_sep]
  induction ps with
  | nil => rfl
  | cons p ps ih =>
    rw [List.map_cons, List.flatten_cons, List.map_append, ih, List.flatMap_cons]
    rfl
theorem join_any (base : Nat) (ao : Option Addr) (cv : Nat) (ps : List ByteArray) (w : World) (hown : w.ownsRow base 9 1 (.slice ao ps.length cv) ps.length (ps.map Value.string))
    (hN : ps.length ≤ 140737488355328) (hlen : (ps.flatMap by_).length ≤ 140737488355328) :
    Calls Tryd.prog 65 #[.slice ao ps.length cv, .string ⟨#[]⟩] w fun e w' => e = .returned (.string (jn ps)) ∧ Below w.heap.size w w' := by
  by_cases h0 : ps = []
  · subst h0
    exact (Tryd.strings_Join_none ao cv ⟨#[]⟩ w).mono (by rintro e w' ⟨rfl, rfl⟩; exact ⟨rfl, Below.refl _ _⟩)
  · have hpos := List.length_pos_iff.2 h0
    obtain ⟨g, hao⟩ : ∃ g, ao = some ⟨g, 0, none⟩ := by
      rcases hown.2 with ⟨_, h⟩ | ⟨g, cap, _, h, _⟩
      · omega
      · simp only [Value.slice.injEq] at h
        exact ⟨g, h.1⟩
    subst hao
    have hcells : ∀ (j : Nat) x, ps[j]? = some x → w.cell? ⟨g, 0 + j, none⟩ = some (.string x) := by
      intro j x hj
      have hjl := (List.getElem?_eq_some_iff.1 hj).1
      rw [Nat.zero_add, hown.cellAt j (by omega)]
      simp [hj]
    have hgl : g < w.heap.size := World.block_lt_of_cell? _ _ (hcells 0 _ (List.getElem?_eq_getElem hpos))
    have hcap : ps.length ≤ cv := by
      rcases hown.2 with ⟨h, _⟩ | ⟨g', cap, _, h, _, _, hn, _⟩
      · cases h
      · simp only [Value.slice.injEq] at h
        omega
    have hl : (Lib.join (ps.map (·.data.toList)) ((⟨#[]⟩ : ByteArray).data.toList)).length ≤ 140737488355328 := by
      have := by_length (jn ps)
      rw [by_jn] at this
      have e : (jn ps).size = (Lib.join (ps.map (·.data.toList)) []).length := by
        show ((Lib.join (ps.map (·.data.toList)) []).toArray).size = _
        simp
      show (Lib.join (ps.map (·.data.toList)) []).length ≤ _
      omega
    exact Tryd.strings_Join g 0 cv ps ⟨#[]⟩ w hcells hgl hN hcap hl
def strAt (s : ByteArray) (i : Int) : Bool × List Int × Int := if hasB s i 34 = true then ((strB (at_ s (i + 1))).1, (strB (at_ s (i + 1))).2.1, i + 1 + (strB (at_ s (i + 1))).2.2) else (false, [], i)
def StT (s : ByteArray) (i : Int) : ByteArray := ba (strAt s i).2.1
def StI (s : ByteArray) (i : Int) : Int := (strAt s i).2.2
def StB (s : ByteArray) (i : Int) : Bool := (strAt s i).1
def strE (s : ByteArray) (i : Int) : Ending := if StB s i = true then .returned (.tuple #[.string (StT s i), .int .i64 (StI s i)]) else Wrong (StI s i)
theorem strE_at {s : ByteArray} {n : Nat} (hq : hasB s n 34 = true) {q : Bool × List Int × Nat} (h : strB (at_ s (n + 1)) = q) :
    strE s n = if q.1 = true then .returned (.tuple #[.string (ba q.2.1), .int .i64 (n + 1 + q.2.2)]) else Wrong (n + 1 + q.2.2) := by
  unfold strE StB StT StI strAt
  rw [if_pos hq, h]
theorem hasB_lt {s : ByteArray} {m : Nat} {c : Int} (h : hasB s m c = true) : m < s.size := by
  unfold hasB at h; have := of_decide_eq_true h; omega
theorem hasB_head {s : ByteArray} {m : Nat} {c : Int} (hc : 0 < c) : hasB s m c = decide ((at_ s m).getD 0 0 = c) := by
  have := hasB_gd s m 0 c hc
  rwa [show (m : Int) + ((0 : Nat) : Int) = m by omega] at this
set_option maxHeartbeats 400000 in
theorem str1_none (a b : Nat) (s : ByteArray) (i : Int) (w : World) (c0 : w.cell? ⟨a, 0, none⟩ = some (.string s)) (c1 : w.cell? ⟨b, 0, none⟩ = some (.int .i64 i)) (hq : hasB s i 34 = false) :
    Calls Tryd.prog 67 #[.pointer (some ⟨a, 0, none⟩), .pointer (some ⟨b, 0, none⟩)] w fun e w' => e = Wrong i ∧ w' = w := by
  go_enter Tryd.func67, Tryd.ntmps67
  go_wp2_with (go_at_call 68; refine (has_any _ _ _ _).mono ?_; rintro e w' ⟨rfl, rfl⟩)
  exact ⟨rfl, rfl, rfl⟩
def Rel (s : ByteArray) (n : Nat) (m : Nat) (ps : List ByteArray) : Prop :=
  n + 1 ≤ m ∧ m ≤ s.size ∧ ps.length ≤ m - (n + 1) ∧ (ps.flatMap by_).length ≤ 4 * (m - (n + 1)) ∧ strB (at_ s (n + 1)) = sadd (m - (n + 1)) (ps.flatMap by_) (strB (at_ s m))
theorem rel_start {s : ByteArray} {n : Nat} (hn : n < s.size) : Rel s n (n + 1) [] := by
  refine ⟨Nat.le_refl _, hn, by simp, by simp, ?_⟩
  rw [Nat.sub_self]
  exact (sadd_zero _ (strB_no _)).symm
theorem rel_yes {s : ByteArray} {n m : Nat} {ps : List ByteArray} (hq : hasB s n 34 = true) (h : Rel s n m ps) (hc : hasB s m 34 = true) : strE s n = .returned (.tuple #[.string (jn ps), .int .i64 ((m : Int) + 1)]) := by
  have hm := hasB_lt hc
  have e0 := at_cons s m (by omega) (by omega)
  have e1 : strB (at_ s m) = (true, [], 1) := by
    rw [hasB_head (by omega)] at hc
    have hc := of_decide_eq_true hc
    rw [e0] at hc ⊢
    have hc : bt s m = 34 := hc
    rw [hc]; exact strB_quote _
  have e2 := h.2.2.2.2
  rw [e1] at e2
  rw [strE_at hq e2]
  show Ending.returned (.tuple #[.string (ba (ps.flatMap by_ ++ [])), .int .i64 ((n : Int) + 1 + ((m - (n + 1) + 1 : Nat) : Int))]) = _
  rw [List.append_nil, ← by_jn, ba_by]
  have h1 := h.1
  rw [show (n : Int) + 1 + ((m - (n + 1) + 1 : Nat) : Int) = (m : Int) + 1 by omega]
theorem rel_no {s : ByteArray} {n m : Nat} {ps : List ByteArray} (hq : hasB s n 34 = true) (h : Rel s n m ps) (hc : strB (at_ s m) = (false, [], 0)) : strE s n = Wrong m := by
  have e2 := h.2.2.2.2
  rw [hc] at e2
  rw [strE_at hq e2]
  show Wrong ((n : Int) + 1 + ((m - (n + 1) + 0 : Nat) : Int)) = _
  have h1 := h.1
  rw [show (n : Int) + 1 + ((m - (n + 1) + 0 : Nat) : Int) = (m : Int) by omega]
theorem rel_step {s : ByteArray} {n m : Nat} {ps : List ByteArray} (h : Rel s n m ps) {K : Nat} {T : ByteArray} (hK : 0 < K) (hm : m + K ≤ s.size) (hT : T.size ≤ 4 * K) (hc : strB (at_ s m) = sadd K (by_ T) (strB (at_ s ((m + K : Nat) : Int)))) : Rel s n (m + K) (ps ++ [T]) := by
  obtain ⟨h1, h2, h3, h4, h5⟩ := h
  refine ⟨by omega, hm, by rw [List.length_append]; simp; omega, ?_, ?_⟩
  · rw [List.flatMap_append, List.length_append]
    simp only [List.flatMap_cons, List.flatMap_nil, List.append_nil, by_length]
    omega
  · rw [h5, hc, sadd_sadd, List.flatMap_append]
    simp only [List.flatMap_cons, List.flatMap_nil, List.append_nil]
    rw [show m - (n + 1) + K = m + K - (n + 1) by omega]
theorem at_drop (s : ByteArray) (m K : Nat) : (at_ s m).drop K = at_ s ((m + K : Nat) : Int) := by
  have := at_add s m K (by omega)
  rw [← this]; rfl
theorem step_esc {s : ByteArray} {m : Nat} (hc : hasB s m 92 = true) (he : (escAt s m).2 ≠ 0) :
    strB (at_ s m) = sadd (escAt s m).2 (by_ (EsT s m)) (strB (at_ s ((m + (escAt s m).2 : Nat) : Int))) ∧ 0 < (escAt s m).2 ∧ m + (escAt s m).2 ≤ s.size ∧ (EsT s m).size ≤ 4 * (escAt s m).2 := by
  have hm := hasB_lt hc
  rw [hasB_head (by omega)] at hc
  have hc := of_decide_eq_true hc
  have e : escAt s m = esc (at_ s m) := escAt_nat s m
  unfold EsT
  rw [e] at he ⊢
  obtain ⟨r, hr, e1, h2, h3, _⟩ := esc_some he
  have hb : by_ (ba (esc (at_ s m)).1) = (esc (at_ s m)).1 := by rw [e1]; exact by_ba (enc_range hr)
  have hl := at_length s m (by omega) (by omega)
  refine ⟨?_, by omega, by omega, ?_⟩
  · rw [hb, ← at_drop]; exact strB_esc hc he
  · rw [ba_size, e1]; have := enc_len r; omega
theorem step_plain {s : ByteArray} {m : Nat} (h1 : hasB s m 34 = false) (h2 : hasB s m 92 = false) (hn : nxn s m ≠ 0) (h3 : nxr s m ≠ 10) (h4 : nxr s m ≠ 13) {K : Nat} (hK : nxn s m = K) :
    strB (at_ s m) = sadd K (by_ (s.extract m (m + K))) (strB (at_ s ((m + K : Nat) : Int))) ∧ 0 < K ∧ m + K ≤ s.size ∧ (s.extract m (m + K)).size ≤ 4 * K := by
  rw [hasB_head (by omega)] at h1 h2
  have h1 := of_decide_eq_false h1
  have h2 := of_decide_eq_false h2
  have hle : m < s.size := by
    by_cases q : m < s.size
    · exact q
    · exact absurd (nxn_out s m (.inr (by omega))).2 hn
  have hsz := nxn_le s m (by omega) (by omega)
  unfold nxn at hn hK hsz
  unfold nxr at h3 h4
  rw [if_neg (by omega)] at hn hK h3 h4
  have hK' : (nxp isc (at_ s m)).2 = K := by omega
  refine ⟨?_, by omega, by omega, by rw [ByteArray.size_extract]; omega⟩
  have e : by_ (s.extract m (m + K)) = (at_ s m).take K := by
    rw [by_extract]
    unfold at_
    rw [Int.toNat_natCast, List.drop_take, Nat.add_sub_cancel_left]
  rw [e, ← at_drop, ← hK']
  exact strB_plain h1 h2 (by omega) h3 h4
theorem step_no {s : ByteArray} {m : Nat} (h1 : hasB s m 34 = false) (h2 : hasB s m 92 = false) (hn : nxn s m = 0 ∨ nxr s m = 10 ∨ nxr s m = 13) : strB (at_ s m) = (false, [], 0) := by
  by_cases hl : at_ s m = []
  · rw [hl]; exact strB_nil
  rw [hasB_head (by omega)] at h1 h2
  have h1 := of_decide_eq_false h1
  have h2 := of_decide_eq_false h2
  unfold nxn nxr at hn
  rw [if_neg (by omega), if_neg (by omega)] at hn
  exact strB_plainno hl h1 h2 (by omega)
theorem step_escno {s : ByteArray} {m : Nat} (hc : hasB s m 92 = true) (he : (escAt s m).2 = 0) : strB (at_ s m) = (false, [], 0) := by
  rw [hasB_head (by omega)] at hc
  have hc := of_decide_eq_true hc
  rw [escAt_nat] at he
  exact strB_escno hc he
end Go.Proofs.YtjgpmfjkcioinaaDoor.G
