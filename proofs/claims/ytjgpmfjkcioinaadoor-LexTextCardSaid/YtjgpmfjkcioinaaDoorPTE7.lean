/-
  'text.String': the walk.
-/
import Derived.Test.YtjgpmfjkcioinaaDoorPTE6
import Derived.Test.YtjgpmfjkcioinaaDoorPTF5
namespace Go.Proofs.YtjgpmfjkcioinaaDoor.G
open Go.RowKit Go.Proofs.YtjgpmfjkcioinaaDoorW.PrintWords Go.Proofs.YtjgpmfjkcioinaaDoor.M
set_option linter.unusedVariables false
set_option linter.unusedSimpArgs false
attribute [local irreducible] Utf8.encode Utf8.decode
def RL (s : ByteArray) (n : Nat) (w : World) (v i : Value) (wr : World) : Prop :=
  ∃ (m : Nat) (ps : List ByteArray) (ao : Option Addr) (cv : Nat), i = .int .i64 (m : Int) ∧ v = .slice ao ps.length cv ∧ wr.ownsRow w.heap.size 9 1 v ps.length (ps.map Value.string) ∧ Below w.heap.size w wr ∧ Rel s n m ps
theorem own_next {s : ByteArray} {n m K : Nat} {ps : List ByteArray} {T : ByteArray} {w w1 w3 : World} {v v' : Value} {L : Nat} (hL : L = ps.length + 1) (hr : Rel s n (m + K) (ps ++ [T]))
    (hown : w1.ownsRow w.heap.size 9 1 v ps.length (ps.map Value.string)) (hb : Below w.heap.size w w1) (o : Obj)
    (hown' : w3.ownsRow w.heap.size 9 1 v' L (ps.map Value.string ++ [.string T])) (hg : (w1.alloc o).grownBy w3 v.ownBlock) : RL s n w v' (.int .i64 ((m : Int) + (K : Int))) w3 := by
  subst hL
  obtain ⟨g3, cap3, hv3⟩ : ∃ g3 cap3, v' = .slice (some ⟨g3, 0, none⟩) (ps.length + 1) cap3 := by
    rcases hown'.2 with ⟨_, h⟩ | ⟨g3, cap3, _, h, _⟩
    · omega
    · exact ⟨g3, cap3, h⟩
  have hsize := hb.size
  refine ⟨m + K, ps ++ [T], some ⟨g3, 0, none⟩, cap3, rfl, by rw [hv3]; simp, ?_, (hb.alloc hsize _).grown hg (by simp; omega) (fun q hq => (hown.lt q hq).1), hr⟩
  rw [List.length_append, List.map_append]
  exact hown'
theorem has_any' (s : ByteArray) (i c : Int) (w : World) :
    Calls Tryd.prog 68 #[.string s, .int .i64 i, .int .u8 c] w fun e w' => e = .returned (.bool (hasB s i c)) ∧ w = w' :=
  (has_any s i c w).mono fun e w' h => ⟨h.1, h.2.symm⟩
set_option maxHeartbeats 4000000 in
set_option maxRecDepth 100000 in
theorem str1_some (a b : Nat) (s : ByteArray) (n : Nat) (w : World) (hs : s.size ≤ 1000000) (hT : TE w) (c0 : w.cell? ⟨a, 0, none⟩ = some (.string s)) (c1 : w.cell? ⟨b, 0, none⟩ = some (.int .i64 n)) (hq : hasB s n 34 = true) :
    Calls Tryd.prog 67 #[.pointer (some ⟨a, 0, none⟩), .pointer (some ⟨b, 0, none⟩)] w fun e w' => e = strE s n ∧ Below w.heap.size w w' := by
  obtain ⟨i0, hi, hz0, hz1, hz2⟩ := info_parts info_str
  have hn := hasB_lt hq
  have ha := World.block_lt_of_cell? _ _ c0
  have hbl := World.block_lt_of_cell? _ _ c1
  have hu42 := Tryd.underlying87
  go_enter Tryd.func67, Tryd.ntmps67
  go_wp2_with (go_at_call 68; refine (has_any' _ _ _ _).mono ?_; rintro e w' ⟨rfl, rfl⟩)
  go_loopw [4, 5] (fun v i wr => RL s n w v i wr) (fun _ i _ => s.size + 1 - (intOf i).toNat)
  case atStart => exact ⟨n + 1, [], none, 0, rfl, rfl, World.ownsRow_nil _ _ _ _, Below.refl _ _, rel_start hn⟩
  case round =>
    obtain ⟨m, ps, ao, cv, rfl, rfl, hown, hnx, hrel⟩ := hrel
    have d0 : wr.cell? ⟨a, 0, none⟩ = some (.string s) := (hnx.cell ha).trans c0
    have hsize := hnx.size
    have hR := hrel
    obtain ⟨hr1, hr2, hr3, hr4, _⟩ := hR
    have hpl : ps.length ≤ 1000000 := by omega
    by_cases h1 : hasB s m 34 = true
    · have hres := rel_yes hq hrel h1
      have hfl : (ps.flatMap by_).length ≤ 140737488355328 := by omega
      go_wp2_with (first
              | (go_at_call 68; refine (has_any' _ _ _ _).mono ?_; rintro e w' ⟨rfl, rfl⟩)
              | (go_at_call 65; refine (join_any _ _ _ _ _ hown (by omega) hfl).mono ?_; rintro e w5 ⟨rfl, hb5⟩))
      go_ret2
      exact ⟨hres.symm, hnx.trans (hb5.mono hsize)⟩
    have h1 : hasB s m 34 = false := by simpa using h1
    by_cases h2 : hasB s m 92 = true
    · by_cases h3 : (escAt s m).2 = 0
      · have hres := rel_no hq hrel (step_escno h2 h3)
        have hE : escE s m = Wrong m := if_pos h3
        go_wp2_with (first
              | (go_at_call 68; refine (has_any' _ _ _ _).mono ?_; rintro e w' ⟨rfl, rfl⟩)
              | (go_at_call 69; refine (esc_any s m _ hs (hT.low hnx)).mono ?_; rw [hE]; rintro e w1 ⟨rfl, hb1⟩; unfold Wrong))
        exact ⟨rfl, hres.symm, hnx.trans (hb1.mono hsize)⟩
      · have hE : escE s m = .returned (.tuple #[.string (EsT s m), .int .i64 (EsI s m)]) := if_neg h3
        obtain ⟨q1, q2, q3, q4⟩ := step_esc h2 h3
        have hrn := rel_step hrel q2 q3 q4 q1
        have hEI : EsI s m = (m : Int) + ((escAt s m).2 : Nat) := rfl
        obtain ⟨K, hK⟩ : ∃ K, (escAt s m).2 = K := ⟨_, rfl⟩
        obtain ⟨T, hTx⟩ : ∃ T, EsT s m = T := ⟨_, rfl⟩
        rw [hK, hTx] at hrn
        rw [hK] at hEI q2 q3
        rw [hTx, hEI] at hE
        clear q1 q4 hEI hK hTx h3
        go_wp2_with (first
              | (go_at_call 68; refine (has_any' _ _ _ _).mono ?_; rintro e w' ⟨rfl, rfl⟩)
              | (go_at_call 69; refine (esc_any s m _ hs (hT.low hnx)).mono ?_; rw [hE]; rintro e w1 ⟨rfl, hb1⟩; have hown1 := pw_own_below hown hb1; have hb2 := hnx.trans (hb1.mono hsize); have hsz2 := hb2.size)
              | (at_builtin; refine wpList_append_own _ rfl _ _ 87 rfl w.heap.size 9 i0 (.string ByteArray.empty) 1 16 hu42 hi hz0 hz1 hz2 rfl (by decide) _ _ _ rfl (hown1.alloc _) ⟨w1.heap.size, 0, none⟩ 1 1 [.string T] rfl rfl (cell_one_new _ _ _) (fun x hx => by simp at hx; subst hx; rfl) (by unfold maxLen; omega) (by omega) (by simp; omega) ?_; intro v' w3 hown' hgrow3 hnil3))
        go_roundw
        case rel =>
          have R := own_next rfl hrn hown1 hb2 _ hown' hgrow3
          first
            | exact R
            | ((repeat apply Exists.intro); exact ⟨R, rfl⟩)
        case measure => simp [intOf]; omega
    have h2 : hasB s m 92 = false := by simpa using h2
    have hnn := nxn_range s m
    by_cases h4 : nxn s m = 0
    · have hres := rel_no hq hrel (step_no h1 h2 (.inl h4))
      obtain ⟨r, hr⟩ : ∃ r, nxr s m = r := ⟨_, rfl⟩
      go_wp2_with (first
              | (go_at_call 68; refine (has_any' _ _ _ _).mono ?_; rintro e w' ⟨rfl, rfl⟩)
              | (go_at_call 59; refine (next_any s m _ (by omega)).mono ?_; rw [h4, hr]; rintro e w1 ⟨rfl, hb1⟩))
      exact ⟨rfl, hres.symm, hnx.trans (hb1.mono hsize)⟩
    obtain ⟨K, hK⟩ : ∃ K : Nat, nxn s m = (K : Int) := ⟨(nxn s m).toNat, by omega⟩
    have k0 : ((K : Int) == 0) = false := beq_eq_false_iff_ne.2 (by omega)
    by_cases h5 : nxr s m = 10
    · have hres := rel_no hq hrel (step_no h1 h2 (.inr (.inl h5)))
      go_wp2_with (first
              | (go_at_call 68; refine (has_any' _ _ _ _).mono ?_; rintro e w' ⟨rfl, rfl⟩)
              | (go_at_call 59; refine (next_any s m _ (by omega)).mono ?_; rw [hK, h5]; rintro e w1 ⟨rfl, hb1⟩))
      exact ⟨rfl, hres.symm, hnx.trans (hb1.mono hsize)⟩
    by_cases h6 : nxr s m = 13
    · have hres := rel_no hq hrel (step_no h1 h2 (.inr (.inr h6)))
      go_wp2_with (first
              | (go_at_call 68; refine (has_any' _ _ _ _).mono ?_; rintro e w' ⟨rfl, rfl⟩)
              | (go_at_call 59; refine (next_any s m _ (by omega)).mono ?_; rw [hK, h6]; rintro e w1 ⟨rfl, hb1⟩))
      exact ⟨rfl, hres.symm, hnx.trans (hb1.mono hsize)⟩
    obtain ⟨q1, q2, q3, q4⟩ := step_plain h1 h2 h4 h5 h6 hK
    have hrn := rel_step hrel q2 q3 q4 q1
    obtain ⟨r, hr⟩ : ∃ r, nxr s m = r := ⟨_, rfl⟩
    rw [hr] at h5 h6
    have k1 : (r == 10) = false := beq_eq_false_iff_ne.2 h5
    have k2 : (r == 13) = false := beq_eq_false_iff_ne.2 h6
    obtain ⟨T, hTx⟩ : ∃ T, s.extract m (m + K) = T := ⟨_, rfl⟩
    rw [hTx] at hrn
    clear q1 q4
    go_wp2_with (first
              | (go_at_call 68; refine (has_any' _ _ _ _).mono ?_; rintro e w' ⟨rfl, rfl⟩)
              | (go_at_call 59; refine (next_any s m _ (by omega)).mono ?_; rw [hK, hr]; rintro e w1 ⟨rfl, hb1⟩; have hown1 := pw_own_below hown hb1; have hb2 := hnx.trans (hb1.mono hsize); have hsz2 := hb2.size; have d1 := (hb2.cell ha).trans c0)
              | (at_builtin; refine wpList_append_own _ rfl _ _ 87 rfl w.heap.size 9 i0 (.string ByteArray.empty) 1 16 hu42 hi hz0 hz1 hz2 rfl (by decide) _ _ _ rfl (hown1.alloc _) ⟨w1.heap.size, 0, none⟩ 1 1 [.string T] rfl rfl (cell_one_new _ _ _) (fun x hx => by simp at hx; subst hx; rfl) (by unfold maxLen; omega) (by omega) (by simp; omega) ?_; intro v' w3 hown' hgrow3 hnil3))
    go_roundw
    case rel =>
      have R := own_next rfl hrn hown1 hb2 _ hown' hgrow3
      first
        | exact R
        | ((repeat apply Exists.intro); exact ⟨R, rfl⟩)
    case measure => simp [intOf]; omega
theorem str1_any (a b : Nat) (s : ByteArray) (i : Int) (w : World) (hs : s.size ≤ 1000000) (hT : TE w) (c0 : w.cell? ⟨a, 0, none⟩ = some (.string s)) (c1 : w.cell? ⟨b, 0, none⟩ = some (.int .i64 i)) :
    Calls Tryd.prog 67 #[.pointer (some ⟨a, 0, none⟩), .pointer (some ⟨b, 0, none⟩)] w fun e w' => e = strE s i ∧ Below w.heap.size w w' := by
  by_cases hq : hasB s i 34 = true
  · have h0 : 0 ≤ i := by unfold hasB at hq; have := of_decide_eq_true hq; omega
    obtain ⟨n, rfl⟩ : ∃ n : Nat, i = n := ⟨i.toNat, by omega⟩
    exact str1_some a b s n w hs hT c0 c1 hq
  · have hq : hasB s i 34 = false := by simpa using hq
    have e : strE s i = Wrong i := by
      unfold strE StB StI strAt
      rw [hq]; rfl
    rw [e]
    exact (str1_none a b s i w c0 c1 hq).mono (by rintro e w' ⟨rfl, rfl⟩; exact ⟨rfl, Below.refl _ _⟩)
theorem StT_no {s : ByteArray} {i : Int} (h : StB s i = false) : StT s i = ⟨#[]⟩ := by
  unfold StT StB strAt at *
  split
  · rename_i q
    rw [if_pos q] at h
    show ba (strB (at_ s (i + 1))).2.1 = _
    rw [strB_no _ h]; rfl
  · rfl
set_option maxHeartbeats 400000 in
theorem String_any (s : ByteArray) (i : Int) (w : World) (hs : s.size ≤ 1000000) (hT : TE w) :
    Calls Tryd.prog 34 #[.string s, .int .i64 i] w fun e w' => e = .returned (.tuple #[.string (StT s i), .int .i64 (StI s i), .bool (StB s i)]) ∧ Below w.heap.size w w' := by
  have hmf : ∀ (fn : Fn) (first cap : Array Value) (w : World), (Instr.makeFunc fn first cap).run Tryd.prog w = .ok (.func fn first cap) w := fun _ _ _ _ => rfl
  obtain ⟨k0, k1, hb0, hz⟩ := WB_is w s i
  have key : Calls Tryd.prog 66 #[.func (.func 67) #[] #[.pointer (some ⟨w.heap.size, 0, none⟩), .pointer (some ⟨w.heap.size + 1, 0, none⟩)]] (WB w s i) fun e w' => e = .returned (.tuple #[.string (StT s i), .int .i64 (StI s i), .bool (StB s i)]) ∧ Below (WB w s i).heap.size (WB w s i) w' := by
    have hcall : ∀ W, Below (WB w s i).heap.size (WB w s i) W → Calls Tryd.prog 67 #[.pointer (some ⟨w.heap.size, 0, none⟩), .pointer (some ⟨w.heap.size + 1, 0, none⟩)] W fun e w' => e = strE s i ∧ Below W.heap.size W w' :=
      fun W hW => str1_any w.heap.size (w.heap.size + 1) s i W hs (hT.low (hb0.trans (hW.mono (by omega)))) ((hW.cell (by show w.heap.size < _; omega)).trans k0) ((hW.cell (by show w.heap.size + 1 < _; omega)).trans k1)
    cases h : StB s i with
    | false =>
      rw [StT_no h]
      have e : strE s i = Wrong (StI s i) := by unfold strE; rw [h]; rfl
      rw [e] at hcall
      exact tried_no_s _ _ _ _ hcall
    | true =>
      have e : strE s i = .returned (.tuple #[.string (StT s i), .int .i64 (StI s i)]) := if_pos h
      rw [e] at hcall
      exact tried_yes_s _ _ _ _ _ hcall
  go_enter Tryd.func34, Tryd.ntmps34
  go_wp2_with (go_at_call 66; refine key.mono ?_; rintro e w1 ⟨rfl, hb1⟩)
  go_ret3
  exact ⟨rfl, hb0.trans (hb1.mono (by omega))⟩
end Go.Proofs.YtjgpmfjkcioinaaDoor.G
