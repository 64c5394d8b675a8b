/-
  The laws LinesBack, LinesOver, over what their texts compute.
-/
import Derived.Test.YthjoclmggomhoaaDoorGP1
import Derived.Test.YthjoclmggomhoaaDoorQ5
namespace Go.Proofs.YthjoclmggomhoaaDoor.G
open Go.RowKit Go.Proofs.YthjoclmggomhoaaDoor.Q Go.Proofs.YthjoclmggomhoaaDoorW.PrintWords Go.Proofs.YthjoclmggomhoaaDoor.M
set_option linter.unusedVariables false
set_option linter.unusedSimpArgs false

theorem jn_snoc (r : List (List Int)) (x : List Int) (h : r ≠ []) : jn (r ++ [x]) = jn r ++ 10 :: x := by
  cases r with
  | nil => exact absurd rfl h
  | cons y t => unfold jn; simp
/-- The line at a place. -/
theorem lns_get (s : ByteArray) (k : Nat) (h : k < (lns s).length) : (spl (by_ s))[k]? = some (by_ (rdOf ByteArray.empty (lns s) k)) ∧ (rdOf ByteArray.empty (lns s) k) ∈ lns s := by
  have e : rdOf ByteArray.empty (lns s) k = (lns s)[k] := by
    unfold rdOf
    rw [Int.toNat_natCast, List.getD_eq_getElem?_getD, List.getElem?_eq_getElem h]; rfl
  rw [e]
  refine ⟨?_, List.getElem_mem h⟩
  rw [← lns_by, List.getElem?_map, List.getElem?_eq_getElem h]; rfl
theorem jn_len (s : ByteArray) (k : Nat) : (jn ((spl (by_ s)).take k)).length ≤ s.size := by
  have h := jn_spl (by_ s)
  have h2 : jn (spl (by_ s)) = jn ((spl (by_ s)).take k ++ (spl (by_ s)).drop k) := by rw [List.take_append_drop]
  have gen : ∀ (a b : List (List Int)), (jn a).length ≤ (jn (a ++ b)).length := by
    intro a b
    cases a with
    | nil => exact Nat.zero_le _
    | cons y t => unfold jn; simp
  have := gen ((spl (by_ s)).take k) ((spl (by_ s)).drop k)
  rw [← h2, h, by_length] at this
  exact this
theorem back_loop (s : ByteArray) (hs : s.size ≤ 600) : ∀ (r k K : Nat) (x : ByteArray), k + r = (lns s).length → r + 2 ≤ K → by_ x = jn ((spl (by_ s)).take k) → copperplatelaw21_LinesBack.l0 K s (lns s) x k = some true := by
  intro r
  induction r with
  | zero =>
    intro k K x h hK hx
    obtain ⟨j, rfl⟩ : ∃ j, K = j + 1 := ⟨K - 1, by omega⟩
    have hl := lns_len s
    have hp := spl_pos (by_ s)
    rw [List.take_of_length_le (by omega), jn_spl] at hx
    have e : x = s := by_inj hx
    rw [copperplatelaw21_LinesBack.l0, if_neg (by omega), if_pos (by omega), e]
    simp
  | succ r ih =>
    intro k K x h hK hx
    obtain ⟨j, rfl⟩ : ∃ j, K = j + 1 := ⟨K - 1, by omega⟩
    obtain ⟨hg, hm⟩ := lns_get s k (by omega)
    have hsh := lns_short s _ hm
    have hlb : (lns s).length ≤ 601 := by have h1 := lns_len s; have h2 := spl_length (by_ s); rw [by_length] at h2; omega
    have hxl : x.size ≤ s.size := by have := jn_len s k; rw [← hx, by_length] at this; exact this
    obtain ⟨y, hy⟩ : ∃ y, rdOf ByteArray.empty (lns s) (k : Int) = y := ⟨_, rfl⟩
    rw [hy] at hg hm hsh
    have hone : ((lns y).length : Int) = 1 := by
      rw [lns_len, spl_plain (fun c hc => (spl_mem (by_ s) (by_ y) (List.mem_of_getElem? hg) c hc).1)]; rfl
    have htk : (spl (by_ s)).take (k + 1) = (spl (by_ s)).take k ++ [by_ y] := by rw [List.take_add_one, hg]; rfl
    rw [copperplatelaw21_LinesBack.l0, if_pos (by omega), hy]
    by_cases h0 : k = 0
    · subst h0
      have he : by_ (x ++ y) = jn ((spl (by_ s)).take (0 + 1)) := by
        rw [by_append, hx, htk]
        show [] ++ by_ y = by_ y ++ []
        rw [List.nil_append, List.append_nil]
      rw [if_neg (by decide), if_pos (by decide), if_pos (by omega), f_Lines (by omega), Option.bind_some, if_pos hone, w64' (by decide) (by decide)]
      exact ih (0 + 1) j (x ++ y) (by omega) (by omega) he
    · have hne : (spl (by_ s)).take k ≠ [] := by
        intro e
        have := congrArg List.length e
        have hp := spl_pos (by_ s)
        rw [List.length_take] at this
        have e0 : ([] : List (List Int)).length = 0 := rfl
        have hl := lns_len s
        omega
      have he : by_ ((x ++ (⟨#[10]⟩ : ByteArray)) ++ y) = jn ((spl (by_ s)).take (k + 1)) := by
        rw [by_append, by_append, hx, htk, jn_snoc _ _ hne, show by_ (⟨#[10]⟩ : ByteArray) = [10] from rfl, List.append_assoc]; rfl
      rw [if_pos (by omega), if_pos (by omega), if_pos (by omega), if_pos (by rw [ByteArray.size_append]; show x.size + 1 + y.size ≤ _; omega), f_Lines (by omega), Option.bind_some, if_pos hone, w64' (by omega) (by omega)]
      exact ih (k + 1) j _ (by omega) (by omega) he
theorem linesBack_pure : copperplatelaw21_LinesBack.Pure := by
  intro s hs
  refine ⟨s.size + 10, ?_⟩
  unfold copperplatelaw21_LinesBack.f
  rw [awake21]
  simp only [Option.bind_some, if_true]
  rw [copperplatelaw21_LinesBack.j0]
  by_cases h1 : (s.size : Int) > 600
  · rw [decide_eq_true h1, if_pos rfl]
  rw [decide_eq_false h1, if_neg (by decide), f_Lines (by omega), Option.bind_some]
  have hl := lns_len s
  have hp := spl_length (by_ s)
  rw [by_length] at hp
  exact back_loop s (by omega) (lns s).length 0 (s.size + 9) ⟨#[]⟩ (by omega) (by omega) (by rw [List.take_zero]; rfl)
/-- What stands behind the loop. -/
theorem over_end (s : ByteArray) (hs : s.size ≤ 600) (w i : Int) (hw : w ≤ 1099511627776) (hw0 : -9223372036854775808 ≤ w) (K : Nat) (x : Bool) (hx : x = decide (i ∈ over (by_ s) w)) (k : Nat) (hk : (over (by_ s) w).length ≤ k) :
    copperplatelaw21_LinesOver.l0 (K + 1) s w i (lns s) (over (by_ s) w) (over (by_ s) (w + 1)) x k = some true := by
  have hsz : s.size ≤ 1000000 := by omega
  have hless : (over (by_ s) (w + 1)).length ≤ (over (by_ s) w).length := overs_less (by omega) _ _
  have hnone := overs_none w (spl (by_ s)) 0
  have hl := lns_len s
  have tail : (if ((over (by_ s) (w + 1)).length : Int) > ((over (by_ s) w).length : Int) then (some false) else (if i < 0 then (some true) else (if i ≥ ((lns s).length : Int) then (some true) else (if 0 ≤ i then (if i < ((lns s).length : Int) then ((span_Cols.f (rdOf ByteArray.empty (lns s) i)).bind fun t203 => (some (x == (decide (t203 > w))))) else (none)) else (none))))) = some true := by
    rw [if_neg (by omega)]
    by_cases h0 : i < 0
    · rw [if_pos h0]
    rw [if_neg h0]
    by_cases h1 : i ≥ ((lns s).length : Int)
    · rw [if_pos h1]
    rw [if_neg h1, if_pos (by omega), if_pos (by omega)]
    obtain ⟨n, rfl⟩ : ∃ n : Nat, i = n := ⟨i.toNat, by omega⟩
    obtain ⟨hg, hm⟩ := lns_get s n (by omega)
    have hsh := lns_short s _ hm
    obtain ⟨y, hy⟩ : ∃ y, rdOf ByteArray.empty (lns s) (n : Int) = y := ⟨_, rfl⟩
    rw [hy] at hg hsh ⊢
    rw [f_Cols (by omega), Option.bind_some]
    have e : x = decide (((cols (by_ y) : Nat) : Int) > w) := by
      rw [hx, decide_eq_decide]
      have hmem := overs_mem w (spl (by_ s)) 0 (n : Int)
      show (n : Int) ∈ overs w 0 (spl (by_ s)) ↔ _
      rw [hmem]
      constructor
      · rintro ⟨j, q1, z, q2, q3⟩
        have : j = n := by omega
        subst this
        rw [hg] at q2; cases q2; exact q3
      · intro q
        exact ⟨n, by omega, by_ y, hg, q⟩
    rw [e, beq_self_eq_true]
  rw [copperplatelaw21_LinesOver.l0, if_neg (by omega), f_Widest hsz, Option.bind_some]
  by_cases hw2 : 0 ≤ w
  · have e : ((((over (by_ s) w).length : Int) == 0) != (decide (((widest (by_ s) : Nat) : Int) ≤ w))) = false := by
      have hn := hnone hw2
      have h2 : (((over (by_ s) w).length : Int) == 0) = decide (((widest (by_ s) : Nat) : Int) ≤ w) := by
        rw [Bool.eq_iff_iff, beq_iff_eq, decide_eq_true_eq]
        show _ ↔ ((most ((spl (by_ s)).map cols) : Nat) : Int) ≤ w
        rw [← hn]
        show _ ↔ over (by_ s) w = []
        rw [← List.length_eq_zero_iff]; omega
      rw [h2]; simp
    rw [e, if_neg (by decide)]
    exact tail
  · by_cases hcond : ((((over (by_ s) w).length : Int) == 0) != (decide (((widest (by_ s) : Nat) : Int) ≤ w))) = true
    · rw [if_pos hcond, if_neg (show ¬ w ≥ 0 from hw2)]; exact tail
    · rw [if_neg hcond]; exact tail
theorem over_loop (s : ByteArray) (hs : s.size ≤ 600) (w i : Int) (hw : w ≤ 1099511627776) (hw0 : -9223372036854775808 ≤ w) : ∀ (r k K : Nat), k + r = (over (by_ s) w).length → r + 2 ≤ K →
    copperplatelaw21_LinesOver.l0 K s w i (lns s) (over (by_ s) w) (over (by_ s) (w + 1)) (decide (i ∈ (over (by_ s) w).take k)) k = some true := by
  intro r
  induction r with
  | zero =>
    intro k K h hK
    obtain ⟨j, rfl⟩ : ∃ j, K = j + 1 := ⟨K - 1, by omega⟩
    exact over_end s hs w i hw hw0 j _ (by rw [List.take_of_length_le (by omega)]) k (by omega)
  | succ r ih =>
    intro k K h hK
    obtain ⟨j, rfl⟩ : ∃ j, K = j + 1 := ⟨K - 1, by omega⟩
    have hb : (over (by_ s) w).length ≤ 1000000 := by
      have h1 := overs_len w (spl (by_ s)) 0
      have h2 := spl_length (by_ s)
      rw [by_length] at h2
      have : (over (by_ s) w).length ≤ (spl (by_ s)).length := h1
      omega
    have next := ih (k + 1) j (by omega) (by omega)
    have hk : k < (over (by_ s) w).length := by omega
    have e : rd (over (by_ s) w) k = (over (by_ s) w)[k] := by
      unfold rd; rw [Int.toNat_natCast, List.getD_eq_getElem?_getD, List.getElem?_eq_getElem hk]; rfl
    have ht : (over (by_ s) w).take (k + 1) = (over (by_ s) w).take k ++ [rd (over (by_ s) w) k] := by
      rw [List.take_add_one, List.getElem?_eq_getElem hk, e]; rfl
    have hd : decide (i ∈ (over (by_ s) w).take (k + 1)) = (decide (i ∈ (over (by_ s) w).take k) || (rd (over (by_ s) w) k == i)) := by
      rw [ht, Bool.eq_iff_iff, Bool.or_eq_true, decide_eq_true_eq, decide_eq_true_eq, beq_iff_eq, List.mem_append, List.mem_singleton]
      exact ⟨fun q => q.imp id Eq.symm, fun q => q.imp id Eq.symm⟩
    rw [hd] at next
    rw [copperplatelaw21_LinesOver.l0, if_pos (by omega), w64' (by omega) (by omega)]
    cases hx : decide (i ∈ (over (by_ s) w).take k) with
    | true => rw [hx, Bool.true_or] at next; rw [if_pos rfl]; exact next
    | false => rw [hx, Bool.false_or] at next; rw [if_neg (by decide), if_pos (by omega)]; exact next
theorem i64_bounds {n : Int} (h : (Lit.int .i64 n).wf = true) : -9223372036854775808 ≤ n ∧ n ≤ 9223372036854775807 := by
  simp [Lit.wf, IntKind.min, IntKind.max, IntKind.signed, IntKind.bits] at h
  omega
theorem linesOver_pure : copperplatelaw21_LinesOver.Pure := by
  intro s w i hs hw hi
  have hwb := i64_bounds hw
  refine ⟨s.size + 10, ?_⟩
  unfold copperplatelaw21_LinesOver.f
  rw [awake21]
  simp only [Option.bind_some, if_true]
  by_cases h1 : (s.size : Int) > 600
  · rw [if_pos h1, copperplatelaw21_LinesOver.j0, if_pos rfl]
  rw [if_neg h1, copperplatelaw21_LinesOver.j0]
  by_cases h2 : w > 1099511627776
  · rw [decide_eq_true h2, if_pos rfl]
  rw [decide_eq_false h2, if_neg (by decide), f_Lines (by omega), Option.bind_some, f_Over (by omega), Option.bind_some, f_Over (by omega), Option.bind_some, w64' (by omega) (by omega)]
  have hb : (over (by_ s) w).length ≤ s.size + 1 := by
    have h1 := overs_len w (spl (by_ s)) 0
    have h2 := spl_length (by_ s)
    rw [by_length] at h2
    have : (over (by_ s) w).length ≤ (spl (by_ s)).length := h1
    omega
  exact over_loop s (by omega) w i (by omega) (by omega) (over (by_ s) w).length 0 (s.size + 9) (by omega) (by omega)
end Go.Proofs.YthjoclmggomhoaaDoor.G
