/-
  The law TextTells, over what its text computes.
-/
import Derived.Test.YtcebkppagamjiaaDoorPD9
import Derived.Test.YtcebkppagamjiaaDoorQ10
namespace Go.Proofs.YtcebkppagamjiaaDoor.G
open Go.RowKit Go.Proofs.YtcebkppagamjiaaDoor.Q Go.Proofs.YtcebkppagamjiaaDoorW.PrintWords Go.Proofs.YtcebkppagamjiaaDoor.M
set_option linter.unusedVariables false
set_option linter.unusedSimpArgs false

/-- What the document's loop tells, behind a place, with what was told before. -/
def sres (x : ByteArray) (m : Nat) (q : Bool × List Int × Nat) : ByteArray × Int × Bool := if q.1 = true then (x ++ ba q.2.1, (m : Int) + q.2.2, true) else (⟨#[]⟩, (m : Int) + q.2.2, false)
theorem sres_no (x : ByteArray) (m : Nat) : sres x m (false, [], 0) = (⟨#[]⟩, (m : Int), false) := by
  show ((⟨#[]⟩ : ByteArray), (m : Int) + ((0 : Nat) : Int), false) = _
  rw [show (m : Int) + ((0 : Nat) : Int) = m by omega]
theorem sres_sadd (x : ByteArray) (m K : Nat) (T : ByteArray) (q : Bool × List Int × Nat) : sres x m (sadd K (by_ T) q) = sres (x ++ T) (m + K) q := by
  unfold sres sadd
  by_cases h : q.1 = true
  · rw [if_pos h, if_pos rfl, if_pos h]
    show (x ++ ba (by_ T ++ q.2.1), (m : Int) + ((K + q.2.2 : Nat) : Int), true) = _
    rw [ba_append, ba_by, ByteArray.append_assoc, show (m : Int) + ((K + q.2.2 : Nat) : Int) = ((m + K : Nat) : Int) + q.2.2 by omega]
  · rw [if_neg h, if_neg (show ¬ (false = true) by decide), if_neg h]
    show ((⟨#[]⟩ : ByteArray), (m : Int) + ((K + q.2.2 : Nat) : Int), false) = _
    rw [show (m : Int) + ((K + q.2.2 : Nat) : Int) = ((m + K : Nat) : Int) + q.2.2 by omega]
theorem ref_Escape' (K : Nat) (hK : 20 ≤ K) (s : ByteArray) (i : Int) (hs : s.size ≤ 1000000) : copperplateref06_Escape.f K s i = some (EsT s i, EsI s i, EsB s i) := by
  obtain ⟨k, rfl⟩ : ∃ k, K = k + 20 := ⟨K - 20, by omega⟩
  exact ref_Escape k s i hs
theorem ref_Hex' (K : Nat) (hK : 12 ≤ K) (s : ByteArray) (i : Int) (hs : s.size ≤ 1000000) : copperplateref06_Hex.f K s i = some (hexN s i, hexOk s i) := by
  obtain ⟨k, rfl⟩ : ∃ k, K = k + 12 := ⟨K - 12, by omega⟩
  exact ref_Hex k s i hs
theorem hasB_bt {s : ByteArray} {m : Nat} (h : m < s.size) (c : Int) : hasB s m c = decide (bt s m = c) := by
  unfold hasB
  exact decide_eq_decide.2 ⟨fun q => q.2.2, fun q => ⟨by omega, by omega, q⟩⟩
theorem strB_at34 {s : ByteArray} {m : Nat} (hm : m < s.size) (h : bt s m = 34) : strB (at_ s m) = (true, [], 1) := by
  rw [at_cons s m (by omega) (by omega), h]; exact strB_quote _
theorem string_loop (s : ByteArray) (hs : s.size ≤ 1000000) : ∀ (r m K : Nat) (x : ByteArray), m + r = s.size → 2 * r + 30 ≤ K → x.size + 4 * r ≤ 10000000 → copperplateref06_String.l0 K s x (m : Int) = some (sres x m (strB (at_ s m))) := by
  intro r
  induction r using Nat.strongRecOn with
  | _ r ih =>
    intro m K x h hK hx
    obtain ⟨k, rfl⟩ : ∃ k, K = k + 2 := ⟨K - 2, by omega⟩
    rw [copperplateref06_String.l0]
    by_cases h0 : m = s.size
    · rw [if_neg (by omega), copperplateref06_String.j2, if_neg (by decide), if_pos (by omega), at_nil s m (by omega), strB_nil, sres_no]
    have hm : m < s.size := by omega
    rw [if_pos (by omega), if_pos (by omega)]
    by_cases c1 : bt s m = 34
    · rw [bne_eq_false_iff_eq.2 c1, copperplateref06_String.j2, if_neg (by decide), if_neg (by omega), w64 (n := (m : Int) + 1) (by omega) (by omega), strB_at34 hm c1]
      show some (x, (m : Int) + 1, true) = some (x ++ ba [], (m : Int) + ((1 : Nat) : Int), true)
      rw [ba_nil, show x ++ (⟨#[]⟩ : ByteArray) = x from ByteArray.append_empty]; rfl
    have h1 : hasB s m 34 = false := by rw [hasB_bt hm]; exact decide_eq_false c1
    rw [show (bt s m != 34) = true from bne_iff_ne.2 c1, copperplateref06_String.j2, if_pos rfl, if_pos (by omega), if_pos (by omega)]
    by_cases c2 : bt s m = 92
    · have h2 : hasB s m 92 = true := by rw [hasB_bt hm]; exact decide_eq_true c2
      rw [if_pos c2, ref_Escape' k (by omega) s m hs, Option.bind_some]
      by_cases e : (escAt s m).2 = 0
      · have hz : escAt s m = ([], 0) := escAt_zero e
        have q1 : EsB s m = false := by unfold EsB; rw [hz]; rfl
        have q2 : EsI s m = m := by unfold EsI; rw [hz]; exact Int.add_zero _
        rw [if_neg (show ¬ EsB s m = true by rw [q1]; decide), step_escno h2 e, sres_no]
        show some ((⟨#[]⟩ : ByteArray), EsI s m, false) = _
        rw [q2]
      · obtain ⟨q1, q2, q3, q4⟩ := step_esc h2 e
        have q5 : EsB s m = true := decide_eq_true e
        have q6 : EsI s m = ((m + (escAt s m).2 : Nat) : Int) := rfl
        rw [if_pos (show EsB s m = true from q5), if_pos (show x.size + (EsT s m).size ≤ 9223372036854775807 by omega), q1, sres_sadd]
        show copperplateref06_String.l0 k s (x ++ EsT s m) (EsI s m) = _
        rw [q6]
        exact ih (r - (escAt s m).2) (by omega) (m + (escAt s m).2) k (x ++ EsT s m) (by omega) (by omega) (by rw [ByteArray.size_append]; omega)
    · have h2 : hasB s m 92 = false := by rw [hasB_bt hm]; exact decide_eq_false c2
      rw [if_neg c2, ref_Next k (by omega) s m hs, Option.bind_some]
      by_cases n0 : nxn s m = 0
      · rw [if_pos (show nxn s m = 0 from n0), step_no h1 h2 (.inl n0), sres_no]
      rw [if_neg (show ¬ nxn s m = 0 from n0)]
      by_cases n1 : nxr s m = 10
      · rw [if_pos (show nxr s m = 10 from n1), step_no h1 h2 (.inr (.inl n1)), sres_no]
      rw [if_neg (show ¬ nxr s m = 10 from n1)]
      by_cases n2 : nxr s m = 13
      · rw [if_pos (show nxr s m = 13 from n2), step_no h1 h2 (.inr (.inr n2)), sres_no]
      rw [if_neg (show ¬ nxr s m = 13 from n2)]
      have hr := nxn_range s m
      obtain ⟨K, hKn⟩ : ∃ K : Nat, nxn s m = (K : Int) := ⟨(nxn s m).toNat, by omega⟩
      obtain ⟨q1, q2, q3, q4⟩ := step_plain h1 h2 n0 n1 n2 hKn
      have hw : wrap64 ((m : Int) + (nxn s m)) = ((m + K : Nat) : Int) := by rw [hKn, w64 (by omega) (by omega)]; rfl
      show (if (m : Int) ≤ wrap64 ((m : Int) + (nxn s m)) then (if wrap64 ((m : Int) + (nxn s m)) ≤ (s.size : Int) then (if x.size + (s.extract (m : Int).toNat (wrap64 ((m : Int) + (nxn s m))).toNat).size ≤ 9223372036854775807 then copperplateref06_String.l0 k s (x ++ s.extract (m : Int).toNat (wrap64 ((m : Int) + (nxn s m))).toNat) (wrap64 ((m : Int) + (nxn s m))) else none) else none) else none) = _
      rw [hw, Int.toNat_natCast, Int.toNat_natCast, if_pos (by omega), if_pos (by omega), if_pos (by omega), q1, sres_sadd]
      exact ih (r - K) (by omega) (m + K) k _ (by omega) (by omega) (by rw [ByteArray.size_append]; omega)
theorem ref_String (K : Nat) (s : ByteArray) (i : Int) (hs : s.size ≤ 1000000) (hK : 2 * s.size + 40 ≤ K) : copperplateref06_String.f K s i = some (StT s i, StI s i, StB s i) := by
  obtain ⟨k, rfl⟩ : ∃ k, K = k + 1 := ⟨K - 1, by omega⟩
  have none_ : hasB s i 34 = false → copperplateref06_String.j0 (k + 1) s i true = some (StT s i, StI s i, StB s i) := by
    intro h
    have e : strAt s i = (false, [], i) := by unfold strAt; rw [h]; rfl
    unfold StT StI StB
    rw [copperplateref06_String.j0, if_pos rfl, e]; rfl
  unfold copperplateref06_String.f
  by_cases q1 : i < 0
  · rw [if_pos q1]; exact none_ (by unfold hasB; exact decide_eq_false (by omega))
  by_cases q2 : i ≥ (s.size : Int)
  · rw [if_neg q1, if_pos q2]; exact none_ (by unfold hasB; exact decide_eq_false (by omega))
  obtain ⟨n, rfl⟩ : ∃ n : Nat, i = n := ⟨i.toNat, by omega⟩
  have hn : n < s.size := by omega
  rw [if_neg q1, if_neg q2, if_pos (by omega), if_pos (by omega)]
  by_cases c : bt s n = 34
  · have hb : hasB s n 34 = true := by rw [hasB_bt hn]; exact decide_eq_true c
    rw [bne_eq_false_iff_eq.2 c, copperplateref06_String.j0, if_neg (by decide), w64 (n := (n : Int) + 1) (by omega) (by omega)]
    have hl := string_loop s hs (s.size - (n + 1)) (n + 1) k ⟨#[]⟩ (by omega) (by omega) (by show 0 + _ ≤ _; omega)
    rw [show (n : Int) + 1 = ((n + 1 : Nat) : Int) from rfl, hl]
    have e : strAt s n = ((strB (at_ s ((n + 1 : Nat) : Int))).1, (strB (at_ s ((n + 1 : Nat) : Int))).2.1, (n : Int) + 1 + (strB (at_ s ((n + 1 : Nat) : Int))).2.2) := by
      unfold strAt; rw [if_pos hb]; rfl
    unfold StT StI StB
    rw [e]
    unfold sres
    cases hq : (strB (at_ s ((n + 1 : Nat) : Int))).1 with
    | true =>
      rw [if_pos rfl, show (⟨#[]⟩ : ByteArray) ++ ba (strB (at_ s ((n + 1 : Nat) : Int))).2.1 = ba (strB (at_ s ((n + 1 : Nat) : Int))).2.1 from ByteArray.empty_append]; rfl
    | false =>
      rw [if_neg (by decide), strB_no _ hq]; rfl
  · rw [show (bt s n != 34) = true from bne_iff_ne.2 c]
    exact none_ (by rw [hasB_bt hn]; exact decide_eq_false c)
theorem textTells_pure : copperplatelaw06_TextTells.Pure := by
  intro s i hs hi
  obtain ⟨K, hK⟩ : ∃ K, K = 2 * s.size + 40 := ⟨_, rfl⟩
  refine ⟨K + 1, ?_⟩
  unfold copperplatelaw06_TextTells.f
  rw [awake6]
  simp only [Option.bind_some, if_true]
  rw [copperplatelaw06_TextTells.j0]
  by_cases h1 : (s.size : Int) > 600
  · rw [decide_eq_true h1, if_pos rfl]
  have a1 := f_String (s := s) (by omega) i
  have a2 := ref_String K s i (by omega) (by omega)
  have a3 := f_Escape (s := s) (by omega) i
  have a4 := ref_Escape' K (by omega) s i (by omega)
  have a5 := f_Hex (s := s) (by omega) i
  have a6 := ref_Hex' K (by omega) s i (by omega)
  obtain ⟨T, hT⟩ : ∃ T, StT s i = T := ⟨_, rfl⟩
  obtain ⟨I, hI⟩ : ∃ T, StI s i = T := ⟨_, rfl⟩
  obtain ⟨B, hB⟩ : ∃ T, StB s i = T := ⟨_, rfl⟩
  obtain ⟨T2, hT2⟩ : ∃ T, EsT s i = T := ⟨_, rfl⟩
  obtain ⟨I2, hI2⟩ : ∃ T, EsI s i = T := ⟨_, rfl⟩
  obtain ⟨B2, hB2⟩ : ∃ T, EsB s i = T := ⟨_, rfl⟩
  obtain ⟨N, hN⟩ : ∃ T, hexN s i = T := ⟨_, rfl⟩
  obtain ⟨O, hO⟩ : ∃ T, hexOk s i = T := ⟨_, rfl⟩
  rw [hT, hI, hB] at a1 a2
  rw [hT2, hI2, hB2] at a3 a4
  rw [hN, hO] at a5 a6
  rw [decide_eq_false h1, if_neg (by decide), a1, a2, a3, a4, a5, a6]
  simp only [Option.bind_some, if_true, beq_self_eq_true]
end Go.Proofs.YtcebkppagamjiaaDoor.G
