/-
  The law LinesTells, over what its text computes: the document's lines.
-/
import Derived.Test.YthjoclmggomhoaaDoorGP2
import Derived.Test.YthjoclmggomhoaaDoorRN
import Derived.Test.YthjoclmggomhoaaDoorQ4
import Derived.Test.YthjoclmggomhoaaDoorQ1
import Derived.Test.YthjoclmggomhoaaDoorQ3
namespace Go.Proofs.YthjoclmggomhoaaDoor.G
open Go.RowKit Go.Proofs.YthjoclmggomhoaaDoor.Q Go.Proofs.YthjoclmggomhoaaDoorW.PrintWords Go.Proofs.YthjoclmggomhoaaDoor.M
set_option linter.unusedVariables false
set_option linter.unusedSimpArgs false

theorem lns_ba (s : ByteArray) : lns s = (spl (by_ s)).map ba := by
  rw [← lns_by, List.map_map]
  conv => lhs; rw [← List.map_id (lns s)]
  exact List.map_congr_left fun x _ => (ba_by x).symm
theorem by_ext_nil (s : ByteArray) (i : Nat) : by_ (s.extract i i) = [] := by rw [by_extract, List.drop_eq_nil_iff, List.length_take]; omega
theorem by_ext_succ (s : ByteArray) (f i : Nat) (h : f ≤ i) (hi : i < s.size) : by_ (s.extract f (i + 1)) = by_ (s.extract f i) ++ [bt s i] := by
  rw [by_extract, by_extract, take_succ_by s i hi, List.drop_append_of_le_length (by rw [List.length_take, by_length]; omega)]
theorem ref_Lines (s : ByteArray) (hs : s.size ≤ 1000000) : ∀ (r i f K : Nat) (out : List ByteArray), i + r = s.size → r + 2 ≤ K → f ≤ i → out.length + r ≤ 1000000 →
    copperplateref21_Lines.l0 K s out f i = some (out ++ (spw (by_ (s.extract f i)) (at_ s i)).map ba) := by
  intro r
  induction r with
  | zero =>
    intro i f K out h hK hf ho
    obtain ⟨j, rfl⟩ : ∃ j, K = j + 1 := ⟨K - 1, by omega⟩
    rw [copperplateref21_Lines.l0, if_neg (by omega), if_pos (by omega), if_pos (by omega), if_pos (by omega), at_nil s i (by omega), spw_nil, Int.toNat_natCast, List.map_cons, List.map_nil, ba_by, show i = s.size by omega]
  | succ r ih =>
    intro i f K out h hK hf ho
    obtain ⟨j, rfl⟩ : ∃ j, K = j + 1 := ⟨K - 1, by omega⟩
    rw [copperplateref21_Lines.l0, if_pos (by omega), if_pos (by omega), at_cons s i (by omega) (by omega), w64' (n := (i : Int) + 1) (by omega) (by omega), show (i : Int) + 1 = ((i + 1 : Nat) : Int) from rfl]
    by_cases c : bt s i = 10
    · rw [if_pos c, if_pos (by omega), if_pos (by omega), if_pos (by omega), if_pos (by omega), c, spw_ten, ih (i + 1) (i + 1) j _ (by omega) (by omega) (by omega) (by rw [List.length_append]; show out.length + 1 + r ≤ _; omega), by_ext_nil, spw_empty, Int.toNat_natCast, Int.toNat_natCast, List.map_cons, ba_by]
      simp
    · rw [if_neg c, spw_other c, ih (i + 1) f j out (by omega) (by omega) (by omega) (by omega), by_ext_succ s f i hf (by omega)]
theorem ref_Lines_f (K : Nat) (s : ByteArray) (hs : s.size ≤ 1000000) (hK : s.size + 2 ≤ K) : copperplateref21_Lines.f K s = some (lns s) := by
  have := ref_Lines s hs s.size 0 0 K [] (by omega) hK (Nat.le_refl _) (by simp; omega)
  unfold copperplateref21_Lines.f
  rw [show ((0 : Nat) : Int) = 0 from rfl] at this
  rw [this, at_zero, by_ext_nil, spw_empty, lns_ba]
  rfl
theorem texts_same (l : List ByteArray) (hl : l.length ≤ 10000000) : ∀ (r k K : Nat), k + r = l.length → r + 2 ≤ K → copperplateref07_Texts.l0 K l l k = some true := by
  intro r
  induction r with
  | zero =>
    intro k K h hK
    obtain ⟨j, rfl⟩ : ∃ j, K = j + 1 := ⟨K - 1, by omega⟩
    rw [copperplateref07_Texts.l0, if_neg (by omega)]
  | succ r ih =>
    intro k K h hK
    obtain ⟨j, rfl⟩ : ∃ j, K = j + 1 := ⟨K - 1, by omega⟩
    rw [copperplateref07_Texts.l0, if_pos (by omega), if_pos (by omega), if_pos (by omega), if_pos rfl, w64' (by omega) (by omega)]
    exact ih (k + 1) j (by omega) (by omega)
theorem texts_f (l : List ByteArray) (hl : l.length ≤ 10000000) (K : Nat) (hK : l.length + 2 ≤ K) : copperplateref07_Texts.f K l l = some true := by
  unfold copperplateref07_Texts.f
  rw [if_pos rfl]
  exact texts_same l hl l.length 0 K (by omega) (by omega)
theorem ints_same (l : List Int) (hl : l.length ≤ 10000000) : ∀ (r k K : Nat), k + r = l.length → r + 2 ≤ K → copperplateref10_Ints.l0 K l l k = some true := by
  intro r
  induction r with
  | zero =>
    intro k K h hK
    obtain ⟨j, rfl⟩ : ∃ j, K = j + 1 := ⟨K - 1, by omega⟩
    rw [copperplateref10_Ints.l0, if_neg (by omega)]
  | succ r ih =>
    intro k K h hK
    obtain ⟨j, rfl⟩ : ∃ j, K = j + 1 := ⟨K - 1, by omega⟩
    rw [copperplateref10_Ints.l0, if_pos (by omega), if_pos (by omega), if_pos (by omega), if_pos rfl, w64' (by omega) (by omega)]
    exact ih (k + 1) j (by omega) (by omega)
theorem ints_f (l : List Int) (hl : l.length ≤ 10000000) (K : Nat) (hK : l.length + 2 ≤ K) : copperplateref10_Ints.f K l l = some true := by
  unfold copperplateref10_Ints.f
  rw [if_pos rfl]
  exact ints_same l hl l.length 0 K (by omega) (by omega)
theorem ref_Cols (s : ByteArray) (hs : s.size ≤ 1000000) : ∀ (r i n K : Nat), i + r = s.size → r + 30 ≤ K → n ≤ i → copperplateref17_Cols.l0 K s n i = some (((n + cols (at_ s i) : Nat) : Int)) := by
  intro r
  induction r using Nat.strongRecOn with
  | _ r ih =>
    intro i n K h hK hn
    obtain ⟨j, rfl⟩ : ∃ j, K = j + 1 := ⟨K - 1, by omega⟩
    rw [copperplateref17_Cols.l0]
    by_cases h0 : i = s.size
    · rw [if_neg (by omega), at_nil s i (by omega), cols_nil]; rfl
    have hne : at_ s i ≠ [] := by rw [at_cons s i (by omega) (by omega)]; simp
    have hle := nxp_le isc (at_ s i)
    have hl := at_length s i (by omega) (by omega)
    have hn2 := nxn_at s i
    rw [if_pos (by omega), ref_Next j (by omega) s i hs, Option.bind_some, cols_step hne]
    simp only []
    rw [hn2, w64' (n := (n : Int) + 1) (by omega) (by omega), w64' (n := (i : Int) + 1) (by omega) (by omega), w64' (n := (i : Int) + _) (by omega) (by omega)]
    by_cases q : (nxp isc (at_ s i)).2 = 0
    · rw [if_pos (by omega), q, show max 1 0 = 1 from rfl, show (i : Int) + 1 = ((i + 1 : Nat) : Int) from rfl, show (n : Int) + 1 = ((n + 1 : Nat) : Int) from rfl, ih (r - 1) (by omega) (i + 1) (n + 1) j (by omega) (by omega) (by omega), ← at_add s i 1 (by omega)]
      show some (((n + 1 + cols (at_ s ((i : Int) + 1)) : Nat)) : Int) = some (((n + (cols (at_ s ((i : Int) + 1)) + 1) : Nat)) : Int)
      congr 2; omega
    · obtain ⟨m, hm⟩ : ∃ m, (nxp isc (at_ s i)).2 = m := ⟨_, rfl⟩
      rw [hm] at q hle ⊢
      rw [if_neg (by omega), show max 1 m = m by omega, show (i : Int) + (m : Int) = ((i + m : Nat) : Int) by omega, show (n : Int) + 1 = ((n + 1 : Nat) : Int) from rfl, ih (r - m) (by omega) (i + m) (n + 1) j (by omega) (by omega) (by omega), ← at_add s i m (by omega), show (i : Int) + (m : Int) = ((i + m : Nat) : Int) by omega]
      congr 2; omega
theorem ref_Cols_f (K : Nat) (s : ByteArray) (hs : s.size ≤ 1000000) (hK : s.size + 30 ≤ K) : copperplateref17_Cols.f K s = some ((cols (by_ s) : Nat) : Int) := by
  have := ref_Cols s hs s.size 0 0 K (by omega) hK (Nat.le_refl _)
  unfold copperplateref17_Cols.f
  rw [show ((0 : Nat) : Int) = 0 from rfl, at_zero, Nat.zero_add] at this
  exact this
theorem drop_lns (s : ByteArray) (k : Nat) (h : k < (lns s).length) : ∃ y, rdOf ByteArray.empty (lns s) (k : Int) = y ∧ (lns s).drop k = y :: (lns s).drop (k + 1) ∧ y.size ≤ s.size := by
  have e : rdOf ByteArray.empty (lns s) k = (lns s)[k] := by
    unfold rdOf
    rw [Int.toNat_natCast, List.getD_eq_getElem?_getD, List.getElem?_eq_getElem h]; rfl
  exact ⟨_, e, List.drop_eq_getElem_cons h, lns_short s _ (List.getElem_mem h)⟩
theorem ref_Widest (s : ByteArray) (hs : s.size ≤ 600) : ∀ (r k m K : Nat), k + r = (lns s).length → r + 700 ≤ K → copperplateref21_Widest.l0 K (lns s) m k = some (((max m (most ((((lns s).drop k).map by_).map cols)) : Nat)) : Int) := by
  intro r
  induction r with
  | zero =>
    intro k m K h hK
    obtain ⟨j, rfl⟩ : ∃ j, K = j + 1 := ⟨K - 1, by omega⟩
    rw [copperplateref21_Widest.l0, if_neg (by omega), List.drop_eq_nil_iff.2 (by omega)]
    show some (m : Int) = some ((max m 0 : Nat) : Int)
    rw [Nat.max_eq_left (Nat.zero_le _)]
  | succ r ih =>
    intro k m K h hK
    obtain ⟨j, rfl⟩ : ∃ j, K = j + 1 := ⟨K - 1, by omega⟩
    obtain ⟨y, hy, hd, hz⟩ := drop_lns s k (by omega)
    have hl := lns_len s
    have h2 := spl_length (by_ s)
    rw [by_length] at h2
    rw [copperplateref21_Widest.l0, if_pos (by omega), if_pos (by omega), hy, ref_Cols_f j y (by omega) (by omega), Option.bind_some, hd, w64' (by omega) (by omega), show (k : Int) + 1 = ((k + 1 : Nat) : Int) from rfl]
    show _ = some (((max m (max (cols (by_ y)) (most ((((lns s).drop (k + 1)).map by_).map cols))) : Nat)) : Int)
    by_cases c : ((cols (by_ y) : Nat) : Int) > (m : Int)
    · rw [if_pos c, ih (k + 1) (cols (by_ y)) j (by omega) (by omega)]
      congr 2; omega
    · rw [if_neg c, ih (k + 1) m j (by omega) (by omega)]
      congr 2; omega
theorem ref_Over (s : ByteArray) (hs : s.size ≤ 600) (w : Int) : ∀ (r k K : Nat) (out : List Int), k + r = (lns s).length → r + 700 ≤ K → out.length ≤ k → copperplateref21_Over.l0 K w (lns s) out k = some (out ++ overs w k (((lns s).drop k).map by_)) := by
  intro r
  induction r with
  | zero =>
    intro k K out h hK ho
    obtain ⟨j, rfl⟩ : ∃ j, K = j + 1 := ⟨K - 1, by omega⟩
    rw [copperplateref21_Over.l0, if_neg (by omega), List.drop_eq_nil_iff.2 (by omega)]
    simp [overs]
  | succ r ih =>
    intro k K out h hK ho
    obtain ⟨j, rfl⟩ : ∃ j, K = j + 1 := ⟨K - 1, by omega⟩
    obtain ⟨y, hy, hd, hz⟩ := drop_lns s k (by omega)
    have hl := lns_len s
    have h2 := spl_length (by_ s)
    rw [by_length] at h2
    rw [copperplateref21_Over.l0, if_pos (by omega), if_pos (by omega), hy, ref_Cols_f j y (by omega) (by omega), Option.bind_some, hd, w64' (by omega) (by omega), show (k : Int) + 1 = ((k + 1 : Nat) : Int) from rfl, List.map_cons, overs]
    by_cases c : ((cols (by_ y) : Nat) : Int) > w
    · rw [if_pos c, if_pos (by omega), if_pos c, ih (k + 1) j _ (by omega) (by omega) (by rw [List.length_append]; show out.length + 1 ≤ _; omega)]
      simp
    · rw [if_neg c, if_neg c, ih (k + 1) j out (by omega) (by omega) (by omega)]
theorem ref_Margin (s : ByteArray) (hs : s.size ≤ 600) : ∀ (r k K : Nat), k + r = s.size → r + 2 ≤ K → copperplateref21_Margin.l0 K s k = some (((k + marg (at_ s k) : Nat)) : Int) := by
  intro r
  induction r with
  | zero =>
    intro k K h hK
    obtain ⟨j, rfl⟩ : ∃ j, K = j + 1 := ⟨K - 1, by omega⟩
    rw [copperplateref21_Margin.l0, if_neg (by omega), at_nil s k (by omega)]; rfl
  | succ r ih =>
    intro k K h hK
    obtain ⟨j, rfl⟩ : ∃ j, K = j + 1 := ⟨K - 1, by omega⟩
    rw [copperplateref21_Margin.l0, if_pos (by omega), if_pos (by omega), at_cons s k (by omega) (by omega)]
    by_cases c : bt s k = 32
    · have e : marg (bt s k :: at_ s ((k : Int) + 1)) = marg (at_ s ((k : Int) + 1)) + 1 := cnt_yes _ (decide_eq_true c)
      rw [if_pos c, e, w64' (by omega) (by omega), show (k : Int) + 1 = ((k + 1 : Nat) : Int) from rfl, ih (k + 1) j (by omega) (by omega)]
      congr 2; omega
    · have e : marg (bt s k :: at_ s ((k : Int) + 1)) = 0 := cnt_no _ (decide_eq_false c)
      rw [if_neg c, e]; rfl
/-- Neat, byte by byte. -/
def nt : List Int → Bool
  | [] => true
  | c :: l => !(decide (c = 13 ∨ c = 9 ∨ c = 32 ∧ (l = [] ∨ l.getD 0 0 = 10))) && nt l
theorem spl_hd (l : List Int) : (spl l).headD [] = [] ↔ (l = [] ∨ l.getD 0 0 = 10) := by
  cases l with
  | nil => simp [spl]
  | cons c l =>
    by_cases h : c = 10
    · subst h; rw [spl_ten]; simp
    · rw [spl_other h]; simp [h]
theorem endSp_cons (c : Int) (x : List Int) : endSp (c :: x) = if x = [] then decide (c = 32) else endSp x := by
  unfold endSp
  cases x with
  | nil => simp
  | cons d x => rw [if_neg (by simp), List.getLast?_cons_cons]
theorem nt_neat : ∀ l : List Int, nt l = neat l
  | [] => rfl
  | c :: l => by
    have ih := nt_neat l
    rw [nt, ih]
    unfold neat odd
    rw [List.any_cons]
    by_cases h : c = 10
    · subst h
      rw [spl_ten, List.any_cons]
      have e1 : decide ((10 : Int) = 13 ∨ (10 : Int) = 9 ∨ (10 : Int) = 32 ∧ (l = [] ∨ l.getD 0 0 = 10)) = false := decide_eq_false (by omega)
      rw [e1]
      show _ = (!(false || _) && !(false || _))
      rw [Bool.false_or, Bool.false_or]; rfl
    · have hh := spl_hd l
      rw [spl_other h, List.any_cons, endSp_cons]
      conv => lhs; rw [spl_head l]
      rw [List.any_cons]
      by_cases q : (spl l).headD [] = []
      · have q2 := hh.1 q
        have e1 : decide (c = 13 ∨ c = 9 ∨ c = 32 ∧ (l = [] ∨ l.getD 0 0 = 10)) = (decide (c = 9 ∨ c = 13) || decide (c = 32)) := by
          rw [Bool.eq_iff_iff, Bool.or_eq_true, decide_eq_true_eq, decide_eq_true_eq, decide_eq_true_eq]
          constructor
          · rintro (a | a | a)
            · exact .inl (.inr a)
            · exact .inl (.inl a)
            · exact .inr a.1
          · rintro ((a | a) | a)
            · exact .inr (.inl a)
            · exact .inl a
            · exact .inr (.inr ⟨a, q2⟩)
        rw [if_pos q, e1, q]
        show (!(_ || _) && (!_ && !(false || _))) = _
        cases decide (c = 9 ∨ c = 13) <;> cases decide (c = 32) <;> cases (l.any fun c => decide (c = 9 ∨ c = 13)) <;> cases ((spl l).tail.any endSp) <;> rfl
      · have q2 : ¬ (l = [] ∨ l.getD 0 0 = 10) := fun z => q (hh.2 z)
        have e1 : decide (c = 13 ∨ c = 9 ∨ c = 32 ∧ (l = [] ∨ l.getD 0 0 = 10)) = decide (c = 9 ∨ c = 13) := by
          rw [decide_eq_decide]
          constructor
          · rintro (a | a | a)
            · exact .inr a
            · exact .inl a
            · exact absurd a.2 q2
          · rintro (a | a)
            · exact .inr (.inl a)
            · exact .inl a
        rw [if_neg q, e1]
        cases decide (c = 9 ∨ c = 13) <;> cases (l.any fun c => decide (c = 9 ∨ c = 13)) <;> cases endSp ((spl l).headD []) <;> cases ((spl l).tail.any endSp) <;> rfl
theorem ref_Clean (s : ByteArray) (hs : s.size ≤ 600) (b : Bool) : ∀ (r k K : Nat), k + r = s.size → r + 2 ≤ K → copperplateref21_Clean.l0 K s b k = some (b && nt (at_ s k) || !nt (at_ s k) && false) := by
  intro r
  induction r with
  | zero =>
    intro k K h hK
    obtain ⟨j, rfl⟩ : ∃ j, K = j + 1 := ⟨K - 1, by omega⟩
    rw [copperplateref21_Clean.l0, if_neg (by omega), at_nil s k (by omega)]
    cases b <;> rfl
  | succ r ih =>
    intro k K h hK
    obtain ⟨j, rfl⟩ : ∃ j, K = j + 1 := ⟨K - 1, by omega⟩
    have next := ih (k + 1) j (by omega) (by omega)
    have hc := at_cons s k (by omega) (by omega)
    have step : ∀ q : Bool, q = decide (bt s k = 13 ∨ bt s k = 9 ∨ bt s k = 32 ∧ (at_ s ((k : Int) + 1) = [] ∨ (at_ s ((k : Int) + 1)).getD 0 0 = 10)) → nt (at_ s k) = (!q && nt (at_ s ((k + 1 : Nat) : Int))) := by
      intro q hq
      rw [hc, nt, hq]; rfl
    rw [copperplateref21_Clean.l0, if_pos (by omega), w64' (by omega) (by omega), show (k : Int) + 1 = ((k + 1 : Nat) : Int) from rfl, next]
    rw [show (k : Int) + 1 = ((k + 1 : Nat) : Int) from rfl] at step
    have no : nt (at_ s k) = false → some false = some (b && nt (at_ s k) || !nt (at_ s k) && false) := by
      intro e; rw [e]; cases b <;> rfl
    have yes : nt (at_ s k) = nt (at_ s ((k + 1 : Nat) : Int)) → some (b && nt (at_ s ((k + 1 : Nat) : Int)) || !nt (at_ s ((k + 1 : Nat) : Int)) && false) = some (b && nt (at_ s k) || !nt (at_ s k) && false) := by
      intro e; rw [e]
    by_cases e : ((k + 1 : Nat) : Int) = (s.size : Int)
    · have hn := at_nil s ((k + 1 : Nat) : Int) (by omega)
      rw [if_pos e, if_pos (by omega)]
      by_cases c1 : bt s k = 13
      · rw [if_pos c1]; exact no (by rw [step true (decide_eq_true (.inl c1)).symm]; rfl)
      rw [if_neg c1]
      by_cases c2 : bt s k = 9
      · rw [if_pos c2]; exact no (by rw [step true (decide_eq_true (.inr (.inl c2))).symm]; rfl)
      rw [if_neg c2]
      by_cases c3 : bt s k = 32
      · rw [if_pos c3]; exact no (by rw [step true (decide_eq_true (.inr (.inr ⟨c3, .inl hn⟩))).symm]; rfl)
      rw [if_neg c3]
      exact yes (by rw [step false (decide_eq_false (by omega)).symm]; rfl)
    · have hn := at_cons s ((k + 1 : Nat) : Int) (by omega) (by omega)
      have hne : at_ s ((k + 1 : Nat) : Int) ≠ [] := by rw [hn]; simp
      have hg : (at_ s ((k + 1 : Nat) : Int)).getD 0 0 = bt s ((k + 1 : Nat) : Int) := by rw [hn]; rfl
      rw [if_neg e, if_pos (by omega), if_pos (by omega), if_pos (by omega)]
      by_cases c1 : bt s k = 13
      · rw [if_pos c1]; exact no (by rw [step true (decide_eq_true (.inl c1)).symm]; rfl)
      rw [if_neg c1]
      by_cases c2 : bt s k = 9
      · rw [if_pos c2]; exact no (by rw [step true (decide_eq_true (.inr (.inl c2))).symm]; rfl)
      rw [if_neg c2]
      by_cases c3 : bt s k = 32
      · rw [if_pos c3]
        by_cases c4 : bt s ((k + 1 : Nat) : Int) = 10
        · rw [if_pos c4]; exact no (by rw [step true (decide_eq_true (.inr (.inr ⟨c3, .inr (hg.trans c4)⟩))).symm]; rfl)
        rw [if_neg c4]
        exact yes (by rw [step false (decide_eq_false (fun q => q.elim c1 (fun q => q.elim c2 (fun q => q.2.elim hne (fun a => c4 (hg.symm.trans a)))))).symm]; rfl)
      rw [if_neg c3]
      exact yes (by rw [step false (decide_eq_false (fun q => q.elim c1 (fun q => q.elim c2 (fun q => c3 q.1)))).symm]; rfl)
theorem ref_Bad (s : ByteArray) (hs : s.size ≤ 1000000) : ∀ (r k K : Nat), k + r = s.size → r + 30 ≤ K → ∃ b : Int, copperplateref02_Bad.l0 K s k = some b ∧ (b == -1) = mayp isc (at_ s k) := by
  intro r
  induction r using Nat.strongRecOn with
  | _ r ih =>
    intro k K h hK
    obtain ⟨j, rfl⟩ : ∃ j, K = j + 1 := ⟨K - 1, by omega⟩
    by_cases h0 : k = s.size
    · exact ⟨-1, by rw [copperplateref02_Bad.l0, if_neg (by omega)], by rw [at_nil s k (by omega), mayp_nil]; rfl⟩
    have hne : at_ s k ≠ [] := by rw [at_cons s k (by omega) (by omega)]; simp
    have hle := nxp_le isc (at_ s k)
    have hl := at_length s k (by omega) (by omega)
    have hn2 := nxn_at s k
    have e : copperplateref02_Bad.l0 (j + 1) s k = if nxn s k = 0 then some (k : Int) else copperplateref02_Bad.l0 j s (wrap64 ((k : Int) + nxn s k)) := by
      rw [copperplateref02_Bad.l0, if_pos (by omega), ref_Next j (by omega) s k hs, Option.bind_some]
    by_cases q : (nxp isc (at_ s k)).2 = 0
    · exact ⟨k, by rw [e, if_pos (by omega)], by rw [mayp_not hne q]; exact beq_eq_false_iff_ne.2 (by omega)⟩
    · obtain ⟨b, h1, h2⟩ := ih (r - (nxp isc (at_ s k)).2) (by omega) (k + (nxp isc (at_ s k)).2) j (by omega) (by omega)
      refine ⟨b, ?_, ?_⟩
      · rw [e, if_neg (by omega), hn2, w64' (by omega) (by omega), show (k : Int) + (((nxp isc (at_ s k)).2 : Nat) : Int) = ((k + (nxp isc (at_ s k)).2 : Nat) : Int) by omega, h1]
      · rw [h2, mayp_step q, ← at_add s k _ (by omega)]; rfl
theorem ref_May (K : Nat) (s : ByteArray) (hs : s.size ≤ 1000000) (hK : s.size + 30 ≤ K) : copperplateref02_May.f K s = some (mayp isc (by_ s)) := by
  obtain ⟨b, h1, h2⟩ := ref_Bad s hs s.size 0 K (by omega) hK
  rw [show ((0 : Nat) : Int) = 0 from rfl, at_zero] at h2
  unfold copperplateref02_May.f copperplateref02_Bad.f
  rw [show copperplateref02_Bad.l0 K s 0 = some b from h1, Option.bind_some, h2]
theorem linesTells_pure : copperplatelaw21_LinesTells.Pure := by
  intro s w hs hw
  refine ⟨s.size + 2002, ?_⟩
  unfold copperplatelaw21_LinesTells.f
  rw [awake21]
  simp only [Option.bind_some, if_true]
  rw [copperplatelaw21_LinesTells.j0]
  by_cases h1 : (s.size : Int) > 600
  · rw [decide_eq_true h1, if_pos rfl]
  have hsz : s.size ≤ 1000000 := by omega
  have hl := lns_len s
  have h2 := spl_length (by_ s)
  rw [by_length] at h2
  have hb : (over (by_ s) w).length ≤ s.size + 1 := by
    have h1 := overs_len w (spl (by_ s)) 0
    have : (over (by_ s) w).length ≤ (spl (by_ s)).length := h1
    omega
  obtain ⟨K, hK⟩ : ∃ K, s.size + 2001 = K := ⟨_, rfl⟩
  have a1 := ref_Lines_f K s hsz (by omega)
  have a2 := texts_f (lns s) (by omega) K (by omega)
  have a3 : copperplateref21_Over.f K s w = some (over (by_ s) w) := by
    unfold copperplateref21_Over.f
    rw [a1, Option.bind_some]
    have := ref_Over s (by omega) w (lns s).length 0 K [] (by omega) (by omega) (Nat.le_refl _)
    rw [List.drop_zero, lns_by, List.nil_append] at this
    exact this
  have a4 := ints_f (over (by_ s) w) (by omega) K (by omega)
  have a5 : copperplateref21_Clean.f K s = some (clean (by_ s)) := by
    unfold copperplateref21_Clean.f
    rw [ref_May K s hsz (by omega), Option.bind_some]
    have := ref_Clean s (by omega) (mayp isc (by_ s)) s.size 0 K (by omega) (by omega)
    rw [show ((0 : Nat) : Int) = 0 from rfl, at_zero] at this
    rw [this, nt_neat]
    unfold clean
    cases mayp isc (by_ s) <;> cases neat (by_ s) <;> rfl
  have a6 : copperplateref21_Widest.f K s = some ((widest (by_ s) : Nat) : Int) := by
    unfold copperplateref21_Widest.f
    rw [a1, Option.bind_some]
    have := ref_Widest s (by omega) (lns s).length 0 0 K (by omega) (by omega)
    rw [List.drop_zero, lns_by] at this
    rw [show copperplateref21_Widest.l0 K (lns s) 0 0 = _ from this]
    unfold widest
    congr 2
  have a7 : copperplateref21_Margin.f K s = some ((marg (by_ s) : Nat) : Int) := by
    have := ref_Margin s (by omega) s.size 0 K (by omega) (by omega)
    rw [show ((0 : Nat) : Int) = 0 from rfl, at_zero, Nat.zero_add] at this
    exact this
  rw [decide_eq_false h1, if_neg (by decide), hK, f_Lines hsz, a1]
  simp only [Option.bind_some]
  rw [a2, f_Over hsz, a3]
  simp only [Option.bind_some]
  rw [a4, a5, f_Widest hsz, a6, f_Margin (by omega), a7, f_Clean hsz]
  simp only [Option.bind_some, if_true, beq_self_eq_true]
end Go.Proofs.YthjoclmggomhoaaDoor.G
