/-
  The laws LexPlaces, LexJoins, LexFirst: that what their printed texts compute is true. Plain Lean.
-/
import Derived.Test.YtjgpmfjkcioinaaDoorPQQ2
import Derived.Test.YtjgpmfjkcioinaaDoorPQQ3
import Derived.Test.YtjgpmfjkcioinaaDoorPQLXQ
namespace Go.Proofs.YtjgpmfjkcioinaaDoor.G
open Go.RowKit Go.Proofs.YtjgpmfjkcioinaaDoor.Q Go.Proofs.YtjgpmfjkcioinaaDoorW.PrintWords Go.Proofs.YtjgpmfjkcioinaaDoorW.PrintLast Go.Proofs.YtjgpmfjkcioinaaDoor.M
set_option linter.unusedVariables false
set_option linter.unusedSimpArgs false
theorem f_Lex {s : ByteArray} (h : s.size ≤ 1000000) : lex_Lex.f s = some ((lexR (by_ s)).1.map tokQ, (lexR (by_ s)).2.1, (lexR (by_ s)).2.2) := if_pos h
theorem f_One {s : ByteArray} (h : s.size ≤ 1000000) (i : Int) : lex_One.f s i = some (oneT s i) := if_pos h
theorem f_Blank {s : ByteArray} (h : s.size ≤ 1000000) (i : Int) : scan_Blank.f s i = some (blank s i) := if_pos h
theorem f_May {s : ByteArray} (h : s.size ≤ 1000000) : utf_May.f s = some (mayp isc (by_ s)) := if_pos h
theorem rd_tok {xs : List (LOne × Nat)} {j : Nat} {x : LOne × Nat} (h : xs[j]? = some x) : rd_T28 (xs.map tokQ) (j : Int) = tokQ x := by
  unfold rd_T28
  rw [Int.toNat_natCast, List.getD_eq_getElem?_getD, List.getElem?_map, h]; rfl
theorem w64n {n : Int} (h0 : -9223372036854775808 ≤ n) (h1 : n ≤ 9223372036854775807) : wrap64 n = n := by unfold wrap64; omega
theorem blank_chain {s : ByteArray} {last p : Nat} (hl : last ≤ s.size) (h : p = last + bl false ((by_ s).drop last)) : blank s (last : Int) = (p : Int) := by
  unfold blank
  rw [if_pos ⟨by omega, by omega⟩, h]
  unfold at_
  rw [Int.toNat_natCast]
  omega
theorem lexR_le (s : ByteArray) : (lexR (by_ s)).1.length ≤ s.size := by
  unfold lexR
  split
  · rcases lexL_cases (by_ s) with ⟨_, h2, _⟩ | ⟨_, h2, _⟩
    · have := stepsL_length (by_ s)
      rw [by_length] at this
      rw [h2]; exact this
    · rw [h2]; exact Nat.zero_le _
  · exact Nat.zero_le _
theorem lexR_good {s : ByteArray} (h : (lexR (by_ s)).2.1 = 0) : mayp isc (by_ s) = true ∧ Chain (by_ s) 0 (lexR (by_ s)).1 ∧ (lexR (by_ s)).2.2 = (s.size : Int) := by
  cases hm : mayp isc (by_ s) with
  | false =>
    have e : lexR (by_ s) = ([], 2, bd (by_ s)) := if_neg (by rw [hm]; decide)
    rw [e] at h
    exact absurd (show (2 : Int) = 0 from h) (by decide)
  | true =>
    have e : lexR (by_ s) = lexL (by_ s) := if_pos hm
    rw [e] at h ⊢
    have := chain_lexL h
    rw [by_length] at this
    exact ⟨rfl, this⟩
theorem lexR_none' {s : ByteArray} (h : (lexR (by_ s)).2.1 ≠ 0) : (lexR (by_ s)).1 = [] ∧ 0 ≤ (lexR (by_ s)).2.2 ∧ (lexR (by_ s)).2.2 ≤ (s.size : Int) := by
  cases hm : mayp isc (by_ s) with
  | false =>
    have e : lexR (by_ s) = ([], 2, bd (by_ s)) := if_neg (by rw [hm]; decide)
    have hb := (bd_may (by_ s)).2 hm
    rw [by_length] at hb
    rw [e]
    exact ⟨rfl, hb.1, by show bd (by_ s) ≤ _; omega⟩
  | true =>
    have e : lexR (by_ s) = lexL (by_ s) := if_pos hm
    rw [e] at h ⊢
    have ha := lexL_at (by_ s)
    rw [by_length] at ha
    rcases lexL_cases (by_ s) with ⟨h1, _⟩ | ⟨_, h2, _⟩
    · exact absurd h1 h
    · exact ⟨h2, ha⟩
theorem oneT_at {s : ByteArray} {x : LOne × Nat} (h2 : x.2 < s.size) (h3 : x.1 = lexone ((by_ s).drop x.2)) (h4 : x.1.e = 0) : oneT s ((x.2 : Nat) : Int) = (x.1.k, ba x.1.t, (x.2 : Int), (x.2 : Int) + x.1.n, 0, (x.2 : Int) + x.1.n) := by
  have e2 : at_ s ((x.2 : Nat) : Int) = (by_ s).drop x.2 := by unfold at_; rw [Int.toNat_natCast]
  unfold oneT
  rw [if_neg (by omega), e2, ← h3, if_pos h4]
set_option maxHeartbeats 3200000 in
theorem places_loop (s : ByteArray) (i : Int) (hs : s.size ≤ 600) (hm : mayp isc (by_ s) = true) (xs : List (LOne × Nat)) (hx6 : xs.length ≤ 600) : ∀ (r j last K : Nat), j + r = xs.length → 2 * r + 2 ≤ K → last ≤ s.size → Chain (by_ s) last (xs.drop j) →
    copperplatelaw09_LexPlaces.l0 K s i (xs.map tokQ) (s.size : Int) (last : Int) (j : Int) = some true := by
  intro r
  induction r with
  | zero =>
    intro j last K hj hK hl hc
    obtain ⟨K, rfl⟩ : ∃ k, K = k + 1 := ⟨K - 1, by omega⟩
    rw [List.drop_eq_nil_of_le (by omega)] at hc
    have h2 : last + bl false ((by_ s).drop last) = (by_ s).length := hc
    rw [by_length] at h2
    rw [copperplatelaw09_LexPlaces.l0, if_neg (by rw [List.length_map]; omega), f_Blank (by omega), Option.bind_some, blank_chain hl h2.symm, if_pos rfl, if_pos rfl, f_May (by omega), Option.bind_some, hm]
  | succ r ih =>
    intro j last K hj hK hl hc
    obtain ⟨K, rfl⟩ : ∃ k, K = k + 1 + 1 := ⟨K - 2, by omega⟩
    obtain ⟨x, hjx⟩ : ∃ x, xs[j]? = some x := ⟨_, List.getElem?_eq_getElem (by omega)⟩
    have hd : xs.drop j = x :: xs.drop (j + 1) := by
      obtain ⟨hlt3, e⟩ := List.getElem?_eq_some_iff.1 hjx
      rw [List.drop_eq_getElem_cons hlt3, e]
    rw [hd] at hc
    obtain ⟨g1, g2, g3, g4, g5⟩ := hc
    have hst := one_step (l := (by_ s).drop x.2) (by rw [← g3]; exact g4)
    rw [← g3, List.length_drop, by_length] at hst
    rw [by_length] at g2
    have hV := oneT_at g2 g3 g4
    have e2 : (tokQ x).f2 = ((x.2 : Nat) : Int) := rfl
    have e3 : (tokQ x).f3 = ((x.2 + x.1.n : Nat) : Int) := by show (x.2 : Int) + x.1.n = _; omega
    have hw : wrap64 ((j : Int) + 1) = ((j + 1 : Nat) : Int) := by rw [w64n (by omega) (by omega)]; omega
    have ih := ih (j + 1) (x.2 + x.1.n) K (by omega) (by omega) (by omega) g5
    have q1 : (j : Int) < ((xs.map tokQ).length : Int) := by rw [List.length_map]; omega
    have q2 : (0 : Int) ≤ (j : Int) := Int.natCast_nonneg j
    have q3 : ¬ (tokQ x).f2 < (last : Int) := by rw [e2]; omega
    have q4 : ¬ (tokQ x).f3 ≤ (tokQ x).f2 := by rw [e2, e3]; omega
    have q5 : ¬ (tokQ x).f3 > (s.size : Int) := by rw [e3]; omega
    have q6 : s.size ≤ 1000000 := by omega
    have hb : (((x.2 : Nat) : Int) != (tokQ x).f2) = false := by rw [e2]; simp
    have hb1 := blank_chain hl g1
    have hrd := rd_tok hjx
    clear hK hj hl hx6 hst g1 g2 g3 g4 g5 hd hjx
    rw [copperplatelaw09_LexPlaces.l0, if_pos q1, if_pos q2, hrd, if_neg q3, if_neg q4, if_neg q5, f_Blank q6, Option.bind_some, hb1]
    rw [hb, copperplatelaw09_LexPlaces.j2, if_neg Bool.false_ne_true, hrd]
    by_cases hji : (j : Int) = i
    · rw [if_pos hji, if_pos q2, if_pos q1, f_One q6, Option.bind_some, e2, hV]
      have hq : ((!(((x.1.k, ba x.1.t, (x.2 : Int), (x.2 : Int) + x.1.n, (0 : Int), (x.2 : Int) + x.1.n) : Int × ByteArray × Int × Int × Int × Int).1 == (tokQ x).f0) || (!(((x.1.k, ba x.1.t, (x.2 : Int), (x.2 : Int) + x.1.n, (0 : Int), (x.2 : Int) + x.1.n) : Int × ByteArray × Int × Int × Int × Int).2.1.toList == (((tokQ x).f1).toList)) || (!(((x.1.k, ba x.1.t, (x.2 : Int), (x.2 : Int) + x.1.n, (0 : Int), (x.2 : Int) + x.1.n) : Int × ByteArray × Int × Int × Int × Int).2.2.1 == ((x.2 : Nat) : Int)) || (!(((x.1.k, ba x.1.t, (x.2 : Int), (x.2 : Int) + x.1.n, (0 : Int), (x.2 : Int) + x.1.n) : Int × ByteArray × Int × Int × Int × Int).2.2.2.1 == (tokQ x).f3)))))) = false := by simp [tokQ]
      rw [hq, if_neg Bool.false_ne_true, if_pos rfl, if_pos (show (x.2 : Int) + x.1.n = (tokQ x).f3 from rfl), e3, hw]
      exact ih
    · rw [if_neg hji, if_pos q2, if_pos q1, e3, hw]
      exact ih
theorem lexPlaces_pure : copperplatelaw09_LexPlaces.Pure := by
  intro a0 a1 _ _
  refine ⟨1300, ?_⟩
  unfold copperplatelaw09_LexPlaces.f
  rw [show copperplatelaw09_awake.f = some true from rfl, Option.bind_some, if_pos rfl]
  by_cases h : (a0.size : Int) > 600
  · rw [decide_eq_true h, show (1300 : Nat) = 1299 + 1 from rfl, copperplatelaw09_LexPlaces.j0, if_pos rfl]
  · rw [decide_eq_false h, show (1300 : Nat) = 1299 + 1 from rfl, copperplatelaw09_LexPlaces.j0, if_neg (by decide), f_Lex (by omega), Option.bind_some]
    by_cases hE : (lexR (by_ a0)).2.1 = 0
    · obtain ⟨hm, hc, hat⟩ := lexR_good hE
      have hle := lexR_le a0
      have := places_loop a0 a1 (by omega) hm (lexR (by_ a0)).1 (by omega) (lexR (by_ a0)).1.length 0 0 1299 (by omega) (by omega) (by omega) (by rw [List.drop_zero]; exact hc)
      rw [if_pos hE, hat]
      exact this
    · obtain ⟨h1, h2, h3⟩ := lexR_none' hE
      rw [if_neg hE, h1, List.map_nil, if_pos (by rfl), if_pos h2, decide_eq_true h3]
def er (x : S28) : Int × ByteArray := (x.f0, x.f1)
theorem er_rd {A B : List S28} (h : A.map er = B.map er) (j : Int) : er (rd_T28 A j) = er (rd_T28 B j) := by
  have key : ∀ (C : List S28) (n : Nat), er (C.getD n z28) = (C.map er).getD n (er z28) := fun C n => by
    rw [List.getD_eq_getElem?_getD, List.getD_eq_getElem?_getD, List.getElem?_map]
    cases C[n]? <;> rfl
  unfold rd_T28
  rw [key, key, h]
theorem same_loop {A B : List S28} (h : A.map er = B.map er) (hl : A.length ≤ 1000000) : ∀ (r j K : Nat), j + r = A.length → r + 1 ≤ K → copperplateref09_Same.l0 K A B (j : Int) = some true
  | 0, j, K, hj, hK => by
    obtain ⟨K, rfl⟩ : ∃ k, K = k + 1 := ⟨K - 1, by omega⟩
    rw [copperplateref09_Same.l0, if_neg (by omega)]
  | r + 1, j, K, hj, hK => by
    obtain ⟨K, rfl⟩ : ∃ k, K = k + 1 := ⟨K - 1, by omega⟩
    have hlen : A.length = B.length := by have := congrArg List.length h; rwa [List.length_map, List.length_map] at this
    have he := er_rd h (j : Int)
    have h0 : (rd_T28 A (j : Int)).f0 = (rd_T28 B (j : Int)).f0 := congrArg Prod.fst he
    have h1 : (rd_T28 A (j : Int)).f1 = (rd_T28 B (j : Int)).f1 := congrArg Prod.snd he
    have hw : wrap64 ((j : Int) + 1) = ((j + 1 : Nat) : Int) := by rw [w64n (by omega) (by omega)]; omega
    rw [copperplateref09_Same.l0, if_pos (by omega), if_pos (by omega), if_pos (by omega), if_pos h0, if_pos (by rw [h1]), hw]
    exact same_loop h hl r (j + 1) K (by omega) (by omega)
theorem same_true {A B : List S28} (h : A.map er = B.map er) (hl : A.length ≤ 1000000) (K : Nat) (hK : A.length + 1 ≤ K) : copperplateref09_Same.f K A B = some true := by
  have hlen : A.length = B.length := by have := congrArg List.length h; rwa [List.length_map, List.length_map] at this
  unfold copperplateref09_Same.f
  rw [if_pos (by omega)]
  exact same_loop h hl A.length 0 K (by omega) hK
theorem er_shf (n : Nat) (ys : List (LOne × Nat)) : ((shf n ys).map tokQ).map er = (ys.map tokQ).map er := by
  unfold shf
  rw [List.map_map, List.map_map, List.map_map]
  rfl
theorem may_nl {a b : List Int} (ha : mayp isc a = true) (hb : mayp isc b = true) : mayp isc (a ++ 10 :: b) = true := by
  rw [mayp_append sort_isc ha]
  have := mayp_enc (p := isc) sort_isc (r := 10) (by decide) b
  rw [enc_low (by decide)] at this
  exact this.trans hb
theorem by_join (s t : ByteArray) : by_ ((s ++ (⟨#[10]⟩ : ByteArray)) ++ t) = by_ s ++ 10 :: by_ t := by
  rw [by_append, by_append, List.append_assoc]; rfl
theorem join_size (s t : ByteArray) : (s ++ (⟨#[10]⟩ : ByteArray)).size = s.size + 1 ∧ ((s ++ (⟨#[10]⟩ : ByteArray)) ++ t).size = s.size + 1 + t.size := by
  have h10 : (⟨#[10]⟩ : ByteArray).size = 1 := rfl
  constructor
  · rw [ByteArray.size_append, h10]
  · rw [ByteArray.size_append, ByteArray.size_append, h10]
theorem lexJoins_pure : copperplatelaw09_LexJoins.Pure := by
  intro a0 a1 _ _
  refine ⟨702, ?_⟩
  unfold copperplatelaw09_LexJoins.f
  rw [show copperplatelaw09_awake.f = some true from rfl, Option.bind_some, if_pos rfl, show (702 : Nat) = 700 + 1 + 1 from rfl]
  by_cases h0 : (a0.size : Int) > 300
  · rw [if_pos h0, copperplatelaw09_LexJoins.j0, if_pos rfl]
  rw [if_neg h0]
  by_cases h1 : (a1.size : Int) > 300
  · rw [decide_eq_true h1, copperplatelaw09_LexJoins.j0, if_pos rfl]
  rw [decide_eq_false h1, copperplatelaw09_LexJoins.j0, if_neg (by decide), f_Lex (by omega), Option.bind_some, f_Lex (by omega), Option.bind_some]
  by_cases hE : (lexR (by_ a0)).2.1 = 0
  · rw [if_pos hE]
    by_cases hF : (lexR (by_ a1)).2.1 = 0
    · obtain ⟨hm0, hc0, _⟩ := lexR_good hE
      obtain ⟨hm1, hc1, _⟩ := lexR_good hF
      have hz0 := lexR_le a0
      have hz1 := lexR_le a1
      have hsz := join_size a0 a1
      have hj := lexL_chain (chain_join (by_ a0) (by_ a1) _ hc1 _ 0 (by omega) hc0)
      have ez : lexR (by_ ((a0 ++ (⟨#[10]⟩ : ByteArray)) ++ a1)) = lexL (by_ a0 ++ 10 :: by_ a1) := by rw [by_join]; exact if_pos (may_nl hm0 hm1)
      rw [hj] at ez
      have hsame := same_true (A := ((lexR (by_ a0)).1 ++ shf ((by_ a0).length + 1) (lexR (by_ a1)).1).map tokQ) (B := (lexR (by_ a0)).1.map tokQ ++ (lexR (by_ a1)).1.map tokQ)
        (by rw [List.map_append, List.map_append, List.map_append, er_shf]) (by unfold shf; rw [List.length_map, List.length_append, List.length_map]; omega) 700 (by unfold shf; rw [List.length_map, List.length_append, List.length_map]; omega)
      rw [show ((lexR (by_ a1)).2.1 != 0) = false by rw [hF]; rfl, copperplatelaw09_LexJoins.j1, if_neg (by decide), if_pos (by omega), if_pos (by omega), f_Lex (by omega), Option.bind_some, ez,
        if_pos (by rw [List.length_nil, List.length_map]; omega), Option.bind_some, List.nil_append, if_pos (by rw [List.length_map, List.length_map]; omega), hsame, Option.bind_some, if_pos rfl]
    · rw [show ((lexR (by_ a1)).2.1 != 0) = true from bne_iff_ne.2 hF, copperplatelaw09_LexJoins.j1, if_pos rfl]
  · rw [if_neg hE, copperplatelaw09_LexJoins.j1, if_pos rfl]
theorem lexFirst_pure : copperplatelaw09_LexFirst.Pure := by
  intro a0 a1 _ _
  refine ⟨702, ?_⟩
  unfold copperplatelaw09_LexFirst.f
  rw [show copperplatelaw09_awake.f = some true from rfl, Option.bind_some, if_pos rfl, show (702 : Nat) = 701 + 1 from rfl]
  by_cases h0 : (a0.size : Int) > 300
  · rw [if_pos h0, copperplatelaw09_LexFirst.j0, if_pos rfl]
  rw [if_neg h0]
  by_cases h1 : (a1.size : Int) > 300
  · rw [if_pos h1, copperplatelaw09_LexFirst.j0, if_pos rfl]
  rw [if_neg h1, f_May (by omega), Option.bind_some]
  cases hm0 : mayp isc (by_ a0) with
  | false => rw [if_neg (by decide), copperplatelaw09_LexFirst.j0, if_pos rfl]
  | true =>
  rw [if_pos rfl, f_May (by omega), Option.bind_some]
  cases hm1 : mayp isc (by_ a1) with
  | false => rw [Bool.not_false, copperplatelaw09_LexFirst.j0, if_pos rfl]
  | true =>
  have hsz := join_size a0 a1
  have e0 : lexR (by_ a0) = lexL (by_ a0) := if_pos hm0
  have ez : lexR (by_ ((a0 ++ (⟨#[10]⟩ : ByteArray)) ++ a1)) = lexL (by_ a0 ++ 10 :: by_ a1) := by rw [by_join]; exact if_pos (may_nl hm0 hm1)
  rw [Bool.not_true, copperplatelaw09_LexFirst.j0, if_neg (by decide), f_Lex (by omega), Option.bind_some, if_pos (by omega), if_pos (by omega), f_Lex (by omega), Option.bind_some, e0, ez]
  obtain ⟨E, hE⟩ : ∃ E, (lexL (by_ a0)).2.1 = E := ⟨_, rfl⟩
  have wr := fun q0 q4 => lexL_wrong (l := by_ a0) (by_ a1) q0 q4
  have hnil : (lexL (by_ a0)).2.1 ≠ 0 → (lexL (by_ a0)).1 = [] := fun q0 => by
    rcases lexL_cases (by_ a0) with ⟨q1, _⟩ | ⟨_, q2, _⟩
    · exact absurd q1 q0
    · exact q2
  by_cases h3 : (lexL (by_ a0)).2.1 = 3
  · have hw := wr (by rw [h3]; decide) (by rw [h3]; decide)
    have hn := hnil (by rw [h3]; decide)
    rw [if_pos h3, hw, hn, List.map_nil, if_pos (by rfl), if_pos rfl]
    simp
  rw [if_neg h3]
  by_cases h2 : (lexL (by_ a0)).2.1 = 2
  · have hw := wr (by rw [h2]; decide) (by rw [h2]; decide)
    have hn := hnil (by rw [h2]; decide)
    rw [if_pos h2, hw, hn, List.map_nil, if_pos (by rfl), if_pos rfl]
    simp
  rw [if_neg h2]
  by_cases h00 : (lexL (by_ a0)).2.1 = 0
  · rw [if_pos h00]
    by_cases hl0 : (lexL (by_ a0)).1 = []
    · rw [hl0, List.map_nil, if_pos (by rfl)]
    · by_cases hf : (lexL (by_ a0 ++ 10 :: by_ a1)).2.1 = 0
      · obtain ⟨x, xs, ys, e1, e2⟩ := lexL_first (by_ a1) h00 hl0 hf
        rw [e1, e2, List.map_cons, List.map_cons, if_neg (by simp only [List.length_cons]; omega), if_pos hf, if_pos (by simp only [List.length_cons]; omega), if_pos (by simp only [List.length_cons]; omega), if_pos (by simp only [List.length_cons]; omega)]
        have r1 : ∀ (l : List S28), rd_T28 (tokQ x :: l) 0 = tokQ x := fun l => rfl
        rw [r1, r1]
        simp
      · rw [if_neg (by have := List.length_pos_iff.2 hl0; rw [List.length_map]; omega), if_neg hf]
  · rw [if_neg h00]
end Go.Proofs.YtjgpmfjkcioinaaDoor.G
