/-
  The laws TextEscape and TextHex, over what their texts compute.
-/
import Derived.Test.YtcebkppagamjiaaDoorPD1
import Derived.Test.YtcebkppagamjiaaDoorQ4
import Derived.Test.YtcebkppagamjiaaDoorQ5
namespace Go.Proofs.YtcebkppagamjiaaDoor.G
open Go.RowKit Go.Proofs.YtcebkppagamjiaaDoor.Q Go.Proofs.YtcebkppagamjiaaDoorW.PrintWords Go.Proofs.YtcebkppagamjiaaDoor.M
set_option linter.unusedVariables false
set_option linter.unusedSimpArgs false

theorem by_headx (s : ByteArray) (n : Nat) (l m : List Int) (h : by_ s = l ++ m) (hn : n = l.length) : by_ (s.extract 0 n) = l := by
  rw [by_extract, h, List.drop_zero, hn, List.take_left]
theorem esc_pair {c : Int} {m : List Int} (h : c ≠ 117) : esc (92 :: c :: m) = if 0 ≤ short c then ([short c], 2) else ([], 0) := by
  unfold esc
  simp only [List.getD_cons_zero, List.getD_cons_succ, List.length_cons]
  rw [if_pos ⟨trivial, by omega⟩]
  by_cases h0 : 0 ≤ short c
  · rw [if_pos h0, if_pos h0]
  · rw [if_neg h0, if_neg h0, if_neg (fun q => h q.1)]
/-- What the law asks of what is told. -/
def want (x8 : Bool) (x6 : ByteArray) (x7 v : Int) : Option Bool :=
  if v < 0 then (if x8 = true then (some false) else (if x6.toList = ([] : List UInt8) then (some (x7 == 0)) else (some false))) else (if x8 = true then (if x7 = 2 then (if (x6.size : Int) = 1 then (if 0 < (x6.size : Int) then (some ((wrap64 (bt x6 0)) == v)) else (none)) else (some false)) else (some false)) else (some false))
theorem want_yes {v : Int} (h0 : 0 ≤ v) (h1 : v ≤ 255) : want true (ba [v]) 2 v = some true := by
  unfold want
  have hb : by_ (ba [v]) = [v] := by_ba (by intro c hc; simp only [List.mem_singleton] at hc; omega)
  have hs : (ba [v]).size = 1 := by rw [ba_size]; rfl
  rw [if_neg (by omega), if_pos rfl, if_pos rfl, if_pos (by rw [hs]; rfl), if_pos (by rw [hs]; decide), bt_head _ v [] hb, IntWalk.wrap64_in _ (by omega), beq_self_eq_true]
theorem want_no {v : Int} (h : v < 0) : want false ⟨#[]⟩ 0 v = some true := by
  unfold want
  rw [if_pos h, if_neg (by decide), toList_nil, if_pos rfl]; rfl
theorem textEscape_pure : copperplatelaw06_TextEscape.Pure := by
  intro c s hc hs
  have hc' : 0 ≤ c ∧ c ≤ 255 := by simp [Lit.wf, IntKind.min, IntKind.max, IntKind.bits, IntKind.signed] at hc; omega
  refine ⟨2, ?_⟩
  unfold copperplatelaw06_TextEscape.f
  rw [awake6]
  simp only [Option.bind_some, if_true]
  by_cases h1 : (s.size : Int) > 300
  · rw [if_pos h1]; rfl
  by_cases h2 : c = 117
  · subst h2; rw [if_neg h1]; rfl
  rw [if_neg h1, beq_eq_false_iff_ne.2 h2, copperplatelaw06_TextEscape.j0]
  simp only [Option.bind_some, Bool.false_eq_true, if_false]
  have hb : by_ (strOfNums [92, c]) = [92, c] := by_ba_nums _ (by intro x hx; simp only [List.mem_cons, List.not_mem_nil, or_false] at hx; omega)
  have hz : (strOfNums [92, c]).size = 2 := by rw [strOfNums_size]; rfl
  rw [if_pos (by rw [hz]; omega), f_Escape (by rw [ByteArray.size_append, hz]; omega)]
  simp only [Option.bind_some]
  have e : escAt (strOfNums [92, c] ++ s) 0 = if 0 ≤ short c then ([short c], 2) else ([], 0) := by
    rw [escAt_zero', by_append, hb]; exact esc_pair h2
  have key : ∀ v, v = short c → want (EsB (strOfNums [92, c] ++ s) 0) (EsT (strOfNums [92, c] ++ s) 0) (EsI (strOfNums [92, c] ++ s) 0) v = some true := by
    intro v hv
    subst hv
    unfold EsB EsT EsI
    rw [e]
    have := short_le c
    by_cases h0 : 0 ≤ short c
    · rw [if_pos h0]; exact want_yes h0 (by omega)
    · rw [if_neg h0]; exact want_no (by omega)
  have hw : wrap64 c = c := IntWalk.wrap64_in _ (by omega)
  by_cases c1 : c = 34
  · rw [if_pos c1, show (c == 34) = true from beq_iff_eq.2 c1, copperplatelaw06_TextEscape.j1, if_pos rfl, hw]
    exact key c (by unfold short; rw [if_pos (.inl c1)])
  by_cases c2 : c = 92
  · rw [if_neg c1, if_pos c2, show (c == 92) = true from beq_iff_eq.2 c2, copperplatelaw06_TextEscape.j1, if_pos rfl, hw]
    exact key c (by unfold short; rw [if_pos (.inr (.inl c2))])
  rw [if_neg c1, if_neg c2]
  by_cases c3 : c = 47
  · rw [show (c == 47) = true from beq_iff_eq.2 c3, copperplatelaw06_TextEscape.j1, if_pos rfl, hw]
    exact key c (by unfold short; rw [if_pos (.inr (.inr c3))])
  have n0 : ¬ (c = 34 ∨ c = 92 ∨ c = 47) := by omega
  rw [beq_eq_false_iff_ne.2 c3, copperplatelaw06_TextEscape.j1, if_neg (by decide)]
  by_cases d1 : c = 98
  · rw [if_pos d1]; exact key 8 (by unfold short; rw [if_neg n0, if_pos d1])
  rw [if_neg d1]
  by_cases d2 : c = 102
  · rw [if_pos d2]; exact key 12 (by unfold short; rw [if_neg n0, if_neg d1, if_pos d2])
  rw [if_neg d2]
  by_cases d3 : c = 110
  · rw [if_pos d3]; exact key 10 (by unfold short; rw [if_neg n0, if_neg d1, if_neg d2, if_pos d3])
  rw [if_neg d3]
  by_cases d4 : c = 114
  · rw [if_pos d4]; exact key 13 (by unfold short; rw [if_neg n0, if_neg d1, if_neg d2, if_neg d3, if_pos d4])
  rw [if_neg d4]
  by_cases d5 : c = 116
  · rw [if_pos d5]; exact key 9 (by unfold short; rw [if_neg n0, if_neg d1, if_neg d2, if_neg d3, if_neg d4, if_pos d5])
  rw [if_neg d5]
  exact key (-1) (by unfold short; rw [if_neg n0, if_neg d1, if_neg d2, if_neg d3, if_neg d4, if_neg d5])

theorem low_dig : ∀ n : Fin 16, hexv (bt (⟨#[48, 49, 50, 51, 52, 53, 54, 55, 56, 57, 97, 98, 99, 100, 101, 102]⟩ : ByteArray) (n.val : Int)) = n.val ∧ 0 ≤ bt (⟨#[48, 49, 50, 51, 52, 53, 54, 55, 56, 57, 97, 98, 99, 100, 101, 102]⟩ : ByteArray) (n.val : Int) ∧ bt (⟨#[48, 49, 50, 51, 52, 53, 54, 55, 56, 57, 97, 98, 99, 100, 101, 102]⟩ : ByteArray) (n.val : Int) ≤ 255 := by decide +kernel
theorem high_dig : ∀ n : Fin 16, hexv (bt (⟨#[48, 49, 50, 51, 52, 53, 54, 55, 56, 57, 65, 66, 67, 68, 69, 70]⟩ : ByteArray) (n.val : Int)) = n.val ∧ 0 ≤ bt (⟨#[48, 49, 50, 51, 52, 53, 54, 55, 56, 57, 65, 66, 67, 68, 69, 70]⟩ : ByteArray) (n.val : Int) ∧ bt (⟨#[48, 49, 50, 51, 52, 53, 54, 55, 56, 57, 65, 66, 67, 68, 69, 70]⟩ : ByteArray) (n.val : Int) ≤ 255 := by decide +kernel
theorem dig_of {f : Int → Int} (h : ∀ n : Fin 16, hexv (f (n.val : Int)) = n.val ∧ 0 ≤ f (n.val : Int) ∧ f (n.val : Int) ≤ 255) {k : Int} (h0 : 0 ≤ k) (h1 : k < 16) : hexv (f k) = k ∧ 0 ≤ f k ∧ f k ≤ 255 := by
  obtain ⟨n, rfl⟩ : ∃ n : Nat, k = n := ⟨k.toNat, by omega⟩
  exact h ⟨n, by omega⟩
theorem textHex_pure : copperplatelaw06_TextHex.Pure := by
  intro a n b ha hn hb
  refine ⟨1, ?_⟩
  unfold copperplatelaw06_TextHex.f
  rw [awake6]
  simp only [Option.bind_some, if_true]
  by_cases h1 : (a.size : Int) > 300
  · rw [if_pos h1]; rfl
  by_cases h2 : (b.size : Int) > 300
  · rw [if_neg h1, if_pos h2]; rfl
  by_cases h3 : n < 0
  · rw [if_neg h1, if_neg h2, if_pos h3]; rfl
  by_cases h4 : n > 65535
  · rw [if_neg h1, if_neg h2, if_neg h3, decide_eq_true h4]; rfl
  rw [if_neg h1, if_neg h2, if_neg h3, decide_eq_false h4, copperplatelaw06_TextHex.j0]
  simp only [Option.bind_some, Bool.false_eq_true, if_false]
  have w1 : wrap64 (Int.tdiv n 4096) = n / 4096 := by rw [Int.tdiv_eq_ediv_of_nonneg (by omega), IntWalk.wrap64_in _ (by omega)]
  have w2 : Int.tmod (wrap64 (Int.tdiv n 256)) 16 = n / 256 % 16 := by rw [Int.tdiv_eq_ediv_of_nonneg (by omega), IntWalk.wrap64_in _ (by omega), Int.tmod_eq_emod_of_nonneg (by omega)]
  have w3 : Int.tmod (wrap64 (Int.tdiv n 16)) 16 = n / 16 % 16 := by rw [Int.tdiv_eq_ediv_of_nonneg (by omega), IntWalk.wrap64_in _ (by omega), Int.tmod_eq_emod_of_nonneg (by omega)]
  have w4 : Int.tmod n 16 = n % 16 := by rw [Int.tmod_eq_emod_of_nonneg (by omega)]
  rw [w1, w2, w3, w4]
  obtain ⟨p1, p2, p3⟩ := dig_of (f := bt ⟨#[48, 49, 50, 51, 52, 53, 54, 55, 56, 57, 97, 98, 99, 100, 101, 102]⟩) low_dig (k := n / 4096) (by omega) (by omega)
  obtain ⟨q1, q2, q3⟩ := dig_of (f := bt ⟨#[48, 49, 50, 51, 52, 53, 54, 55, 56, 57, 65, 66, 67, 68, 69, 70]⟩) high_dig (k := n / 256 % 16) (by omega) (by omega)
  obtain ⟨r1, r2, r3⟩ := dig_of (f := bt ⟨#[48, 49, 50, 51, 52, 53, 54, 55, 56, 57, 97, 98, 99, 100, 101, 102]⟩) low_dig (k := n / 16 % 16) (by omega) (by omega)
  obtain ⟨s1, s2, s3⟩ := dig_of (f := bt ⟨#[48, 49, 50, 51, 52, 53, 54, 55, 56, 57, 65, 66, 67, 68, 69, 70]⟩) high_dig (k := n % 16) (by omega) (by omega)
  rw [if_pos (by omega), if_pos (by omega), if_pos (by omega), if_pos (by omega), if_pos (by omega), if_pos (by omega), if_pos (by omega), if_pos (by omega)]
  obtain ⟨d1, e1⟩ : ∃ d, bt ⟨#[48, 49, 50, 51, 52, 53, 54, 55, 56, 57, 97, 98, 99, 100, 101, 102]⟩ (n / 4096) = d := ⟨_, rfl⟩
  obtain ⟨d2, e2⟩ : ∃ d, bt ⟨#[48, 49, 50, 51, 52, 53, 54, 55, 56, 57, 65, 66, 67, 68, 69, 70]⟩ (n / 256 % 16) = d := ⟨_, rfl⟩
  obtain ⟨d3, e3⟩ : ∃ d, bt ⟨#[48, 49, 50, 51, 52, 53, 54, 55, 56, 57, 97, 98, 99, 100, 101, 102]⟩ (n / 16 % 16) = d := ⟨_, rfl⟩
  obtain ⟨d4, e4⟩ : ∃ d, bt ⟨#[48, 49, 50, 51, 52, 53, 54, 55, 56, 57, 65, 66, 67, 68, 69, 70]⟩ (n % 16) = d := ⟨_, rfl⟩
  rw [e1] at p1 p2 p3 ⊢
  rw [e2] at q1 q2 q3 ⊢
  rw [e3] at r1 r2 r3 ⊢
  rw [e4] at s1 s2 s3 ⊢
  have hb4 : by_ (strOfNums [d1, d2, d3, d4]) = [d1, d2, d3, d4] := by_ba_nums _ (by intro x hx; simp only [List.mem_cons, List.not_mem_nil, or_false] at hx; omega)
  obtain ⟨x, hx⟩ : ∃ x, strOfNums [d1, d2, d3, d4] = x := ⟨_, rfl⟩
  have hz : x.size = 4 := by rw [← hx, strOfNums_size]; rfl
  rw [hx] at hb4 ⊢
  have hb3 : by_ (x.extract 0 3) = [d1, d2, d3] := by_headx x 3 [d1, d2, d3] [d4] hb4 rfl
  have hz3 : (x.extract 0 3).size = 3 := by rw [ByteArray.size_extract, hz]; rfl
  have g : hexAt (a ++ x ++ b) (a.size : Int) = n := by
    unfold hexAt
    rw [if_neg (by omega)]
    have : at_ (a ++ x ++ b) (a.size : Int) = [d1, d2, d3, d4] ++ by_ b := by
      unfold at_
      rw [by_append, by_append, hb4, Int.toNat_natCast, List.append_assoc, ← by_length, List.drop_left]
    rw [this]
    show hex4 (d1 :: d2 :: d3 :: d4 :: by_ b) = n
    unfold hex4
    simp only []
    rw [p1, q1, r1, s1, if_pos (by omega)]
    omega
  have g3 : hexAt (x.extract 0 3) 0 = -1 := by
    unfold hexAt; rw [if_neg (by omega), at_zero, hb3]; rfl
  have g4 : hexAt (x.extract 0 3 ++ ⟨#[103]⟩) 0 = -1 := by
    unfold hexAt; rw [if_neg (by omega), at_zero, by_append, hb3, show by_ (⟨#[103]⟩ : ByteArray) = [103] from rfl]
    show hex4 [d1, d2, d3, 103] = -1
    unfold hex4
    simp only []
    rw [if_neg (by rw [show hexv 103 = -1 by decide]; omega)]
  have hz1 : (⟨#[103]⟩ : ByteArray).size = 1 := rfl
  rw [if_pos (by omega), if_pos (by rw [ByteArray.size_append]; omega), f_Hex (by rw [ByteArray.size_append, ByteArray.size_append]; omega)]
  simp only [Option.bind_some]
  rw [if_pos (by omega), if_pos (by omega), f_Hex (by omega)]
  simp only [Option.bind_some]
  rw [if_pos (by omega), f_Hex (by rw [ByteArray.size_append]; omega)]
  simp only [Option.bind_some]
  unfold hexN hexOk
  rw [g, g3, g4, decide_eq_true (by omega), if_pos rfl, if_pos (by omega)]
  rfl
end Go.Proofs.YtcebkppagamjiaaDoor.G
