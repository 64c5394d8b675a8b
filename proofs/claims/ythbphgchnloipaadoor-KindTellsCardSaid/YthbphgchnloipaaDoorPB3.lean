/-
  The law KindTells over what its text computes: the program's terminals are the document's. Plain Lean, no program's walk in sight.
-/
import Derived.Test.YthbphgchnloipaaDoorQ6
import Derived.Test.YthbphgchnloipaaDoorQ4
import Derived.Test.YthbphgchnloipaaDoorQ5
import Derived.Test.YthbphgchnloipaaDoorPB2
namespace Go.Proofs.YthbphgchnloipaaDoor.G
open Go.RowKit Go.Proofs.YthbphgchnloipaaDoor.Q Go.Proofs.YthbphgchnloipaaDoorW.PrintWords Go.Proofs.YthbphgchnloipaaDoorW.PrintLast Go.Proofs.YthbphgchnloipaaDoor.M
set_option linter.unusedVariables false
set_option linter.unusedSimpArgs false

theorem no_lit {s : ByteArray} (h : ∀ y ∈ kTexts, kp s y = false) (l : List UInt8) (hl : l.isEmpty = false) (hm : (⟨l.toArray⟩ : ByteArray) ∈ kTexts) : ¬ s.toList = l := by
  intro e
  have := h _ hm
  have h2 : kp s ⟨l.toArray⟩ = true := by rw [kp_iff, e]; exact ⟨by rw [Lib.toList_data], hl⟩
  rw [h2] at this; cases this
theorem punct_eq (s : ByteArray) : copperplateref10_punct.f s = some (kFind 0 s) := by
  unfold copperplateref10_punct.f
  rcases kIdx_hit s with ⟨h, hn⟩ | ⟨j, h1, h2, h3, h4⟩
  · have e : kFind 0 s = 0 := by unfold kFind; rw [if_pos (.inl (by omega))]
    rw [e]
    rw [if_neg (no_lit hn [33] rfl (List.mem_of_getElem? (i := 1) rfl))]
    rw [if_neg (no_lit hn [36] rfl (List.mem_of_getElem? (i := 2) rfl))]
    rw [if_neg (no_lit hn [38] rfl (List.mem_of_getElem? (i := 3) rfl))]
    rw [if_neg (no_lit hn [40] rfl (List.mem_of_getElem? (i := 4) rfl))]
    rw [if_neg (no_lit hn [41] rfl (List.mem_of_getElem? (i := 5) rfl))]
    rw [if_neg (no_lit hn [46, 46, 46] rfl (List.mem_of_getElem? (i := 6) rfl))]
    rw [if_neg (no_lit hn [58] rfl (List.mem_of_getElem? (i := 7) rfl))]
    rw [if_neg (no_lit hn [61] rfl (List.mem_of_getElem? (i := 8) rfl))]
    rw [if_neg (no_lit hn [64] rfl (List.mem_of_getElem? (i := 9) rfl))]
    rw [if_neg (no_lit hn [91] rfl (List.mem_of_getElem? (i := 10) rfl))]
    rw [if_neg (no_lit hn [93] rfl (List.mem_of_getElem? (i := 11) rfl))]
    rw [if_neg (no_lit hn [123] rfl (List.mem_of_getElem? (i := 12) rfl))]
    rw [if_neg (no_lit hn [124] rfl (List.mem_of_getElem? (i := 13) rfl))]
    rw [if_neg (no_lit hn [125] rfl (List.mem_of_getElem? (i := 14) rfl))]
  · have e : kFind 0 s = if j < 18 then (j : Int) else 0 := by
      unfold kFind; rw [h1]
      by_cases hj : j < 18
      · rw [if_pos hj, if_neg (by rw [decide_eq_false (by omega)]; simp)]
      · rw [if_neg hj, if_pos (.inr (by rw [decide_eq_true (by omega)]; rfl))]
    rw [← h3, Lib.toList_data] at h4
    rw [e, ← h3, Lib.toList_data]
    clear e h1 h3
    revert j
    decide
theorem name_eq (s : ByteArray) : copperplateref10_name.f s = some (kOf 2 s) := by
  have e2 : kOf 2 s = if kFind 1 s = 0 then 18 else kFind 1 s := rfl
  rw [e2]
  unfold copperplateref10_name.f
  rcases kIdx_hit s with ⟨h, hn⟩ | ⟨j, h1, h2, h3, h4⟩
  · have e : kFind 1 s = 0 := by unfold kFind; rw [if_pos (.inl (by omega))]
    rw [e]
    rw [if_neg (no_lit hn [113, 117, 101, 114, 121] rfl (List.mem_of_getElem? (i := 19) rfl))]
    rw [if_neg (no_lit hn [109, 117, 116, 97, 116, 105, 111, 110] rfl (List.mem_of_getElem? (i := 20) rfl))]
    rw [if_neg (no_lit hn [115, 117, 98, 115, 99, 114, 105, 112, 116, 105, 111, 110] rfl (List.mem_of_getElem? (i := 21) rfl))]
    rw [if_neg (no_lit hn [102, 114, 97, 103, 109, 101, 110, 116] rfl (List.mem_of_getElem? (i := 22) rfl))]
    rw [if_neg (no_lit hn [111, 110] rfl (List.mem_of_getElem? (i := 23) rfl))]
    rw [if_neg (no_lit hn [116, 121, 112, 101] rfl (List.mem_of_getElem? (i := 24) rfl))]
    rw [if_neg (no_lit hn [105, 110, 116, 101, 114, 102, 97, 99, 101] rfl (List.mem_of_getElem? (i := 25) rfl))]
    rw [if_neg (no_lit hn [101, 110, 117, 109] rfl (List.mem_of_getElem? (i := 26) rfl))]
    rw [if_neg (no_lit hn [117, 110, 105, 111, 110] rfl (List.mem_of_getElem? (i := 27) rfl))]
    rw [if_neg (no_lit hn [105, 110, 112, 117, 116] rfl (List.mem_of_getElem? (i := 28) rfl))]
    rw [if_neg (no_lit hn [115, 99, 97, 108, 97, 114] rfl (List.mem_of_getElem? (i := 29) rfl))]
    rw [if_neg (no_lit hn [105, 109, 112, 108, 101, 109, 101, 110, 116, 115] rfl (List.mem_of_getElem? (i := 30) rfl))]
    rfl
  · have e : kFind 1 s = if j < 18 then 0 else (j : Int) := by
      unfold kFind; rw [h1]
      by_cases hj : j < 18
      · rw [if_pos hj, if_pos (.inr (by rw [decide_eq_false (by omega)]; rfl))]
      · rw [if_neg hj, if_neg (by rw [decide_eq_true (by omega)]; simp)]
    rw [← h3, Lib.toList_data] at h4
    rw [e, ← h3, Lib.toList_data]
    clear e h1 h3
    revert j
    decide
theorem refOf_eq (k : Int) (s : ByteArray) (a b : Int) : copperplateref10_Of.f k s a b = some (kOf k s) := by
  unfold copperplateref10_Of.f
  rw [punct_eq, name_eq]
  by_cases h1 : k = 1
  · subst h1; rfl
  rw [if_neg h1]
  by_cases h2 : k = 2
  · subst h2; rfl
  rw [if_neg h2]
  unfold kOf
  rw [if_neg h1, if_neg h2]
  repeat' split
  all_goals rfl

theorem wrap_up {i : Nat} (h : i ≤ 1000000) : wrap64 ((i : Int) + 1) = ((i + 1 : Nat) : Int) := by unfold wrap64; omega
def kAll (l : List S23) : List Int := l.map fun x => kOf x.f0 x.f1
theorem rd_get {l : List S23} {i : Nat} (h : i < l.length) : rd_T23 l (i : Int) = l[i] := by
  unfold rd_T23
  rw [Int.toNat_natCast, List.getD_eq_getElem?_getD, List.getElem?_eq_getElem h]; rfl
theorem all_l0 (l : List S23) (hl : l.length ≤ 1000) : ∀ (d i k : Nat), i + d = l.length → d < k → kind_All.l0 k (kAll (l.take i)) l (l.length : Int) (i : Int) = some (kAll l)
  | 0, i, k, h, hk => by
    obtain ⟨k, rfl⟩ : ∃ m, k = m + 1 := ⟨k - 1, by omega⟩
    simp only [kind_All.l0]
    rw [if_neg (by omega), List.take_of_length_le (by omega)]
  | d + 1, i, k, h, hk => by
    obtain ⟨k, rfl⟩ : ∃ m, k = m + 1 := ⟨k - 1, by omega⟩
    have hi : i < l.length := by omega
    have e : kAll (l.take i) ++ [kOf l[i].f0 l[i].f1] = kAll (l.take (i + 1)) := by
      unfold kAll; rw [List.take_succ_eq_append_getElem hi, List.map_append]; rfl
    have hlen : (kAll (l.take i)).length ≤ 1000 := by unfold kAll; rw [List.length_map, List.length_take]; omega
    simp only [kind_All.l0, kind_Of.f, Option.bind_some]
    rw [if_pos (by omega), if_pos (by omega), if_pos (by omega), rd_get hi, if_pos (by omega), wrap_up (by omega), e]
    exact all_l0 l hl d (i + 1) k (by omega) (by omega)
theorem all_eq (l : List S23) (hl : l.length ≤ 1000) (k : Nat) (hk : l.length < k) : kind_All.f k l = some (kAll l) := by
  have := all_l0 l hl l.length 0 k (by omega) hk
  exact this
theorem refAll_l0 (l : List S23) (hl : l.length ≤ 1000) : ∀ (d i k : Nat), i + d = l.length → d < k → copperplateref10_All.l0 k l (kAll (l.take i)) (i : Int) = some (kAll l)
  | 0, i, k, h, hk => by
    obtain ⟨k, rfl⟩ : ∃ m, k = m + 1 := ⟨k - 1, by omega⟩
    simp only [copperplateref10_All.l0]
    rw [if_neg (by omega), List.take_of_length_le (by omega)]
  | d + 1, i, k, h, hk => by
    obtain ⟨k, rfl⟩ : ∃ m, k = m + 1 := ⟨k - 1, by omega⟩
    have hi : i < l.length := by omega
    have e : kAll (l.take i) ++ [kOf l[i].f0 l[i].f1] = kAll (l.take (i + 1)) := by
      unfold kAll; rw [List.take_succ_eq_append_getElem hi, List.map_append]; rfl
    have hlen : (kAll (l.take i)).length ≤ 1000 := by unfold kAll; rw [List.length_map, List.length_take]; omega
    simp only [copperplateref10_All.l0, refOf_eq, Option.bind_some]
    rw [if_pos (by omega), if_pos (by omega), rd_get hi, if_pos (by omega), wrap_up (by omega), e]
    exact refAll_l0 l hl d (i + 1) k (by omega) (by omega)
theorem refAll_eq (l : List S23) (hl : l.length ≤ 1000) (k : Nat) (hk : l.length < k) : copperplateref10_All.f k l = some (kAll l) := by
  have := refAll_l0 l hl l.length 0 k (by omega) hk
  exact this
theorem ints_l0 (l : List Int) (hl : l.length ≤ 1000) : ∀ (d i k : Nat), i + d = l.length → d < k → copperplateref10_Ints.l0 k l l (i : Int) = some true
  | 0, i, k, h, hk => by
    obtain ⟨k, rfl⟩ : ∃ m, k = m + 1 := ⟨k - 1, by omega⟩
    simp only [copperplateref10_Ints.l0]
    rw [if_neg (by omega)]
  | d + 1, i, k, h, hk => by
    obtain ⟨k, rfl⟩ : ∃ m, k = m + 1 := ⟨k - 1, by omega⟩
    simp only [copperplateref10_Ints.l0]
    rw [if_pos (by omega), if_pos (by omega), if_pos (by omega), if_pos trivial, wrap_up (by omega)]
    exact ints_l0 l hl d (i + 1) k (by omega) (by omega)
theorem ints_eq (l : List Int) (hl : l.length ≤ 1000) (k : Nat) (hk : l.length < k) : copperplateref10_Ints.f k l l = some true := by
  unfold copperplateref10_Ints.f
  rw [if_pos rfl]
  exact ints_l0 l hl l.length 0 k (by omega) hk
theorem few_l0 (l : List S23) : ∀ (d i k : Nat), i + d = 101 → i ≤ l.length → 2 * d + 3 < k → ∃ b, copperplatelaw09_FewToks.l0 k l (i : Int) = some b ∧ (b = true → l.length ≤ 100)
  | d, i, k, h, hi, hk => by
    obtain ⟨k, rfl⟩ : ∃ m, k = m + 2 := ⟨k - 2, by omega⟩
    simp only [copperplatelaw09_FewToks.l0]
    by_cases hlt : (i : Int) < l.length
    · rw [if_pos hlt]
      simp only [copperplatelaw09_FewToks.j1]
      by_cases h100 : (i : Int) ≤ 100
      · rw [decide_eq_true h100, if_pos rfl, if_pos (by omega)]
        rw [if_pos hlt]
        by_cases hbig : ((rd_T23 l (i : Int)).f1.size : Int) > 600
        · rw [if_pos hbig]; exact ⟨false, rfl, fun q => by cases q⟩
        · rw [if_neg hbig, wrap_up (by omega)]
          cases d with
          | zero => omega
          | succ d => exact few_l0 l d (i + 1) k (by omega) (by omega) (by omega)
      · rw [decide_eq_false h100, if_neg (by decide)]
        exact ⟨_, rfl, fun q => by have := of_decide_eq_true q; omega⟩
    · rw [if_neg hlt]
      simp only [copperplatelaw09_FewToks.j1]
      rw [if_neg (by decide)]
      exact ⟨_, rfl, fun q => by have := of_decide_eq_true q; omega⟩
theorem few_eq (l : List S23) (k : Nat) (hk : 300 < k) : ∃ b, copperplatelaw09_FewToks.f k l = some b ∧ (b = true → l.length ≤ 100) := by
  have := few_l0 l 101 0 k (by omega) (by omega) (by omega)
  exact this
theorem refIn_eq (c te : Int) : copperplateref10_In.f c te = some (inB c te) := by
  unfold copperplateref10_In.f inB
  by_cases h1 : te < 18
  · have hn : isName te = false := decide_eq_false (by omega)
    have ho : decide (te = 19 ∨ te = 20 ∨ te = 21) = false := decide_eq_false (by omega)
    rw [if_pos h1, hn, ho]
    repeat' split
    all_goals rfl
  · rw [if_neg h1]
    by_cases h2 : te > 30
    · have hn : isName te = false := decide_eq_false (by omega)
      have ho : decide (te = 19 ∨ te = 20 ∨ te = 21) = false := decide_eq_false (by omega)
      rw [if_pos h2, hn, ho]
      repeat' split
      all_goals rfl
    · have hn : isName te = true := decide_eq_true (by omega)
      rw [if_neg h2, hn]
      by_cases c0 : c = 0
      · rw [if_pos c0, if_pos c0]
      · rw [if_neg c0, if_neg c0]
        by_cases c1 : c = 1
        · rw [if_pos c1, if_pos c1]
          by_cases h23 : te = 23
          · rw [if_pos h23, if_neg (by omega), h23]; rfl
          · rw [if_neg h23, (by simpa using h23 : (te != 23) = true)]; rfl
        · rw [if_neg c1, if_neg c1]
          by_cases c2 : c = 2
          · rw [if_pos c2, if_pos c2]
            by_cases h19 : te ≥ 19
            · rw [if_pos h19]
              have : decide (te ≤ 21) = decide (te = 19 ∨ te = 20 ∨ te = 21) := decide_eq_decide.2 (by omega)
              rw [this]
            · have ho : decide (te = 19 ∨ te = 20 ∨ te = 21) = false := decide_eq_false (by omega)
              rw [if_neg h19, ho]
          · rw [if_neg c2, if_neg c2]

def refTexts : List ByteArray := [(⟨#[33]⟩ : ByteArray), (⟨#[36]⟩ : ByteArray), (⟨#[38]⟩ : ByteArray), (⟨#[40]⟩ : ByteArray), (⟨#[41]⟩ : ByteArray), (⟨#[46, 46, 46]⟩ : ByteArray), (⟨#[58]⟩ : ByteArray), (⟨#[61]⟩ : ByteArray), (⟨#[64]⟩ : ByteArray), (⟨#[91]⟩ : ByteArray), (⟨#[93]⟩ : ByteArray), (⟨#[123]⟩ : ByteArray), (⟨#[124]⟩ : ByteArray), (⟨#[125]⟩ : ByteArray), (⟨#[113, 117, 101, 114, 121]⟩ : ByteArray), (⟨#[109, 117, 116, 97, 116, 105, 111, 110]⟩ : ByteArray), (⟨#[115, 117, 98, 115, 99, 114, 105, 112, 116, 105, 111, 110]⟩ : ByteArray), (⟨#[102, 114, 97, 103, 109, 101, 110, 116]⟩ : ByteArray), (⟨#[111, 110]⟩ : ByteArray), (⟨#[116, 121, 112, 101]⟩ : ByteArray), (⟨#[105, 110, 116, 101, 114, 102, 97, 99, 101]⟩ : ByteArray), (⟨#[101, 110, 117, 109]⟩ : ByteArray), (⟨#[117, 110, 105, 111, 110]⟩ : ByteArray), (⟨#[105, 110, 112, 117, 116]⟩ : ByteArray), (⟨#[115, 99, 97, 108, 97, 114]⟩ : ByteArray), (⟨#[105, 109, 112, 108, 101, 109, 101, 110, 116, 115]⟩ : ByteArray)]
def refNum (i : Nat) : Int := if i < 14 then (i : Int) + 1 else (i : Int) + 5
theorem ref_at : ∀ i : Nat, i < 26 → copperplateref10_name.f (rdOf ByteArray.empty refTexts (i : Int)) = some (if i < 14 then 18 else refNum i) ∧ (i < 14 → copperplateref10_punct.f (rdOf ByteArray.empty refTexts (i : Int)) = some (refNum i)) ∧ rdOf ByteArray.empty refTexts (i : Int) = kTexts.getD (refNum i).toNat ⟨#[]⟩ := by
  intro i hi
  have e : rdOf ByteArray.empty refTexts (i : Int) = kTexts.getD (refNum i).toNat ⟨#[]⟩ := by revert i; decide
  have hd : ∀ s : ByteArray, copperplateref10_name.f s = some (kOf 2 s) ∧ copperplateref10_punct.f s = some (kFind 0 s) := fun s => ⟨name_eq s, punct_eq s⟩
  refine ⟨?_, ?_, e⟩
  · unfold copperplateref10_name.f; simp only [Lib.toList_data]; revert i; decide
  · intro h14; unfold copperplateref10_punct.f; simp only [Lib.toList_data]; revert i; decide
theorem if_iff {α : Type} {p q : Prop} [Decidable p] [Decidable q] {x y : α} (h : p ↔ q) : (if p then x else y) = if q then x else y := by
  by_cases c : q
  · rw [if_pos (h.2 c), if_pos c]
  · rw [if_neg (fun a => c (h.1 a)), if_neg c]
theorem refText_l0 (te : Int) : ∀ (d i k : Nat), i + d = 26 → d < k → copperplateref10_Text.l0 k te refTexts (i : Int) = if ((i : Int) < 14 ∧ (i : Int) < te ∧ te ≤ 14) ∨ (refNum i ≤ te ∧ 19 ≤ te ∧ te ≤ 30) then some (kTexts.getD te.toNat ⟨#[]⟩, true) else some (⟨#[]⟩, false)
  | 0, i, k, h, hk => by
    obtain ⟨k, rfl⟩ : ∃ m, k = m + 1 := ⟨k - 1, by omega⟩
    simp only [copperplateref10_Text.l0]
    have hlen : refTexts.length = 26 := rfl
    obtain rfl : i = 26 := by omega
    rw [if_neg (by rw [hlen]; omega), if_neg (by unfold refNum; simp; omega)]
  | d + 1, i, k, h, hk => by
    obtain ⟨k, rfl⟩ : ∃ m, k = m + 1 := ⟨k - 1, by omega⟩
    have hlen : refTexts.length = 26 := rfl
    obtain ⟨h1, h2, h3⟩ := ref_at i (by omega)
    have ih := refText_l0 te d (i + 1) k (by omega) (by omega)
    simp only [copperplateref10_Text.l0]
    rw [if_pos (by rw [hlen]; omega), if_pos (by omega), h1]
    simp only [Option.bind_some]
    by_cases h14 : i < 14
    · have hr : refNum i = i + 1 := by unfold refNum; rw [if_pos h14]
      rw [if_pos (by omega), h2 h14]
      simp only [Option.bind_some]
      by_cases he : refNum i = te
      · rw [if_pos he, h3, he, if_pos (.inl (by omega))]
      · rw [if_neg he, wrap_up (by omega), ih]
        refine if_iff ?_
        have hr2 : (i + 1 < 14 ∧ refNum (i + 1) = (i : Int) + 2) ∨ (¬ i + 1 < 14 ∧ refNum (i + 1) = (i : Int) + 6) := by
          unfold refNum
          by_cases q : i + 1 < 14
          · exact .inl ⟨q, by rw [if_pos q]; omega⟩
          · exact .inr ⟨q, by rw [if_neg q]; omega⟩
        rcases hr2 with ⟨q, hr2⟩ | ⟨q, hr2⟩ <;> rw [hr2, hr] <;> omega
    · have hr : refNum i = i + 5 := by unfold refNum; rw [if_neg h14]
      rw [if_neg (by omega), if_neg h14]
      by_cases he : refNum i = te
      · rw [if_pos he, h3, he, if_pos (.inr (by omega))]
      · rw [if_neg he, wrap_up (by omega), ih]
        have hr2 : refNum (i + 1) = (i : Int) + 6 := by unfold refNum; rw [if_neg (by omega)]; omega
        refine if_iff ?_
        rw [hr2, hr]; omega
theorem has_all : ∀ j : Nat, j < 31 → (!(kTexts.getD j ⟨#[]⟩).data.toList.isEmpty) = decide (1 ≤ j ∧ j ≤ 14 ∨ 19 ≤ j) := by decide
theorem refText_eq (te : Int) (k : Nat) (hk : 26 < k) : copperplateref10_Text.f k te = some (kText te, kHas te) := by
  have h := refText_l0 te 26 0 k (by omega) hk
  have h0 : copperplateref10_Text.f k te = copperplateref10_Text.l0 k te refTexts ((0 : Nat) : Int) := rfl
  rw [h0, h]
  have hr : refNum 0 = 1 := rfl
  have hH : kHas te = decide (1 ≤ te ∧ te ≤ 14 ∨ 19 ≤ te ∧ te ≤ 30) := by
    by_cases q : 0 ≤ te ∧ te < 31
    · obtain ⟨j, rfl⟩ : ∃ j : Nat, te = j := ⟨te.toNat, by omega⟩
      rw [has_range (by omega), Lib.toList_data, has_all j (by omega)]
      apply decide_eq_decide.2; omega
    · unfold kHas; rw [decide_eq_false q, Bool.false_and]; symm; apply decide_eq_false; omega
  by_cases q : 1 ≤ te ∧ te ≤ 14 ∨ 19 ≤ te ∧ te ≤ 30
  · have e : kHas te = true := by rw [hH]; exact decide_eq_true q
    rw [if_pos (by rw [hr]; omega), e]
    unfold kText; rw [if_pos e]
  · have e : kHas te = false := by rw [hH]; exact decide_eq_false q
    rw [if_neg (by rw [hr]; omega), e]
    unfold kText; rw [e]; rfl

theorem kindTells_pure (k0 : Int) (s : ByteArray) (a b : Int) (l : List S23) (c te : Int) : copperplatelaw10_KindTells.f 400 k0 s a b l c te = some true := by
  unfold copperplatelaw10_KindTells.f
  obtain ⟨bf, hf, hfew⟩ := few_eq l 400 (by omega)
  rw [awake10 400 (by omega), hf]
  simp only [Option.bind_some, if_true]
  cases bf with
  | false => rfl
  | true =>
    have hl := hfew rfl
    rw [if_pos rfl]
    by_cases h600 : (s.size : Int) > 600
    · rw [decide_eq_true h600]; rfl
    · rw [decide_eq_false h600]
      have hka : (kAll l).length = l.length := by unfold kAll; rw [List.length_map]
      have e1 := all_eq l (by omega) 399 (by omega)
      have e2 := refAll_eq l (by omega) 399 (by omega)
      have e3 := ints_eq (kAll l) (by omega) 399 (by omega)
      have e4 := refText_eq te 399 (by omega)
      have e5 : kind_In.f 399 c te = some (inB c te) := in_eq 398 c te
      show copperplatelaw10_KindTells.j0 (399 + 1) l c te true false k0 s a b = some true
      simp only [copperplatelaw10_KindTells.j0, e1, e2, e3, e4, e5, refIn_eq, refOf_eq, kind_Of.f, kind_Text.f, Option.bind_some, beq_self_eq_true, if_true, Bool.false_eq_true, if_false]
end Go.Proofs.YthbphgchnloipaaDoor.G
