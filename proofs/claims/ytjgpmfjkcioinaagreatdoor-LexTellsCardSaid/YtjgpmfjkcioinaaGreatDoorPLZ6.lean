/-
  The document's lexer, over what its text computes: one token, and whether there are few.
-/
import Derived.Test.YtjgpmfjkcioinaaGreatDoorPLQ11
import Derived.Test.YtjgpmfjkcioinaaGreatDoorPLQ2
import Derived.Test.YtjgpmfjkcioinaaGreatDoorPLQ10
import Derived.Test.YtjgpmfjkcioinaaGreatDoorPLGG3
import Derived.Test.YtjgpmfjkcioinaaGreatDoorPLZ4
import Derived.Test.YtjgpmfjkcioinaaGreatDoorPLZ5
import Derived.Test.YtjgpmfjkcioinaaGreatDoorPLGG6
namespace Go.Proofs.YtjgpmfjkcioinaaGreatDoor.G
open Go.RowKit Go.Proofs.YtjgpmfjkcioinaaGreatDoor.Q Go.Proofs.YtjgpmfjkcioinaaGreatDoorW.PrintWords Go.Proofs.YtjgpmfjkcioinaaGreatDoorW.PrintLast Go.Proofs.YtjgpmfjkcioinaaGreatDoor.M
set_option linter.unusedVariables false
set_option linter.unusedSimpArgs false
theorem w64i {n : Int} (h0 : -9223372036854775808 ≤ n) (h1 : n ≤ 9223372036854775807) : wrap64 n = n := by unfold wrap64; omega
theorem pun_ifs {α : Type} (F : Bool → α) (c : Int) : (if c = 33 then F (c == 33) else (if c = 36 then F (c == 36) else (if c = 38 then F (c == 38) else (if c = 40 then F (c == 40) else (if c = 41 then F (c == 41) else (if c = 58 then F (c == 58) else (if c = 61 then F (c == 61) else (if c = 64 then F (c == 64) else (if c = 91 then F (c == 91) else (if c = 93 then F (c == 93) else (if c = 123 then F (c == 123) else (if c = 124 then F (c == 124) else F (c == 125))))))))))))) = F (isPun c) := by
  by_cases h : isPun c = true
  · have hc : c = 33 ∨ c = 36 ∨ c = 38 ∨ c = 40 ∨ c = 41 ∨ c = 58 ∨ c = 61 ∨ c = 64 ∨ c = 91 ∨ c = 93 ∨ c = 123 ∨ c = 124 ∨ c = 125 := by
      unfold isPun at h; simpa using h
    rw [h]
    rcases hc with rfl | rfl | rfl | rfl | rfl | rfl | rfl | rfl | rfl | rfl | rfl | rfl | rfl <;> rfl
  · have hc : ¬ (c = 33 ∨ c = 36 ∨ c = 38 ∨ c = 40 ∨ c = 41 ∨ c = 58 ∨ c = 61 ∨ c = 64 ∨ c = 91 ∨ c = 93 ∨ c = 123 ∨ c = 124 ∨ c = 125) := by
      intro q; apply h; unfold isPun; simpa using q
    rw [Bool.not_eq_true] at h
    rw [h, if_neg (by omega), if_neg (by omega), if_neg (by omega), if_neg (by omega), if_neg (by omega), if_neg (by omega), if_neg (by omega), if_neg (by omega), if_neg (by omega), if_neg (by omega), if_neg (by omega), if_neg (by omega), show (c == 125) = false from beq_eq_false_iff_ne.2 (by omega)]
theorem num_ifs {α : Type} (F : Bool → α) (c : Int) : (if c = 45 then F (c == 45) else (if c = 48 then F (c == 48) else (if c = 49 then F (c == 49) else (if c = 50 then F (c == 50) else (if c = 51 then F (c == 51) else (if c = 52 then F (c == 52) else (if c = 53 then F (c == 53) else (if c = 54 then F (c == 54) else (if c = 55 then F (c == 55) else (if c = 56 then F (c == 56) else F (c == 57))))))))))) = F (decide (c = 45 ∨ isDig c = true)) := by
  by_cases h : c = 45 ∨ isDig c = true
  · rw [decide_eq_true h]
    have hc : c = 45 ∨ c = 48 ∨ c = 49 ∨ c = 50 ∨ c = 51 ∨ c = 52 ∨ c = 53 ∨ c = 54 ∨ c = 55 ∨ c = 56 ∨ c = 57 := by
      rcases h with h | h
      · exact .inl h
      · have : 48 ≤ c ∧ c ≤ 57 := of_decide_eq_true h
        omega
    rcases hc with rfl | rfl | rfl | rfl | rfl | rfl | rfl | rfl | rfl | rfl | rfl <;> rfl
  · rw [decide_eq_false h]
    have hd : ¬ (48 ≤ c ∧ c ≤ 57) := fun q => h (.inr (decide_eq_true q))
    have h45 : c ≠ 45 := fun q => h (.inl q)
    rw [if_neg h45, if_neg (by omega), if_neg (by omega), if_neg (by omega), if_neg (by omega), if_neg (by omega), if_neg (by omega), if_neg (by omega), if_neg (by omega), if_neg (by omega), show (c == 57) = false from beq_eq_false_iff_ne.2 (by omega)]
theorem ref_tok (s : ByteArray) (k : Int) (m n : Nat) (h : m + n ≤ s.size) : copperplateref09_tok.f s k (m : Int) ((m : Int) + (n : Nat)) = some (k, ba ((at_ s (m : Int)).take n), (m : Int), (m : Int) + (n : Nat)) := by
  unfold copperplateref09_tok.f
  rw [if_pos (by omega), if_pos (by omega), if_pos (by omega), ← ext_ba]
  rfl
theorem oneT_in {s : ByteArray} {m : Nat} (h : m < s.size) : oneT s (m : Int) = if (lexone (at_ s m)).e = 0 then ((lexone (at_ s m)).k, ba (lexone (at_ s m)).t, (m : Int), (m : Int) + (lexone (at_ s m)).n, 0, (m : Int) + (lexone (at_ s m)).n) else (0, ⟨#[]⟩, 0, 0, (lexone (at_ s m)).e, (m : Int) + (lexone (at_ s m)).n) := if_neg (by omega)
theorem oneT_ok {s : ByteArray} {m : Nat} (h : m < s.size) {k : Int} {t : List Int} {n : Nat} (hq : lexone (at_ s m) = ⟨k, t, 0, n⟩) : oneT s (m : Int) = (k, ba t, (m : Int), (m : Int) + (n : Nat), 0, (m : Int) + (n : Nat)) := by
  rw [oneT_in h, hq, if_pos rfl]
theorem oneT_bad {s : ByteArray} {m : Nat} (h : m < s.size) {e : Int} {n : Nat} (he : e ≠ 0) (hq : lexone (at_ s m) = lbad e n) : oneT s (m : Int) = (0, ⟨#[]⟩, 0, 0, e, (m : Int) + (n : Nat)) := by
  rw [oneT_in h, hq, if_neg (show (lbad e n).e ≠ 0 from he)]; rfl
theorem ext3 (s : ByteArray) (m : Nat) (b : Int) (u : UInt8) (hu : (u.toNat : Int) = b) : ((s.extract m (m + 3)).toList = ([u, u, u] : List UInt8)) ↔ (at_ s (m : Int)).take 3 = [b, b, b] := by
  have h1 : by_ (s.extract m (m + 3)) = (at_ s (m : Int)).take 3 := by
    rw [by_extract, List.drop_take, Nat.add_sub_cancel_left]; unfold at_; rw [Int.toNat_natCast]
  have h2 : (s.extract m (m + 3)).toList = (s.extract m (m + 3)).data.toList := Lib.toList_data _
  rw [h2, ← h1]
  constructor
  · intro h
    unfold by_
    rw [h]
    simp [hu]
  · intro h
    have h3 : by_ (s.extract m (m + 3)) = by_ (⟨#[u, u, u]⟩ : ByteArray) := by
      rw [h]; unfold by_; simp [hu]
    rw [by_inj h3]
theorem few_loop (l : List S26) : ∀ (r j K : Nat), 102 - j ≤ r → 2 * r + 2 ≤ K → j ≤ 200 → ∃ b, copperplatelaw09_FewToks.l0 K l (j : Int) = some b ∧ (b = true → l.length ≤ 100) := by
  intro r
  induction r with
  | zero =>
    intro j K h1 h2 h3
    obtain ⟨K, rfl⟩ : ∃ k, K = k + 1 + 1 := ⟨K - 2, by omega⟩
    refine ⟨decide ((l.length : Int) ≤ 100), ?_, fun h => by have := of_decide_eq_true h; omega⟩
    rw [copperplatelaw09_FewToks.l0]
    by_cases hj : (j : Int) < (l.length : Int)
    · rw [if_pos hj, decide_eq_false (by omega), copperplatelaw09_FewToks.j1, if_neg Bool.false_ne_true]
    · rw [if_neg hj, copperplatelaw09_FewToks.j1, if_neg Bool.false_ne_true]
  | succ r ih =>
    intro j K h1 h2 h3
    obtain ⟨K, rfl⟩ : ∃ k, K = k + 1 + 1 := ⟨K - 2, by omega⟩
    by_cases hj : (j : Int) < (l.length : Int)
    · by_cases h100 : (j : Int) ≤ 100
      · have hw : wrap64 ((j : Int) + 1) = ((j + 1 : Nat) : Int) := by rw [w64i (by omega) (by omega)]; omega
        obtain ⟨b, hb, hb2⟩ := ih (j + 1) K (by omega) (by omega) (by omega)
        by_cases hz : (((rd_T26 l (j : Int)).f1).size : Int) > 600
        · refine ⟨false, ?_, fun h => by cases h⟩
          rw [copperplatelaw09_FewToks.l0, if_pos hj, decide_eq_true h100, copperplatelaw09_FewToks.j1, if_pos rfl, if_pos (Int.natCast_nonneg j), if_pos hj, if_pos hz]
        · refine ⟨b, ?_, hb2⟩
          rw [copperplatelaw09_FewToks.l0, if_pos hj, decide_eq_true h100, copperplatelaw09_FewToks.j1, if_pos rfl, if_pos (Int.natCast_nonneg j), if_pos hj, if_neg hz, hw, hb]
      · refine ⟨decide ((l.length : Int) ≤ 100), ?_, fun h => by have := of_decide_eq_true h; omega⟩
        rw [copperplatelaw09_FewToks.l0, if_pos hj, decide_eq_false h100, copperplatelaw09_FewToks.j1, if_neg Bool.false_ne_true]
    · refine ⟨decide ((l.length : Int) ≤ 100), ?_, fun h => by have := of_decide_eq_true h; omega⟩
      rw [copperplatelaw09_FewToks.l0, if_neg hj, copperplatelaw09_FewToks.j1, if_neg Bool.false_ne_true]
theorem few_f (l : List S26) (K : Nat) (hK : 300 ≤ K) : ∃ b, copperplatelaw09_FewToks.f K l = some b ∧ (b = true → l.length ≤ 100) := few_loop l 102 0 K (by omega) (by omega) (by omega)
theorem ref_some (K : Nat) (s : ByteArray) (m : Nat) (hs : s.size ≤ 600) (hK : 10000 ≤ K) (hm : m < s.size) (r : List Int) (hl : at_ s (m : Int) = 34 :: r) : copperplateref09_some.f (K + 1) s (m : Int) =
    some (if three (34 :: r) = true then (if (rawB ((34 :: r).drop 3)).1 = true then (ba (foldL (rawB ((34 :: r).drop 3)).2.1), (m : Int) + (3 + (rawB ((34 :: r).drop 3)).2.2 : Nat), true) else (⟨#[]⟩, (m : Int) + (3 + (rawB ((34 :: r).drop 3)).2.2 : Nat), false))
      else (ba (strB r).2.1, (m : Int) + (1 + (strB r).2.2 : Nat), (strB r).1)) := by
  have hlen := at_length s m (by omega) (by omega)
  rw [hl] at hlen
  have hw0 : wrap64 ((s.size : Int) - (m : Int)) = (s.size : Int) - m := w64i (by omega) (by omega)
  have hw3 : wrap64 ((m : Int) + 3) = (m : Int) + 3 := w64i (by omega) (by omega)
  have key : copperplateref09_some.f (K + 1) s (m : Int) = copperplateref09_some.j0 (K + 1) s (m : Int) (three (34 :: r)) := by
    unfold copperplateref09_some.f
    rw [hw0, hw3]
    by_cases h3 : (s.size : Int) - m ≥ 3
    · rw [if_pos h3, if_pos (by omega), if_pos (by omega), if_pos (by omega)]
      have e : ((s.extract ((m : Int)).toNat ((m : Int) + 3).toNat).toList == ([34, 34, 34] : List UInt8)) = three (34 :: r) := by
        have e1 := ext3 s m 34 34 rfl
        rw [hl] at e1
        unfold three
        rw [show ((m : Int)).toNat = m from Int.toNat_natCast m, show ((m : Int) + 3).toNat = m + 3 by omega, Bool.eq_iff_iff, beq_iff_eq, decide_eq_true_eq]
        exact e1
      rw [e]
    · rw [if_neg h3]
      have e : three (34 :: r) = false := by
        unfold three
        refine decide_eq_false fun q => ?_
        have := congrArg List.length q
        rw [List.length_take] at this
        simp only [List.length_cons, List.length_nil] at this hlen
        omega
      rw [e]
  rw [key, copperplateref09_some.j0]
  cases h3 : three (34 :: r) with
  | true =>
    have hd3 : at_ s ((m : Int) + 3) = (34 :: r).drop 3 := by rw [← hl]; exact at_add s m 3 (by omega)
    have hR : rawAt s (m : Int) = ((rawB ((34 :: r).drop 3)).1, (rawB ((34 :: r).drop 3)).2.1, (m : Int) + 3 + (rawB ((34 :: r).drop 3)).2.2) := by
      unfold rawAt
      rw [hl, hd3, if_neg (by rw [h3]; simp)]
    rw [if_pos rfl, if_pos rfl, ref_Raw_f K s m hs (by omega), Option.bind_some, hR]
    dsimp only
    have ht := raw_text_le ((34 :: r).drop 3)
    rw [List.length_drop] at ht
    have hrng : ∀ c ∈ (rawB ((34 :: r).drop 3)).2.1, 0 ≤ c ∧ c ≤ 255 := raw_text_all (P := fun c => 0 ≤ c ∧ c ≤ 255) (by decide) _ (fun c hc => by rw [← hl] at hc; exact at_range s m c (List.mem_of_mem_drop hc))
    have hsz : (ba (rawB ((34 :: r).drop 3)).2.1).size ≤ 600 := by rw [ba_size]; omega
    cases hb : (rawB ((34 :: r).drop 3)).1 with
    | true =>
      rw [if_pos rfl, if_pos rfl, ref_Fold_f K _ hsz hK, Option.bind_some, by_ba hrng]
      simp only [Option.some.injEq, Prod.mk.injEq, true_and, and_true]; omega
    | false =>
      rw [if_neg Bool.false_ne_true, if_neg Bool.false_ne_true]
      simp only [Option.some.injEq, Prod.mk.injEq, true_and, and_true]; omega
  | false =>
    have hS := strAt_nat s m
    have hsl : sL (at_ s (m : Int)) = ((strB r).1, (strB r).2.1, 1 + (strB r).2.2) := by rw [hl]; exact sL_quote r
    rw [hsl] at hS
    rw [if_neg Bool.false_ne_true, if_neg Bool.false_ne_true, ref_String K s m (by omega) (by omega), Option.bind_some]
    unfold StT StI StB
    rw [hS]
theorem lex_let {c : Int} {r : List Int} (h : isLet c = true) : lexone (c :: r) = ⟨2, (c :: r).take (name (c :: r)), 0, name (c :: r)⟩ := by
  have hc : 65 ≤ c ∧ c ≤ 90 ∨ 97 ≤ c ∧ c ≤ 122 ∨ c = 95 := of_decide_eq_true h
  have hp : isPun c = false := by unfold isPun; simp; omega
  rw [lexone_cons]; unfold lexc
  rw [if_neg (by omega), if_neg (by rw [hp]; decide), if_pos h]
theorem lex_pun {c : Int} {r : List Int} (h : isPun c = true) : lexone (c :: r) = ⟨1, (c :: r).take 1, 0, 1⟩ := by
  have hc : c ≠ 46 := fun e => by rw [e] at h; exact absurd h (by decide)
  rw [lexone_cons]; unfold lexc
  rw [if_neg hc, if_pos h]
theorem lex_numb {c : Int} {r : List Int} (h : c = 45 ∨ isDig c = true) : lexone (c :: r) = if (lNum (c :: r)).2.2 = true then ⟨(lNum (c :: r)).1, (c :: r).take (lNum (c :: r)).2.1, 0, (lNum (c :: r)).2.1⟩ else lbad 3 (lNum (c :: r)).2.1 := by
  have hc : c = 45 ∨ (48 ≤ c ∧ c ≤ 57) := h.imp_right of_decide_eq_true
  have hp : isPun c = false := by unfold isPun; simp; omega
  have hL : isLet c = false := by unfold isLet; simp; omega
  rw [lexone_cons]; unfold lexc
  rw [if_neg (by omega), if_neg (by rw [hp]; decide), if_neg (by rw [hL]; decide), if_pos h]
theorem lex_quote (r : List Int) : lexone (34 :: r) = if three (34 :: r) = true then (if (rawB ((34 :: r).drop 3)).1 = true then ⟨5, foldL (rawB ((34 :: r).drop 3)).2.1, 0, 3 + (rawB ((34 :: r).drop 3)).2.2⟩ else lbad 4 (3 + (rawB ((34 :: r).drop 3)).2.2)) else (if (strB r).1 = true then ⟨5, (strB r).2.1, 0, 1 + (strB r).2.2⟩ else lbad 4 (1 + (strB r).2.2)) := by
  rw [lexone_cons]; unfold lexc
  rw [if_neg (by decide), if_neg (by decide), if_neg (by decide), if_neg (by decide), if_pos rfl]
theorem lex_other {c : Int} {r : List Int} (h46 : c ≠ 46) (hp : isPun c = false) (hL : isLet c = false) (hn : ¬ (c = 45 ∨ isDig c = true)) (h34 : c ≠ 34) : lexone (c :: r) = lbad 2 0 := by
  have h3 : three (c :: r) = false := by
    unfold three
    refine decide_eq_false fun q => ?_
    rw [List.take_succ_cons] at q
    injection q with q1
    exact h34 q1
  rw [lexone_cons]; unfold lexc
  rw [if_neg h46, if_neg (by rw [hp]; decide), if_neg (by rw [hL]; decide), if_neg hn, if_neg (by rw [h3]; decide), if_neg h34]
theorem ref_One (K : Nat) (s : ByteArray) (i : Int) (hs : s.size ≤ 600) (hK : 10010 ≤ K) : copperplateref09_One.f K s i = some (oneT s i) := by
  obtain ⟨K, rfl⟩ : ∃ k, K = k + 1 + 1 + 1 + 1 := ⟨K - 4, by omega⟩
  unfold copperplateref09_One.f
  by_cases hi0 : i < 0
  · have e : oneT s i = (0, ⟨#[]⟩, 0, 0, 2, i) := if_pos (.inl hi0)
    rw [if_pos hi0, copperplateref09_One.j0, if_pos rfl, e]
  rw [if_neg hi0]
  by_cases hi1 : i ≥ (s.size : Int)
  · have e : oneT s i = (0, ⟨#[]⟩, 0, 0, 2, i) := if_pos (.inr hi1)
    rw [decide_eq_true hi1, copperplateref09_One.j0, if_pos rfl, e]
  rw [decide_eq_false hi1]
  obtain ⟨m, rfl⟩ : ∃ m : Nat, i = m := ⟨i.toNat, by omega⟩
  have hlt : m < s.size := by omega
  have hcons := at_cons s m (by omega) (by omega)
  have hlen := at_length s m (by omega) (by omega)
  have hN0 := R.name_ref s (by omega) m (K + 3) (by omega)
  have hNu := R.number_ref s (by omega) m (K + 1) (by omega)
  have hNl := number_list s m (by omega) (by omega)
  have q0 : (0 : Int) ≤ (m : Int) := by omega
  have q1 : (m : Int) < (s.size : Int) := by omega
  rw [copperplateref09_One.j0, if_neg Bool.false_ne_true, if_pos q0, if_pos q1, R.begins_ref, Option.bind_some]
  obtain ⟨c, hc⟩ : ∃ c, bt s (m : Int) = c := ⟨_, rfl⟩
  obtain ⟨r, hr⟩ : ∃ r, at_ s ((m : Int) + 1) = r := ⟨_, rfl⟩
  rw [hc, hr] at hcons
  rw [hc]
  have tk := ref_tok s
  rw [hcons] at hlen
  by_cases hL : isLet c = true
  · have hnl := lname_le (c :: r)
    have hq : lexone (at_ s m) = ⟨2, (c :: r).take (name (c :: r)), 0, name (c :: r)⟩ := by rw [hcons]; exact lex_let hL
    have hN : nameEnd s m = (m : Int) + (name (c :: r) : Nat) := by unfold nameEnd; rw [if_pos ⟨by omega, by omega⟩, hcons]
    rw [if_pos hL, hN0, Option.bind_some, hN, tk 2 m (name (c :: r)) (by omega), Option.bind_some, oneT_ok hlt hq, hcons]
  rw [if_neg hL]
  rw [Bool.not_eq_true] at hL
  rw [pun_ifs (fun b => copperplateref09_One.j1 (K + 1 + 1 + 1) s (m : Int) c b) c]
  have hw1 : wrap64 ((m : Int) + 1) = (m : Int) + (1 : Nat) := w64i (by omega) (by omega)
  have hw3 : wrap64 ((m : Int) + 3) = (m : Int) + (3 : Nat) := w64i (by omega) (by omega)
  have hw0 : wrap64 ((s.size : Int) - (m : Int)) = (s.size : Int) - m := w64i (by omega) (by omega)
  by_cases hp : isPun c = true
  · have hq : lexone (at_ s m) = ⟨1, (c :: r).take 1, 0, 1⟩ := by rw [hcons]; exact lex_pun hp
    rw [hp]
    show copperplateref09_One.j1 (K + 1 + 1 + 1) s (m : Int) c true = _
    rw [copperplateref09_One.j1, if_pos rfl, hw1, tk 1 m 1 (by omega), Option.bind_some, oneT_ok hlt hq, hcons]
  rw [Bool.not_eq_true] at hp
  rw [hp]
  show copperplateref09_One.j1 (K + 1 + 1 + 1) s (m : Int) c false = _
  rw [copperplateref09_One.j1, if_neg Bool.false_ne_true]
  by_cases h46 : c = 46
  · subst h46
    rw [if_pos rfl, hw0, hw3]
    have hbad : dots3 (46 :: r) = false → oneT s (m : Int) = (0, ⟨#[]⟩, 0, 0, 2, (m : Int)) := fun hd => by
      have hq : lexone (at_ s m) = lbad 2 0 := by
        rw [hcons, lexone_cons]; unfold lexc
        rw [if_pos rfl, if_neg (by rw [hd]; decide)]
      rw [oneT_bad hlt (by decide) hq, Int.natCast_zero, Int.add_zero]
    by_cases h3 : (s.size : Int) - m ≥ 3
    · have e1 := ext3 s m 46 46 rfl
      rw [hcons] at e1
      rw [if_pos h3, if_pos q0, if_pos (by omega), if_pos (by omega), show ((m : Int)).toNat = m from Int.toNat_natCast m, show ((m : Int) + (3 : Nat)).toNat = m + 3 by omega]
      cases hd : dots3 (46 :: r) with
      | true =>
        have hq : lexone (at_ s m) = ⟨1, (46 :: r).take 3, 0, 3⟩ := by
          rw [hcons, lexone_cons]; unfold lexc
          rw [if_pos rfl, if_pos hd]
        rw [if_pos (e1.2 (of_decide_eq_true hd)), tk 1 m 3 (by omega), Option.bind_some, oneT_ok hlt hq, hcons]
      | false => rw [if_neg (fun q => by have := of_decide_eq_false hd; exact this (e1.1 q)), hbad hd]
    · rw [if_neg h3]
      have hd : dots3 (46 :: r) = false := by
        unfold dots3
        refine decide_eq_false fun q => ?_
        have := congrArg List.length q
        rw [List.length_take] at this
        simp only [List.length_cons, List.length_nil] at this hlen
        omega
      rw [hbad hd]
  rw [if_neg h46, num_ifs (fun b => copperplateref09_One.j2 (K + 1 + 1) s (m : Int) c b) c]
  by_cases hn : c = 45 ∨ isDig c = true
  · rw [decide_eq_true hn]
    show copperplateref09_One.j2 (K + 1 + 1) s (m : Int) c true = _
    have hsh := short_num (c :: r)
    have e := lex_numb (r := r) hn
    obtain ⟨k, n, b, hx⟩ : ∃ k n b, lNum (c :: r) = (k, n, b) := ⟨_, _, _, rfl⟩
    have hNl2 : number s (m : Int) = (k, (m : Int) + (n : Nat), b) := by rw [hNl, hcons, hx]; rfl
    rw [hx] at hsh e
    have hsh : n ≤ (c :: r).length := hsh
    rw [copperplateref09_One.j2, if_pos rfl, hNu, Option.bind_some, hNl2]
    dsimp only at e ⊢
    cases b with
    | true =>
      rw [if_pos rfl] at e ⊢
      have hq : lexone (at_ s m) = ⟨k, (c :: r).take n, 0, n⟩ := by rw [hcons]; exact e
      rw [tk k m n (by omega), Option.bind_some, oneT_ok hlt hq, hcons]
    | false =>
      rw [if_neg Bool.false_ne_true] at e ⊢
      have hq : lexone (at_ s m) = lbad 3 n := by rw [hcons]; exact e
      rw [oneT_bad hlt (by decide) hq]
  rw [decide_eq_false hn]
  show copperplateref09_One.j2 (K + 1 + 1) s (m : Int) c false = _
  rw [copperplateref09_One.j2, if_neg Bool.false_ne_true]
  by_cases h34 : c = 34
  · subst h34
    rw [if_pos rfl, ref_some K s m hs (by omega) hlt r hcons, Option.bind_some]
    have e := lex_quote r
    cases h3 : three (34 :: r) with
    | true =>
      rw [h3, if_pos rfl] at e
      rw [if_pos rfl]
      cases hb : (rawB ((34 :: r).drop 3)).1 with
      | true =>
        rw [hb, if_pos rfl] at e
        have hq : lexone (at_ s m) = ⟨5, foldL (rawB ((34 :: r).drop 3)).2.1, 0, 3 + (rawB ((34 :: r).drop 3)).2.2⟩ := by rw [hcons]; exact e
        rw [if_pos rfl]
        dsimp only
        rw [if_pos rfl, oneT_ok hlt hq]
      | false =>
        rw [hb, if_neg Bool.false_ne_true] at e
        have hq : lexone (at_ s m) = lbad 4 (3 + (rawB ((34 :: r).drop 3)).2.2) := by rw [hcons]; exact e
        rw [if_neg Bool.false_ne_true]
        dsimp only
        rw [if_neg Bool.false_ne_true, oneT_bad hlt (by decide) hq]
    | false =>
      rw [h3, if_neg Bool.false_ne_true] at e
      rw [if_neg Bool.false_ne_true]
      dsimp only
      cases hb : (strB r).1 with
      | true =>
        rw [hb, if_pos rfl] at e
        have hq : lexone (at_ s m) = ⟨5, (strB r).2.1, 0, 1 + (strB r).2.2⟩ := by rw [hcons]; exact e
        rw [if_pos rfl, oneT_ok hlt hq]
      | false =>
        rw [hb, if_neg Bool.false_ne_true] at e
        have hq : lexone (at_ s m) = lbad 4 (1 + (strB r).2.2) := by rw [hcons]; exact e
        rw [if_neg Bool.false_ne_true, oneT_bad hlt (by decide) hq]
  · rw [if_neg h34]
    have hq : lexone (at_ s m) = lbad 2 0 := by rw [hcons]; exact lex_other h46 hp hL hn h34
    rw [oneT_bad hlt (by decide) hq, Int.natCast_zero, Int.add_zero]
end Go.Proofs.YtjgpmfjkcioinaaGreatDoor.G
