/-
  The law LexText: that what its printed text computes is true. Plain Lean.
-/
import Derived.Test.YtjgpmfjkcioinaaDoorPTX2
import Derived.Test.YtjgpmfjkcioinaaDoorPTLXX
import Derived.Test.YtjgpmfjkcioinaaDoorPTZ2
namespace Go.Proofs.YtjgpmfjkcioinaaDoor.G
open Go.RowKit Go.Proofs.YtjgpmfjkcioinaaDoor.X Go.Proofs.YtjgpmfjkcioinaaDoorW.PrintWords Go.Proofs.YtjgpmfjkcioinaaDoorW.PrintLast Go.Proofs.YtjgpmfjkcioinaaDoor.M
set_option linter.unusedVariables false
set_option linter.unusedSimpArgs false
theorem f_OneA {s : ByteArray} (h : s.size ≤ 1000000) (i : Int) : lex_OneA.f s i = some (oneT s i) := if_pos h
theorem f_QuoteA {s : ByteArray} (h : s.size ≤ 1000000) : quote_QuoteA.f s = some (ba (quo (by_ s)), mayp isv (by_ s)) := if_pos h
theorem f_May {s : ByteArray} (h : s.size ≤ 1000000) : utf_May.f s = some (mayp isc (by_ s)) := if_pos h
theorem mayv_range {l : List Int} (h : mayp isv l = true) : ∀ c ∈ l, 0 ≤ c ∧ c ≤ 255 := by
  obtain ⟨rs, h1, h2⟩ := mayp_runes h
  rw [h2]
  intro c hc
  obtain ⟨r, hr, hcr⟩ := List.mem_flatMap.1 hc
  exact enc_range (h1 r hr) c hcr
theorem it_len {e t : List Int} (h : It e t) : t.length ≤ 4 * e.length := by
  cases h with
  | esc e h h0 =>
    have hp := List.length_pos_iff.2 h0
    obtain ⟨r, _, h2, _⟩ := esc_some (l := e) (by rw [h]; omega)
    have := enc_len r
    rw [h2]; omega
  | plain r hr h1 h2 h3 h4 => omega
theorem str_len {b t : List Int} (h : Str b t) : t.length ≤ 4 * b.length := by
  induction h with
  | nil => exact Nat.le_refl _
  | cons hi _ ih =>
    have := it_len hi
    rw [List.length_append, List.length_append]; omega
theorem lexone_len {l : List Int} (h : (lexone l).e = 0) : (lexone l).t.length ≤ 4 * l.length := by
  cases l with
  | nil => cases h
  | cons c r =>
    have hl : (c :: r).length = r.length + 1 := rfl
    rw [lexone_cons] at h ⊢
    unfold lexc at h ⊢
    by_cases h46 : c = 46
    · rw [if_pos h46] at h ⊢
      by_cases hd : dots3 (c :: r) = true
      · rw [if_pos hd]; show ((c :: r).take 3).length ≤ _; rw [List.length_take]; omega
      · rw [if_neg hd] at h; cases h
    rw [if_neg h46] at h ⊢
    by_cases hp : isPun c = true
    · rw [if_pos hp]; show ((c :: r).take 1).length ≤ _; rw [List.length_take]; omega
    rw [if_neg hp] at h ⊢
    by_cases hL : isLet c = true
    · rw [if_pos hL]; show ((c :: r).take _).length ≤ _; rw [List.length_take]; omega
    rw [if_neg hL] at h ⊢
    by_cases hn : c = 45 ∨ isDig c = true
    · rw [if_pos hn] at h ⊢
      by_cases hq : (lNum (c :: r)).2.2 = true
      · rw [if_pos hq]; show ((c :: r).take _).length ≤ _; rw [List.length_take]; omega
      · rw [if_neg hq] at h; cases h
    rw [if_neg hn] at h ⊢
    by_cases h3 : three (c :: r) = true
    · rw [if_pos h3] at h ⊢
      by_cases hq : (rawB ((c :: r).drop 3)).1 = true
      · rw [if_pos hq]
        have h1 := foldL_length (rawB ((c :: r).drop 3)).2.1
        have h2 := raw_text_le ((c :: r).drop 3)
        rw [List.length_drop] at h2
        show (foldL (rawB ((c :: r).drop 3)).2.1).length ≤ _
        omega
      · rw [if_neg hq] at h; cases h
    rw [if_neg h3] at h ⊢
    by_cases h34 : c = 34
    · rw [if_pos h34] at h ⊢
      by_cases hq : (strB r).1 = true
      · rw [if_pos hq]
        obtain ⟨b, m, h1, h2, _⟩ := (strB_tells _ r (Nat.le_refl _)).1 hq
        have h4 := str_len h1
        have h5 := congrArg List.length h2
        rw [List.length_append, List.length_cons] at h5
        show (strB r).2.1.length ≤ _
        rw [hl]; omega
      · rw [if_neg hq] at h; cases h
    · rw [if_neg h34] at h; cases h
theorem oneT_in {s : ByteArray} {m : Nat} (h : m < s.size) : oneT s (m : Int) = if (lexone (at_ s m)).e = 0 then ((lexone (at_ s m)).k, ba (lexone (at_ s m)).t, (m : Int), (m : Int) + (lexone (at_ s m)).n, 0, (m : Int) + (lexone (at_ s m)).n) else (0, ⟨#[]⟩, 0, 0, (lexone (at_ s m)).e, (m : Int) + (lexone (at_ s m)).n) := if_neg (by omega)
theorem oneT_alone {s : ByteArray} {q : LOne} (h : lexone (by_ s) = q) (he : q.e = 0) (hn : q.n = s.size) : oneT s 0 = (q.k, ba q.t, 0, (s.size : Int), 0, (s.size : Int)) := by
  have hpos : 0 < s.size := by have := (one_step (l := by_ s) (by rw [h]; exact he)).1; rw [h] at this; omega
  have := oneT_in (s := s) (m := 0) hpos
  rw [Int.natCast_zero, at_zero, h, if_pos he, hn, Int.zero_add] at this
  exact this
theorem text_j1 (s : ByteArray) (m n : Nat) (q : LOne) (hs : s.size ≤ 600) (hm : m < s.size) (hq : lexone (at_ s m) = q) (he : q.e = 0) (hn0 : 0 < n) (hn : q.n = n) (hn1 : m + n ≤ s.size) (K : Nat) :
    copperplatelaw09_LexText.j1 (K + 1) s (m : Int) ((m : Int) + (n : Nat)) false q.k (ba q.t) (m : Int) ((m : Int) + (n : Nat)) = some true := by
  have hlen := at_length s m (by omega) (by omega)
  have ho := lexone_own (l := at_ s m) (by rw [hq]; exact he)
  have htl := lexone_len (l := at_ s m) (by rw [hq]; exact he)
  rw [hq] at ho htl
  rw [copperplatelaw09_LexText.j1, if_neg Bool.false_ne_true, if_pos (by omega), if_pos (by omega), if_pos (by omega)]
  rcases ho with ⟨hk, ht, hown⟩ | ⟨hk, hmay⟩
  · rw [if_neg hk]
    have e1 : s.extract ((m : Int)).toNat ((m : Int) + (n : Nat)).toNat = ba q.t := by
      rw [ht, hn, ← ext_ba, Int.toNat_natCast]
      congr 1
    have hsz : (ba q.t).size = n := by rw [ba_size, ht, List.length_take, hn]; omega
    have e2 : by_ (ba q.t) = (at_ s m).take q.n := by
      rw [ht]; exact by_ba (fun c hc => at_range s m c (List.mem_of_mem_take hc))
    have e3 := oneT_alone (s := ba q.t) (q := q) (by rw [e2]; exact hown) he (by rw [hsz, hn])
    rw [e1, if_pos rfl, f_OneA (by omega), Option.bind_some, e3]
    dsimp only
    rw [if_pos rfl, if_pos rfl, if_pos rfl, if_pos rfl]; rfl
  · rw [if_pos hk]
    have hby : by_ (ba q.t) = q.t := by_ba (mayv_range hmay)
    have hsz : (ba q.t).size ≤ 1000000 := by rw [ba_size]; omega
    have hQ : f_QuoteA (s := ba q.t) hsz = f_QuoteA hsz := rfl
    have hqe : quo q.t = 34 :: (qb q.t ++ [34]) := if_pos hmay
    have hqr : ∀ c ∈ quo q.t, 0 ≤ c ∧ c ≤ 255 := by
      have h1 := qb_may hmay [34]
      intro c hc
      have h2 : mayp isv (qb q.t ++ [34]) = true := by
        rw [mayv_low _ (fun d hd => by
          rcases List.mem_append.1 hd with hd | hd
          · exact qb_low hmay d hd
          · rw [List.mem_singleton.1 hd]; decide), h1]
        decide +kernel
      rw [hqe] at hc
      rcases List.mem_cons.1 hc with e | hc
      · rw [e]; decide
      · exact mayv_range h2 c hc
    have hql : (quo q.t).length ≤ 20000 := by
      have := (qb_len hmay).2
      rw [hqe, List.length_cons, List.length_append, List.length_cons, List.length_nil]; omega
    have e3 := oneT_alone (s := ba (quo q.t)) (q := ⟨5, q.t, 0, (quo q.t).length⟩) (by rw [by_ba hqr]; exact lexone_quo hmay) rfl (by rw [ba_size])
    rw [f_QuoteA hsz, Option.bind_some, hby]
    dsimp only
    rw [hmay, if_pos rfl, f_OneA (by rw [ba_size]; omega), Option.bind_some, e3]
    dsimp only
    rw [if_pos rfl, if_pos hk.symm, if_pos rfl, if_pos rfl]; rfl
theorem lexText_pure : copperplatelaw09_LexText.Pure := by
  intro a0 a1 _ _
  refine ⟨4, ?_⟩
  unfold copperplatelaw09_LexText.f
  rw [show copperplatelaw09_awakeA.f = some true from rfl, Option.bind_some, if_pos rfl, show (4 : Nat) = 2 + 1 + 1 from rfl]
  by_cases h0 : (a0.size : Int) > 600
  · rw [if_pos h0, copperplatelaw09_LexText.j0, if_pos rfl]
  rw [if_neg h0, f_May (by omega), Option.bind_some]
  cases hm0 : mayp isc (by_ a0) with
  | false => rw [Bool.not_false, copperplatelaw09_LexText.j0, if_pos rfl]
  | true =>
  rw [Bool.not_true, copperplatelaw09_LexText.j0, if_neg Bool.false_ne_true, f_OneA (by omega), Option.bind_some]
  have nilT : (((0 : Int) == 0) && (((⟨#[]⟩ : ByteArray).toList == ([] : List UInt8)) && (((0 : Int) == 0) && ((0 : Int) == 0)))) = true := by decide +kernel
  by_cases hin : a1 < 0 ∨ (a0.size : Int) ≤ a1
  · have e : oneT a0 a1 = (0, ⟨#[]⟩, 0, 0, 2, a1) := if_pos hin
    rw [e]
    dsimp only
    rw [if_neg (by decide), if_pos nilT]
    by_cases hn : a1 < 0
    · rw [if_pos hn]
    · rw [if_neg hn, if_pos (show a1 ≥ (a0.size : Int) by omega)]
  · obtain ⟨m, rfl⟩ : ∃ m : Nat, a1 = m := ⟨a1.toNat, by omega⟩
    have hlt : m < a0.size := by omega
    have e := oneT_in hlt
    have hlen := at_length a0 m (by omega) (by omega)
    have hle := lexone_le (at_ a0 m)
    obtain ⟨q, hq⟩ : ∃ q, lexone (at_ a0 m) = q := ⟨_, rfl⟩
    rw [hq] at e hle
    by_cases he : q.e = 0
    · have hst := one_step (l := at_ a0 m) (by rw [hq]; exact he)
      rw [hq] at hst
      rw [if_pos he] at e
      rw [e]
      dsimp only
      have hne : (((m : Int) + (q.n : Nat)) != ((m : Int) + (q.n : Nat))) = false := by simp
      rw [if_pos rfl, if_neg (by omega), if_neg (by omega), if_neg (by omega), if_pos rfl, hne]
      exact text_j1 a0 m q.n q (by omega) hlt hq he hst.1 rfl (by omega) 2
    · rw [if_neg he] at e
      rw [e]
      dsimp only
      rw [if_neg he, if_pos nilT, if_neg (by omega), if_neg (by omega), if_pos (by omega), decide_eq_true (by omega)]
end Go.Proofs.YtjgpmfjkcioinaaDoor.G
