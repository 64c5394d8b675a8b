/-
  'lex.One': what it answers.
-/
import Derived.Test.YtjgpmfjkcioinaaDoorPTLX1
import Derived.Test.YtjgpmfjkcioinaaDoorPTZ2
import Derived.Test.YtjgpmfjkcioinaaDoorPTG9
import Derived.Lib.IndexAny
namespace Go.Proofs.YtjgpmfjkcioinaaDoor.G
open Go.RowKit Go.Proofs.YtjgpmfjkcioinaaDoorW.PrintWords Go.Proofs.YtjgpmfjkcioinaaDoor.M
set_option linter.unusedVariables false
set_option linter.unusedSimpArgs false
def loneV (q : LOne) (i : Int) : Value := if q.e = 0 then .tuple #[tkV q.k (ba q.t) i (i + q.n), .int .i64 0, .int .i64 (i + q.n)] else .tuple #[tkV 0 ⟨#[]⟩ 0 0, .int .i64 q.e, .int .i64 (i + q.n)]
def oneV (s : ByteArray) (i : Int) : Value := if i < 0 ∨ (s.size : Int) ≤ i then .tuple #[tkV 0 ⟨#[]⟩ 0 0, .int .i64 2, .int .i64 i] else loneV (lexone (at_ s i)) i
theorem ext_ba (s : ByteArray) (i n : Nat) : s.extract i (i + n) = ba ((at_ s (i : Int)).take n) := by
  apply by_inj
  rw [by_extract, List.drop_take, Nat.add_sub_cancel_left]
  have hr : ∀ c ∈ (at_ s (i : Int)).take n, 0 ≤ c ∧ c ≤ 255 := fun c hc => at_range s i c (List.mem_of_mem_take hc)
  rw [by_ba hr]
  unfold at_
  rw [Int.toNat_natCast]
theorem loneV_ok {q : LOne} {k : Int} {t : List Int} {n : Nat} (h : q = ⟨k, t, 0, n⟩) (i : Int) : loneV q i = .tuple #[tkV k (ba t) i (i + n), .int .i64 0, .int .i64 (i + n)] := by
  subst h; exact if_pos rfl
theorem loneV_bad {q : LOne} {e : Int} {n : Nat} (h : q = lbad e n) (he : e ≠ 0) (i : Int) : loneV q i = .tuple #[tkV 0 ⟨#[]⟩ 0 0, .int .i64 e, .int .i64 (i + n)] := by
  subst h; exact if_neg he
theorem pun_idx (c : Int) (h0 : 0 ≤ c) (h1 : c ≤ 255) : decide (0 ≤ Lib.indexByte [33, 36, 38, 40, 41, 58, 61, 64, 91, 93, 123, 124, 125] c.toNat.toUInt8) = isPun c := by
  have key : ∀ n : Fin 256, decide (0 ≤ Lib.indexByte [33, 36, 38, 40, 41, 58, 61, 64, 91, 93, 123, 124, 125] n.val.toUInt8) = isPun (n.val : Int) := by decide +kernel
  have := key ⟨c.toNat, by omega⟩
  rw [show ((⟨c.toNat, by omega⟩ : Fin 256).val : Int) = c by show ((c.toNat : Nat) : Int) = c; omega] at this
  exact this
theorem tok_st (w : World) (s : ByteArray) (i n : Nat) (k : Int) (t : ByteArray) (E : Int) (hE : E = (i : Int) + n) (h2 : i + n ≤ s.size) (h3 : s.size ≤ 1000000) (ht : s.extract i (i + n) = t) :
    Hid (∀ W : World, OSt w W s i → Calls Tryd.prog 28 #[.int .i64 k, .int .i64 E, .pointer (some ⟨w.heap.size, 0, none⟩), .pointer (some ⟨w.heap.size + 1, 0, none⟩)] W fun r w' => r = .returned (.tuple #[.agg #[.int .i64 k, .string t, .int .i64 (i : Int), .int .i64 E], .int .i64 0, .int .i64 E]) ∧ Below W.heap.size W w') := Lib.hid fun W H => by
  have hb := H.big
  have h := tok_tok s k i (i + n) w.heap.size (w.heap.size + 1) W (by omega) (by omega) (cell_of_one H.hs) (cell_of_one H.hi) (by omega) h2 h3
  rw [ht, show ((i + n : Nat) : Int) = E by omega] at h
  exact h
theorem val_st (w : World) (s : ByteArray) (i : Nat) (v : ByteArray) (E : Int) :
    Hid (∀ W : World, OSt w W s i → Calls Tryd.prog 29 #[.string v, .int .i64 E, .pointer (some ⟨w.heap.size + 1, 0, none⟩)] W fun r w' => r = .returned (.tuple #[.agg #[.int .i64 5, .string v, .int .i64 (i : Int), .int .i64 E], .int .i64 0, .int .i64 E]) ∧ Below W.heap.size W w') := Lib.hid fun W H => by
  have hb := H.big
  exact value_tok v i E (w.heap.size + 1) W (by omega) (cell_of_one H.hi)
set_option maxHeartbeats 1600000 in
theorem one_any (s : ByteArray) (i : Int) (w : World) (hs : s.size ≤ 1000000) (hT : TE w) :
    Calls Tryd.prog 13 #[.string s, .int .i64 i] w fun r w' => r = .returned (oneV s i) ∧ Below w.heap.size w w' := by
  by_cases hi0 : i < 0
  · have e : oneV s i = .tuple #[tkV 0 ⟨#[]⟩ 0 0, .int .i64 2, .int .i64 i] := if_pos (.inl hi0)
    rw [e]; exact one_neg s i w hs hi0
  by_cases hi1 : (s.size : Int) ≤ i
  · have e : oneV s i = .tuple #[tkV 0 ⟨#[]⟩ 0 0, .int .i64 2, .int .i64 i] := if_pos (.inr hi1)
    rw [e]; exact one_end s i w hs hi0 hi1
  obtain ⟨i, rfl⟩ : ∃ n : Nat, i = n := ⟨i.toNat, by omega⟩
  have hlt : i < s.size := by omega
  have eV : oneV s i = loneV (lexone (at_ s i)) i := if_neg (by omega)
  rw [eV]
  have hat : ∀ h : i < s.size, (((s[i]'h).toNat : Nat) : Int) = bt s (i : Int) := fun h => bt_at s i h
  have hcons := at_cons s i (by omega) (by omega)
  have hr := at_range s i (bt s i) (by rw [hcons]; simp)
  have hlen := at_length s i (by omega) (by omega)
  have hI := fun (W : World) => Tryd.strings_IndexByte ⟨#[33, 36, 38, 40, 41, 58, 61, 64, 91, 93, 123, 124, 125]⟩ (bt s i) W
  have hpi := pun_idx (bt s i) hr.1 hr.2
  have hB := fun (W : World) => begins_any (bt s i) W hr.1 hr.2
  have hPd := fun (W : World) => Tryd.strings_HasPrefix (s.extract i s.size) ⟨#[46, 46, 46]⟩ W
  have hPq := fun (W : World) => Tryd.strings_HasPrefix (s.extract i s.size) ⟨#[34, 34, 34]⟩ W
  have ed : Lib.hasPrefix (s.extract i s.size).data.toList (⟨#[46, 46, 46]⟩ : ByteArray).data.toList = dots3 (at_ s i) := by rw [prefix_of, by_ext]; rfl
  rw [prefix_three] at hPq
  rw [ed] at hPd
  obtain ⟨l, hl⟩ : ∃ l, at_ s (i : Int) = l := ⟨_, rfl⟩
  obtain ⟨c, hc⟩ : ∃ c, bt s (i : Int) = c := ⟨_, rfl⟩
  obtain ⟨r, hrr⟩ : ∃ r, at_ s ((i : Int) + 1) = r := ⟨_, rfl⟩
  obtain ⟨k0, hk0⟩ : ∃ k, Lib.indexByte (⟨#[33, 36, 38, 40, 41, 58, 61, 64, 91, 93, 123, 124, 125]⟩ : ByteArray).data.toList c.toNat.toUInt8 = k := ⟨_, rfl⟩
  have hpi2 : decide (0 ≤ k0) = isPun c := by rw [← hk0, ← hc]; exact hpi
  rw [hl] at hlen hcons
  rw [hc, hrr] at hcons
  rw [hc] at hr
  simp only [hc, hk0] at hI hB hat
  rw [hl] at hPd hPq
  rw [hl]
  have hll : l.length = s.size - i := by omega
  by_cases h46 : c = 46
  · subst h46
    by_cases hd : dots3 l = true
    · have e : lexone l = ⟨1, l.take 3, 0, 3⟩ := by rw [hcons] at hd ⊢; rw [lexone_cons]; unfold lexc; rw [if_pos rfl, if_pos hd]
      have h3 : i + 3 ≤ s.size := by
        have := of_decide_eq_true hd
        have h4 := congrArg List.length this
        rw [List.length_take] at h4; simp at h4; omega
      rw [hd] at hPd
      rw [loneV_ok e, ← hl, ← ext_ba]
      exact one_dots s i w hs hlt hat hPd h3 (tok_st w s i 3 1 _ _ rfl h3 hs rfl)
    · rw [Bool.not_eq_true] at hd
      have e : lexone l = lbad 2 0 := by rw [hcons] at hd ⊢; rw [lexone_cons]; unfold lexc; rw [if_pos rfl, if_neg (by rw [hd]; decide)]
      rw [hd] at hPd
      rw [loneV_bad e (by decide), Int.natCast_zero, Int.add_zero]
      exact one_dot s i w hs hlt hat hPd
  have u46 : (c == 46) = false := beq_eq_false_iff_ne.2 h46
  by_cases hp : isPun c = true
  · have e : lexone l = ⟨1, l.take 1, 0, 1⟩ := by rw [hcons]; rw [lexone_cons]; unfold lexc; rw [if_neg h46, if_pos hp]
    rw [hp] at hpi2
    rw [loneV_ok e, ← hl, ← ext_ba]
    exact one_pun s i w hs c u46 k0 hlt hat hI hpi2 (tok_st w s i 1 1 _ _ rfl (by omega) hs rfl)
  rw [Bool.not_eq_true] at hp
  rw [hp] at hpi2
  by_cases hL : isLet c = true
  · have e : lexone l = ⟨2, l.take (name l), 0, name l⟩ := by
      have e2 : lexone (c :: r) = ⟨2, (c :: r).take (name (c :: r)), 0, name (c :: r)⟩ := by rw [lexone_cons]; unfold lexc; rw [if_neg h46, if_neg (by rw [hp]; decide), if_pos hL]
      rw [hcons]; exact e2
    have hnl := lname_le l
    have hN : nameEnd s i = (i : Int) + (name l : Nat) := by unfold nameEnd; rw [if_pos ⟨by omega, by omega⟩, hl]
    rw [hL] at hB
    rw [loneV_ok e, ← hl, ← ext_ba, hl]
    have hNm := Lib.hid (fun (W : World) (H : OSt w W s i) => name_any s i W (by omega))
    rw [hN] at hNm
    exact one_name s i w hs c u46 k0 hlt hat hI hpi2 hB _ _ hNm (tok_st w s i (name l) 2 _ _ rfl (by omega) hs rfl)
  rw [Bool.not_eq_true] at hL
  rw [hL] at hB
  by_cases hnum : c = 45 ∨ isDig c = true
  · have hnb := short_num l
    have hNN : number s i = ((lNum l).1, (i : Int) + ((lNum l).2.1 : Nat), (lNum l).2.2) := by rw [number_list s i (by omega) (by omega), hl]; rfl
    have hNm := Lib.hid (fun (W : World) (H : OSt w W s i) => number_st W W s i hs (Below.refl _ _))
    rw [hNN] at hNm
    have e : lexone l = if (lNum l).2.2 = true then ⟨(lNum l).1, l.take (lNum l).2.1, 0, (lNum l).2.1⟩ else lbad 3 (lNum l).2.1 := by
      have e2 : lexone (c :: r) = if (lNum (c :: r)).2.2 = true then ⟨(lNum (c :: r)).1, (c :: r).take (lNum (c :: r)).2.1, 0, (lNum (c :: r)).2.1⟩ else lbad 3 (lNum (c :: r)).2.1 := by rw [lexone_cons]; unfold lexc; rw [if_neg h46, if_neg (by rw [hp]; decide), if_neg (by rw [hL]; decide), if_pos hnum]
      rw [hcons]; exact e2
    obtain ⟨k, n, b, hq⟩ : ∃ k n b, lNum l = (k, n, b) := ⟨_, _, _, rfl⟩
    rw [hq] at hNm e hnb
    cases b with
    | true =>
      rw [if_pos rfl] at e
      rw [loneV_ok e, ← hl, ← ext_ba]
      by_cases h45 : c = 45
      · subst h45; exact one_num_ym s i w hs k0 hlt hat hI hpi2 hB k _ hNm _ (tok_st w s i n k _ _ rfl (by have : n ≤ l.length := hnb; omega) hs rfl)
      · have hdg : isDig c = true := hnum.resolve_left h45
        have hd2 : 48 ≤ c ∧ c ≤ 57 := of_decide_eq_true hdg
        exact one_num_yd s i w hs c u46 k0 (beq_eq_false_iff_ne.2 h45) (decide_eq_true hd2.1) (decide_eq_true hd2.2) hlt hat hI hpi2 hB k _ hNm _ (tok_st w s i n k _ _ rfl (by have : n ≤ l.length := hnb; omega) hs rfl)
    | false =>
      rw [if_neg (show ¬ (false = true) by decide)] at e
      rw [loneV_bad e (by decide)]
      by_cases h45 : c = 45
      · subst h45; exact one_num_nm s i w hs k0 hlt hat hI hpi2 hB k _ hNm
      · have hdg : isDig c = true := hnum.resolve_left h45
        have hd2 : 48 ≤ c ∧ c ≤ 57 := of_decide_eq_true hdg
        exact one_num_nd s i w hs c u46 k0 (beq_eq_false_iff_ne.2 h45) (decide_eq_true hd2.1) (decide_eq_true hd2.2) hlt hat hI hpi2 hB k _ hNm
  have h45 : c ≠ 45 := fun q => hnum (.inl q)
  have u45 : (c == 45) = false := beq_eq_false_iff_ne.2 h45
  have hdg : ¬ (48 ≤ c ∧ c ≤ 57) := fun q => hnum (.inr (decide_eq_true q))
  have hd3 : at_ s ((i : Int) + 3) = l.drop 3 := by rw [← hl]; exact at_add s i 3 (by omega)
  by_cases h3 : three l = true
  · obtain ⟨m, hm⟩ := three_iff.1 h3
    have h34 : c = 34 := by rw [hcons] at hm; injection hm
    subst h34
    rw [h3] at hPq
    have hR : rawAt s i = ((rawB (l.drop 3)).1, (rawB (l.drop 3)).2.1, (i : Int) + 3 + (rawB (l.drop 3)).2.2) := by
      unfold rawAt
      rw [hl, hd3, if_neg (by rw [h3]; simp)]
    have hRw := Lib.hid (fun (W : World) (H : OSt w W s i) => Raw_any s i W hs)
    unfold rawE at hRw
    rw [hR] at hRw
    have htl := raw_text_le (l.drop 3)
    rw [List.length_drop] at htl
    have e : lexone l = if (rawB (l.drop 3)).1 = true then ⟨5, foldL (rawB (l.drop 3)).2.1, 0, 3 + (rawB (l.drop 3)).2.2⟩ else lbad 4 (3 + (rawB (l.drop 3)).2.2) := by
      have h3' := h3
      rw [hcons] at h3'
      have e2 : lexone (34 :: r) = if (rawB ((34 :: r).drop 3)).1 = true then ⟨5, foldL (rawB ((34 :: r).drop 3)).2.1, 0, 3 + (rawB ((34 :: r).drop 3)).2.2⟩ else lbad 4 (3 + (rawB ((34 :: r).drop 3)).2.2) := by rw [lexone_cons]; unfold lexc; rw [if_neg (by decide), if_neg (by decide), if_neg (by decide), if_neg (by decide), if_pos h3']
      rw [hcons]; exact e2
    have hrng : ∀ c ∈ (rawB (l.drop 3)).2.1, 0 ≤ c ∧ c ≤ 255 := raw_text_all (P := fun c => 0 ≤ c ∧ c ≤ 255) (by decide) _ (fun c hc => by rw [← hl] at hc; exact at_range s i c (List.mem_of_mem_drop hc))
    obtain ⟨b, t, n, hq⟩ : ∃ b t n, rawB (l.drop 3) = (b, t, n) := ⟨_, _, _, rfl⟩
    rw [hq] at hRw e htl hrng
    have en : (i : Int) + 3 + (n : Nat) = (i : Int) + ((3 + n : Nat) : Int) := by omega
    rw [en] at hRw
    cases b with
    | true =>
      rw [if_pos rfl] at e
      rw [loneV_ok e]
      have hts : (ba t).size ≤ 1000000 := by rw [ba_size]; have : t.length ≤ l.length - 3 := htl; omega
      have hF := Lib.hid (fun (W : World) (H : OSt w W s i) => Fold_any (ba t) W hts)
      rw [by_ba hrng] at hF
      exact one_raw_y s i w hs k0 hlt hat hI hpi2 hB _ _ hPq hRw _ hF (val_st w s i _ _)
    | false =>
      rw [if_neg (show ¬ (false = true) by decide)] at e
      rw [loneV_bad e (by decide)]
      exact one_raw_n s i w hs k0 hlt hat hI hpi2 hB _ _ hPq hRw
  rw [Bool.not_eq_true] at h3
  rw [h3] at hPq
  by_cases h34 : c = 34
  · subst h34
    have hq34 : hasB s i 34 = true := decide_eq_true ⟨by omega, by omega, hc⟩
    have hS := Lib.hid (fun (W : World) (H : OSt w W s i) => String_any s i W hs (hT.low H.below))
    have hS2 : strAt s i = ((strB r).1, (strB r).2.1, (i : Int) + 1 + (strB r).2.2) := by unfold strAt; rw [if_pos hq34, hrr]
    unfold StT StI StB at hS
    rw [hS2] at hS
    have e : lexone l = if (strB r).1 = true then ⟨5, (strB r).2.1, 0, 1 + (strB r).2.2⟩ else lbad 4 (1 + (strB r).2.2) := by
      have h3' := h3
      rw [hcons] at h3' ⊢
      rw [lexone_cons]; unfold lexc; rw [if_neg (by decide), if_neg (by decide), if_neg (by decide), if_neg (by decide), if_neg (by rw [h3']; decide), if_pos rfl]
    obtain ⟨b, t, n, hq⟩ : ∃ b t n, strB r = (b, t, n) := ⟨_, _, _, rfl⟩
    rw [hq] at hS e
    have en : (i : Int) + 1 + (n : Nat) = (i : Int) + ((1 + n : Nat) : Int) := by omega
    rw [en] at hS
    cases b with
    | true =>
      rw [if_pos rfl] at e
      rw [loneV_ok e]
      exact one_str_y s i w hs k0 hlt hat hI hpi2 hB _ _ hPq hS (val_st w s i _ _)
    | false =>
      rw [if_neg (show ¬ (false = true) by decide)] at e
      rw [loneV_bad e (by decide)]
      exact one_str_n s i w hs k0 hlt hat hI hpi2 hB _ _ hPq hS
  have u34 : (c == 34) = false := beq_eq_false_iff_ne.2 h34
  have e : lexone l = lbad 2 0 := by
    have h3' := h3
    rw [hcons] at h3' ⊢
    rw [lexone_cons]; unfold lexc; rw [if_neg h46, if_neg (by rw [hp]; decide), if_neg (by rw [hL]; decide), if_neg hnum, if_neg (by rw [h3']; decide), if_neg h34]
  rw [loneV_bad e (by decide), Int.natCast_zero, Int.add_zero]
  by_cases g1 : 48 ≤ c
  · exact one_else_h s i w hs c u46 k0 u45 u34 (decide_eq_true g1) (decide_eq_false (fun q => hdg ⟨g1, q⟩)) hlt hat hI hpi2 hB hPq
  · exact one_else_l s i w hs c u46 k0 u45 u34 (decide_eq_false g1) hlt hat hI hpi2 hB hPq
end Go.Proofs.YtjgpmfjkcioinaaDoor.G
