/-
  fold: 'Raw'.
-/
import Derived.Test.YtjgpmfjkcioinaaDoorPTF8
import Derived.Test.YtjgpmfjkcioinaaDoorPTZ2
import Derived.Test.YtjgpmfjkcioinaaDoorPTKE
namespace Go.Proofs.YtjgpmfjkcioinaaDoor.G
open Go.RowKit Go.Shelf Go.Proofs.YtjgpmfjkcioinaaDoorW.PrintWords Go.Proofs.YtjgpmfjkcioinaaDoor.M
set_option linter.unusedVariables false
set_option linter.unusedSimpArgs false
attribute [local irreducible] Utf8.encode Utf8.decode
theorem prefix_of (t : ByteArray) (p : List UInt8) : Lib.hasPrefix t.data.toList p = decide ((by_ t).take p.length = p.map fun b => (b.toNat : Int)) := by
  unfold Lib.hasPrefix by_
  rw [Bool.eq_iff_iff, decide_eq_true_eq, List.isPrefixOf_iff_prefix, List.prefix_iff_eq_take, ← List.map_take]
  constructor
  · intro h; rw [← h]
  · intro h
    exact (map_inj (f := fun b : UInt8 => (b.toNat : Int)) (fun x y e => UInt8.toNat_inj.1 (by omega)) _ _ h).symm
theorem by_ext (s : ByteArray) (m : Nat) : by_ (s.extract m s.size) = at_ s m := by
  rw [by_extract, List.take_of_length_le (by rw [by_length]; exact Nat.le_refl _)]; rfl
theorem prefix_three (s : ByteArray) (m : Nat) : Lib.hasPrefix (s.extract m s.size).data.toList (⟨#[34, 34, 34]⟩ : ByteArray).data.toList = three (at_ s m) := by
  rw [prefix_of, by_ext]; rfl
theorem prefix_thre4 (s : ByteArray) (m : Nat) : Lib.hasPrefix (s.extract m s.size).data.toList (⟨#[92, 34, 34, 34]⟩ : ByteArray).data.toList = thre4 (at_ s m) := by
  rw [prefix_of, by_ext]; rfl
theorem radd_radd (n k : Nat) (t x : List Int) (q : Bool × List Int × Nat) : radd n t (radd k x q) = radd (n + k) (t ++ x) q := by
  unfold radd
  by_cases h : q.1 = true
  · rw [if_pos h, if_pos rfl, if_pos h]; simp [Nat.add_assoc]
  · rw [if_neg h, if_neg (show ¬ (false = true) by decide), if_neg h]; simp [Nat.add_assoc]
theorem radd_zero (q : Bool × List Int × Nat) (h : q.1 = false → q.2.1 = []) : radd 0 [] q = q := by
  obtain ⟨b, t, n⟩ := q
  unfold radd
  cases b with
  | true => simp
  | false => have h2 : t = [] := h rfl; subst h2; simp
def rawE (s : ByteArray) (i : Int) : Ending := .returned (.tuple #[.string (ba (rawAt s i).2.1), .int .i64 (rawAt s i).2.2, .bool (rawAt s i).1])
theorem rawE_no {s : ByteArray} {i : Int} (h : i < 0 ∨ three (at_ s i) = false) : rawE s i = .returned (.tuple #[.string ⟨#[]⟩, .int .i64 i, .bool false]) := by
  unfold rawE rawAt; rw [if_pos h]; rfl
theorem rawE_yes {s : ByteArray} {n : Nat} (h : three (at_ s n) = true) {k : Nat} {t : List Int} {q : Bool × List Int × Nat} (hq : rawB (at_ s ((n : Int) + 3)) = radd k t q) {b : Bool} {x : ByteArray} {j : Int} (h1 : q.1 = b)
    (h2 : b = true → x = ba (t ++ q.2.1)) (h3 : b = false → x = ⟨#[]⟩) (h4 : j = (n : Int) + 3 + k + q.2.2) : rawE s n = .returned (.tuple #[.string x, .int .i64 j, .bool b]) := by
  unfold rawE rawAt
  rw [if_neg (by rw [h]; simp), hq]
  unfold radd
  cases b with
  | true =>
    rw [if_pos h1, h2 rfl, h4]
    show Ending.returned (.tuple #[.string (ba (t ++ q.2.1)), .int .i64 ((n : Int) + 3 + ((k + q.2.2 : Nat) : Int)), .bool true]) = _
    rw [show (n : Int) + 3 + ((k + q.2.2 : Nat) : Int) = (n : Int) + 3 + k + q.2.2 by omega]
  | false =>
    rw [if_neg (by rw [h1]; decide), h3 rfl, h4]
    show Ending.returned (.tuple #[.string (ba []), .int .i64 ((n : Int) + 3 + ((k + q.2.2 : Nat) : Int)), .bool false]) = _
    rw [show (n : Int) + 3 + ((k + q.2.2 : Nat) : Int) = (n : Int) + 3 + k + q.2.2 by omega]
    rfl
set_option maxHeartbeats 800000 in
theorem raw_no (s : ByteArray) (i : Int) (w : World) (hs : s.size ≤ 1000000) (h : i < 0 ∨ three (at_ s i) = false) :
    Calls Tryd.prog 32 #[.string s, .int .i64 i] w fun e w' => e = .returned (.tuple #[.string ⟨#[]⟩, .int .i64 i, .bool false]) ∧ Below w.heap.size w w' := by
  by_cases h0 : i < 0
  · go_enter Tryd.func32, Tryd.ntmps32
    go_wp2
    go_ret3
    exact ⟨rfl, Below.refl _ _⟩
  · by_cases h1 : (s.size : Int) ≤ i
    · go_enter Tryd.func32, Tryd.ntmps32
      go_wp2
      go_ret3
      exact ⟨rfl, Below.refl _ _⟩
    · obtain ⟨n, rfl⟩ : ∃ n : Nat, i = n := ⟨i.toNat, by omega⟩
      have h2 : three (at_ s n) = false := h.resolve_left h0
      have hP := fun (W : World) => Tryd.strings_HasPrefix (s.extract n s.size) ⟨#[34, 34, 34]⟩ W
      have hp := prefix_three s n
      rw [hp, h2] at hP
      have hn : n < s.size := by omega
      clear h h0 h1 h2 hp
      go_enter Tryd.func32, Tryd.ntmps32
      go_wp2_with (go_at_call 26; refine (hP _).mono ?_; rintro e w' ⟨rfl, hw⟩; rw [hw]; clear hw w')
      go_ret3
      exact ⟨rfl, Below.refl _ _⟩
structure RV (s : ByteArray) (n b : Nat) (w : World) (m : Nat) (S : ByteArray) (wr : World) : Prop where
  bl : Lib.IsBuilderF 60 5 b b (Lib.strCells S) wr
  lo : Below b w wr
  lt : b < wr.heap.size
  le : m ≤ s.size
  eq : rawB (at_ s ((n : Int) + 3)) = radd (m - (n + 3)) (by_ S) (rawB (at_ s m))
  ge : n + 3 ≤ m
  sz : S.size ≤ m
theorem isb_below {T e : TypeId} {B b : Nat} {bs : List Value} {w w' : World} (h : Lib.IsBuilderF T e B b bs w) (hb : Below w.heap.size w w') : Lib.IsBuilderF T e B b bs w' := h.elim (fun x => .inl (bld_below x hb)) (fun x => .inr (bld_below x hb))
theorem RV.next {s : ByteArray} {n b : Nat} {w : World} {m : Nat} {S : ByteArray} {wr : World} (h : RV s n b w m S wr) {K : Nat} {X : ByteArray} {W2 W3 : World} (hr : rawB (at_ s m) = radd K (by_ X) (rawB (at_ s ((m + K : Nat) : Int)))) (hK : m + K ≤ s.size) (hX : X.size ≤ K)
    (hw : Below wr.heap.size wr W2) (a1 : Lib.BuilderAtF 60 5 b b (.pointer (some ⟨b, 0, none⟩)) (Lib.strCells S ++ Lib.strCells X) W3) (a2 : Below b W2 W3) : RV s n b w (m + K) (S ++ X) W3 := by
  have hge := h.ge
  have hlo := h.lo.trans ((hw.mono (by have := h.lt; omega)).trans a2)
  refine ⟨.inr (by rw [strCells_app]; exact a1), hlo, a1.lt, hK, ?_, by omega, ?_⟩
  · rw [h.eq, hr, radd_radd, by_append]; congr 1; omega
  · have := h.sz; rw [ByteArray.size_append]; omega
set_option maxHeartbeats 4000000 in
set_option maxRecDepth 1000000 in
theorem raw_yes (s : ByteArray) (n : Nat) (w : World) (hs : s.size ≤ 1000000) (hq : three (at_ s n) = true) :
    Calls Tryd.prog 32 #[.string s, .int .i64 n] w fun e w' => e = rawE s n ∧ Below w.heap.size w w' := by
  have hn3 : n + 3 ≤ s.size := by
    obtain ⟨l, hl⟩ := three_iff.1 hq
    have h1 : (at_ s n).length = l.length + 3 := by rw [hl]; simp
    unfold at_ at h1
    rw [List.length_drop, by_length] at h1
    omega
  have hP0 := fun (W : World) => Tryd.strings_HasPrefix (s.extract n s.size) ⟨#[34, 34, 34]⟩ W
  rw [prefix_three s n, hq] at hP0
  have HQ := Lib.hid hq
  obtain ⟨E, hE⟩ : ∃ E, rawE s n = E := ⟨_, rfl⟩
  rw [hE]
  have HE := Lib.hid hE
  have hd1 : decide ((n : Int) < 0) = false := decide_eq_false (by omega)
  have hd2 : decide (s.size ≤ n) = false := decide_eq_false (by omega)
  clear hE hq
  go_enter Tryd.func32, Tryd.ntmps32
  go_wp2_with (go_at_call 26; refine (hP0 _).mono ?_; rintro e w' ⟨rfl, hw⟩; rw [hw]; clear hw w')
  obtain ⟨b, hb⟩ : ∃ b, w.heap.size = b := ⟨_, rfl⟩
  have isb0 := Lib.IsBuilderF.of (Lib.fresh_isBuilder 60 5 w)
  have lo0 : Below b w (w.alloc (.cells #[.pointer none, .slice none 0 0] 60)) := by rw [← hb]; exact (Below.refl _ w).alloc (Nat.le_refl _) _
  have lt0 : b < (w.alloc (.cells #[.pointer none, .slice none 0 0] 60)).heap.size := by simp; omega
  rw [hb] at isb0
  rw [hb]
  clear hP0
  go_loopw [8] (fun i wr => ∃ m S, i = .int .i64 ((m : Nat) : Int) ∧ RV s n b w m S wr) (fun i _ => s.size + 1 - (intOf i).toNat)
  case atStart =>
    refine ⟨n + 3, ⟨#[]⟩, rfl, isb0, lo0, lt0, hn3, ?_, Nat.le_refl _, Nat.zero_le _⟩
    rw [Nat.sub_self]
    exact (radd_zero _ fun h => (rawB_false _ h).1).symm
  case round =>
    obtain ⟨m, S, rfl, rv⟩ := hrel
    have hle := rv.le
    have hP := fun (W : World) => Tryd.strings_HasPrefix (s.extract m s.size) ⟨#[34, 34, 34]⟩ W
    have hP4 := fun (W : World) => Tryd.strings_HasPrefix (s.extract m s.size) ⟨#[92, 34, 34, 34]⟩ W
    rw [prefix_three s m] at hP
    rw [prefix_thre4 s m] at hP4
    have hbw : b ≤ wr.heap.size := by have := rv.lt; omega
    have RVH := Lib.hid rv
    have hlo := rv.lo
    have hsz := rv.sz
    have hge := rv.ge
    cases h3 : three (at_ s m) with
    | true =>
      rw [h3] at hP
      have hres := rawE_yes HQ.out rv.eq (b := true) (x := S) (j := (m : Int) + 3) (by rw [rawB_end h3]) (fun _ => by rw [rawB_end h3]; show S = ba (by_ S ++ []); rw [List.append_nil, ba_by]) (fun h => by cases h) (by rw [rawB_end h3]; show (m : Int) + 3 = (n : Int) + 3 + ((m - (n + 3) : Nat) : Int) + ((3 : Nat) : Int); omega)
      rw [HE.out] at hres
      have HR := Lib.hid hres
      have hBS := bstr b b S wr rv.bl hbw
      clear h3 hres hP4 rv
      go_wp2_with (first
        | (go_at_call 26; refine (hP _).mono ?_; rintro e w' ⟨rfl, hw⟩; rw [hw]; clear hw w')
        | (go_at_call 39; refine hBS.mono ?_; rintro e W4 ⟨rfl, a5⟩))
      go_ret3
      exact ⟨HR.out.symm, by rw [hb]; exact hlo.trans a5⟩
    | false =>
      rw [h3] at hP
      cases h4 : thre4 (at_ s m) with
      | true =>
        rw [h4] at hP4
        have hr := rawB_esc h4
        obtain ⟨l, hl⟩ := thre4_iff.1 h4
        have hm4 : m + 4 ≤ s.size := by
          have h1 : (at_ s m).length = l.length + 4 := by rw [hl]; simp
          unfold at_ at h1
          rw [List.length_drop, by_length] at h1
          omega
        have hat : (at_ s m).drop 4 = at_ s ((m + 4 : Nat) : Int) := by rw [← at_add s m 4 (by omega)]; rfl
        rw [hat] at hr
        have hbl := rv.bl
        have HR := Lib.hid (show rawB (at_ s m) = radd 4 (by_ ⟨#[34, 34, 34]⟩) (rawB (at_ s ((m + 4 : Nat) : Int))) from hr)
        have hWs := wstr b b (Lib.strCells S) ⟨#[34, 34, 34]⟩ wr hbl (by rw [Lib.strCells_length]; show S.size + 3 ≤ _; omega) hbw
        clear h3 h4 hr hl hat rv hbl
        go_wp2_with (first
          | (go_at_call 26; first | (refine (hP _).mono ?_; rintro e w' ⟨rfl, hw⟩; rw [hw]; clear hw w') | (refine (hP4 _).mono ?_; rintro e w' ⟨rfl, hw⟩; rw [hw]; clear hw w'))
          | (go_at_call 37; refine hWs.mono ?_; rintro e W3 ⟨rfl, a2, a3, a4⟩))
        have F := RVH.out.next HR.out hm4 (by decide) (Below.refl _ _) a2 a3
        go_roundw
        case rel => first | exact ⟨m + 4, _, by go_num, F⟩ | ((repeat apply Exists.intro); exact ⟨⟨m + 4, _, by go_num, F⟩, rfl⟩)
        case measure => simp [intOf]; omega
      | false =>
        rw [h4] at hP4
        have hnx := fun (W : World) => next_any s m W (by omega)
        have e2 : nxn s m = ((nxp isc (at_ s m)).2 : Int) := by unfold nxn; rw [if_neg (by omega)]
        obtain ⟨R, hR⟩ : ∃ R, nxr s m = R := ⟨_, rfl⟩
        rw [hR, e2] at hnx
        by_cases hz : (nxp isc (at_ s m)).2 = 0
        · rw [hz] at hnx
          have hres := rawE_yes HQ.out rv.eq (b := false) (x := ⟨#[]⟩) (j := (m : Int)) (by rw [rawB_no h3 h4 hz]) (fun h => by cases h) (fun _ => rfl) (by rw [rawB_no h3 h4 hz]; show (m : Int) = (n : Int) + 3 + ((m - (n + 3) : Nat) : Int) + ((0 : Nat) : Int); omega)
          rw [HE.out] at hres
          have HR := Lib.hid hres
          clear h3 h4 hres hz hR e2 rv
          go_wp2_with (first
            | (go_at_call 26; first | (refine (hP _).mono ?_; rintro e w' ⟨rfl, hw⟩; rw [hw]; clear hw w') | (refine (hP4 _).mono ?_; rintro e w' ⟨rfl, hw⟩; rw [hw]; clear hw w'))
            | (go_at_call 59; refine (hnx _).mono ?_; rintro e W2 ⟨rfl, hb5⟩))
          go_ret3
          exact ⟨HR.out.symm, by rw [hb]; exact hlo.trans (hb5.mono hbw)⟩
        · have hr := rawB_step h3 h4 hz
          have hnl := nxp_le isc (at_ s m)
          have hl := at_length s m (by omega) (by omega)
          obtain ⟨K, hK⟩ : ∃ K, (nxp isc (at_ s m)).2 = K := ⟨_, rfl⟩
          rw [hK] at hr hz hnl hnx
          have hmK : m + K ≤ s.size := by omega
          have hat : (at_ s m).drop K = at_ s ((m + K : Nat) : Int) := by rw [← at_add s m K (by omega)]; rfl
          have htk : (at_ s m).take K = by_ (s.extract m (m + K)) := by rw [by_extract, List.drop_take]; unfold at_; rw [Int.toNat_natCast, Nat.add_sub_cancel_left]
          rw [hat, htk] at hr
          have hXz : (s.extract m (m + K)).size ≤ K := by rw [ByteArray.size_extract]; omega
          obtain ⟨X, hX⟩ : ∃ X, s.extract m (m + K) = X := ⟨_, rfl⟩
          rw [hX] at hr hXz
          have HR := Lib.hid hr
          have hbl := rv.bl
          have hKp : 0 < K := by omega
          have hK0 : ((K : Int) == 0) = false := beq_eq_false_iff_ne.2 (by omega)
          have hsum : (Lib.strCells S).length + X.size ≤ 140737488355328 := by rw [Lib.strCells_length]; omega
          clear h3 h4 hr hK hR e2 rv hat htk hl hnl hz
          go_wp2_with (first
            | (go_at_call 26; first | (refine (hP _).mono ?_; rintro e w' ⟨rfl, hw⟩; rw [hw]; clear hw w') | (refine (hP4 _).mono ?_; rintro e w' ⟨rfl, hw⟩; rw [hw]; clear hw w'))
            | (go_at_call 59; refine (hnx _).mono ?_; rintro e W2 ⟨rfl, hb5⟩)
            | (go_at_call 37; refine (wstr b b (Lib.strCells S) X _ (isb_below hbl hb5) hsum (Nat.le_trans hbw hb5.size)).mono ?_; rintro e W3 ⟨rfl, a2, a3, a4⟩))
          have F := RVH.out.next HR.out hmK hXz hb5 a2 a3
          go_roundw
          case rel => first | exact ⟨m + K, _, by go_num, F⟩ | ((repeat apply Exists.intro); exact ⟨⟨m + K, _, by go_num, F⟩, rfl⟩)
          case measure => simp [intOf]; omega
theorem Raw_any (s : ByteArray) (i : Int) (w : World) (hs : s.size ≤ 1000000) :
    Calls Tryd.prog 32 #[.string s, .int .i64 i] w fun e w' => e = rawE s i ∧ Below w.heap.size w w' := by
  by_cases h : i < 0 ∨ three (at_ s i) = false
  · rw [rawE_no h]; exact raw_no s i w hs h
  · obtain ⟨n, rfl⟩ : ∃ n : Nat, i = n := ⟨i.toNat, by omega⟩
    exact raw_yes s n w hs (by cases q : three (at_ s n) with | true => rfl | false => exact absurd (.inr q) h)
end Go.Proofs.YtjgpmfjkcioinaaDoor.G
