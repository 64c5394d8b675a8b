/-
  fold: 'Fold'.
-/
import Derived.RegionTactic
import Derived.ChangeAlike
import Derived.Test.YtjgpmfjkcioinaaDoorPTF7
namespace Go.Proofs.YtjgpmfjkcioinaaDoor.G
open Go.RowKit Go.Shelf Go.Proofs.YtjgpmfjkcioinaaDoorW.PrintWords Go.Proofs.YtjgpmfjkcioinaaDoor.M
set_option linter.unusedVariables false
set_option linter.unusedSimpArgs false
attribute [local irreducible] Utf8.encode Utf8.decode
theorem own_cells {W : World} {base g cap : Nat} {xs : List ByteArray} {n : Nat} (h : W.ownsRow base 9 1 (.slice (some ⟨g, 0, none⟩) n cap) n (xs.map Value.string)) (j : Nat) (x : ByteArray) (hx : xs[j]? = some x) : W.cell? ⟨g, j, none⟩ = some (.string x) := by
  have hl : xs.length = n := by have := h.1; rw [List.length_map, Nat.mul_one] at this; exact this
  have hj := (List.getElem?_eq_some_iff.1 hx).1
  rw [h.cellAt j (by omega), List.getElem?_map, hx]; rfl
theorem ret_str {a b : ByteArray} (h : a = b) : Ending.returned (.string a) = .returned (.string b) := by rw [h]
theorem jn_bound (N : Nat) : ∀ (r : List (List Int)), (∀ x ∈ r, x.length ≤ N) → (jn r).length ≤ r.length * (N + 1)
  | [], _ => Nat.zero_le _
  | [x], h => by
    have := h x (by simp)
    show (x ++ []).length ≤ _
    simp; omega
  | x :: y :: r, h => by
    have h1 := h x (by simp)
    have h2 := jn_bound N (y :: r) (fun z hz => h z (by simp [List.mem_cons.1 hz]))
    have e : (x :: y :: r).length * (N + 1) = (y :: r).length * (N + 1) + (N + 1) := by rw [List.length_cons, Nat.succ_mul]
    rw [jn_cons (by simp), List.length_append, List.length_cons, e]
    omega
theorem join_small (xs : List ByteArray) (hn : xs.length ≤ 10000000) (h : ∀ x ∈ xs, x.size ≤ 1000000) : (Lib.join (xs.map (·.data.toList)) (⟨#[10]⟩ : ByteArray).data.toList).length ≤ 140737488355328 := by
  have e : (Lib.join (xs.map (·.data.toList)) (⟨#[10]⟩ : ByteArray).data.toList).length = (jn (xs.map by_)).length := by
    rw [← jn_join, by_length]
    show _ = (Lib.join (xs.map (·.data.toList)) [10]).toArray.size
    simp
  have hb := jn_bound 1000000 (xs.map by_) (fun x hx => by
    obtain ⟨y, hy, rfl⟩ := List.mem_map.1 hx
    rw [by_length]; exact h y hy)
  rw [List.length_map] at hb
  rw [e]; omega
theorem own_form {W : World} {base n : Nat} {e : TypeId} {v : Value} {xs : List Value} (h : W.ownsRow base e 1 v n xs) (hn : 0 < n) : ∃ g cap, v = .slice (some ⟨g, 0, none⟩) n cap ∧ base ≤ g ∧ g < W.heap.size ∧ n ≤ cap := by
  rcases h.2 with ⟨_, h0⟩ | ⟨g, cap, cur, hv, hb, hh, hc, _⟩
  · omega
  · exact ⟨g, cap, hv, hb, (Array.getElem?_eq_some_iff.1 hh).1, hc⟩
theorem C_of_own {W : World} {base c : Nat} {A : Option Addr} {xs : List ByteArray} (h : W.ownsRow base 9 1 (.slice A xs.length c) xs.length (xs.map Value.string)) : Kd.C Kd.string W A xs.length xs := by
  obtain ⟨A', c', he, _, hC⟩ := Kd.R_reads (e := 9) (d := Kd.string) (Kd.R_of_own (enc := Value.string) (h1 := fun _ => rfl) (ok := fun _ => True) (xs := xs) h (fun _ _ => trivial))
  cases he
  exact hC
set_option maxHeartbeats 8000000 in
set_option maxRecDepth 100000 in
theorem Fold_any (s : ByteArray) (w : World) (hs : s.size ≤ 1000000) :
    Calls Tryd.prog 33 #[.string s] w fun e w' => e = .returned (.string (ba (foldL (by_ s)))) ∧ Below w.heap.size w w' := by
  have hL := flines_any s w hs
  have hlen := fls_length s
  have hsmall : ∀ x ∈ fls s, x.size ≤ 1000000 := by
    intro x hx
    have h2 : by_ x ∈ fl false (by_ s) := by rw [← fls_by]; exact List.mem_map.2 ⟨x, hx, rfl⟩
    have h3 := sz_fl false (by_ s)
    have gen : ∀ (r : List (List Int)) (y : List Int), y ∈ r → y.length + 1 ≤ sz r := by
      intro r
      induction r with
      | nil => intro y hy; cases hy
      | cons z r ih =>
        intro y hy
        rw [sz_cons]
        rcases List.mem_cons.1 hy with rfl | hy
        · omega
        · have := ih y hy; omega
    have := gen _ _ h2
    rw [by_length] at this h3
    omega
  have hres : foldL (by_ s) = jn (tailless (headless ((cutTo (indent ((fls s).map by_)).toNat (fls s).length (fls s)).map by_))) := by
    rw [cutTo_full, fls_by]; rfl
  have hne : 0 < (fls s).length := by
    unfold fls; rw [List.length_map]; exact fl_pos _ _
  rw [hres]
  clear hres
  obtain ⟨L, hLe⟩ : ∃ L, fls s = L := ⟨_, rfl⟩
  rw [hLe] at hL hlen hsmall hne ⊢
  clear hLe
  have hI := fun (W : World) (A : Option Addr) (c : Nat) (hC : Kd.C Kd.string W A L.length L) => Indent_any A c L W hC (by omega) hsmall
  have hib : -1 ≤ indent (L.map by_) := ind_ge _ _ (Int.le_refl _)
  obtain ⟨d, hd⟩ : ∃ d, (indent (L.map by_)).toNat = d := ⟨_, rfl⟩
  obtain ⟨I, hIe⟩ : ∃ I, indent (L.map by_) = I := ⟨_, rfl⟩
  rw [hIe] at hI hd hib
  rw [hIe, hd]
  have hmx : max 0 I = (d : Int) := by omega
  have HM := Lib.hid hmx
  have HD := Lib.hid hd
  clear hmx hd hIe
  have hXl := cutTo_length d L.length L
  have hXs := cutTo_small d L.length L 1000000 hsmall
  obtain ⟨X, hX⟩ : ∃ X, cutTo d L.length L = X := ⟨_, rfl⟩
  rw [hX] at hXl hXs ⊢
  obtain ⟨T, hT⟩ : ∃ T, ba (jn (tailless (headless (X.map by_)))) = T := ⟨_, rfl⟩
  rw [hT]
  have HT := Lib.hid hT
  have HX := Lib.hid hX
  have HXl := Lib.hid hXl
  clear hT hX hXl
  go_enter Tryd.func33, Tryd.ntmps33
  go_wp2_with (first
    | (go_at_call 60; refine hL.mono ?_; rintro e w1 ⟨v, rfl, ho, hb⟩; obtain ⟨g, cap, rfl, hgb, hgl, hnc⟩ := own_form ho hne; have hI1 := hI w1 _ cap (C_of_own ho))
    | (go_at_call 61; refine hI1.mono ?_; rintro e w2 ⟨rfl, hb2⟩))
  rw [HM.out]
  have hb := hb.trans (hb2.mono hb.size)
  have ho := pw_own_below ho hb2
  clear hb2 hI hI1 hL
  go_loopw [16] (fun i wr => ∃ k : Nat, i = .int .i64 (k : Int) ∧ k ≤ L.length ∧ wr.ownsRow w.heap.size 9 1 (.slice (some ⟨g, 0, none⟩) L.length cap) L.length ((cutTo d k L).map Value.string) ∧ Below w.heap.size w wr) (fun i _ => L.length - (intOf i).toNat)
  case atStart => exact ⟨0, rfl, Nat.zero_le _, by rw [cutTo_zero]; exact ho, hb⟩
  case round =>
    obtain ⟨k, rfl, hk, ho, hb⟩ := hrel
    by_cases hlt : k < L.length
    · obtain ⟨x, hx⟩ : ∃ x, L[k]? = some x := ⟨L[k], List.getElem?_eq_getElem hlt⟩
      have hcell := own_cells ho k x (cutTo_at d k L x hx)
      have hfro := ho.frozenAt k
      by_cases hk0 : k < 1
      · have hcut : cutTo d (k + 1) L = cutTo d k L := by
          obtain rfl : k = 0 := by omega
          exact cutTo_keep d L
        have HC := Lib.hid hcut
        clear hcut hx
        go_wp2
        go_roundw
        case rel => exact ⟨k + 1, by go_num, by omega, by rw [HC.out]; exact ho, hb⟩
        case measure => simp [intOf]; omega
      · have hk1 : 0 < k := by omega
        have hst := own_store_of (enc := Value.string) (xs := cutTo d k L) ho (k : Int) (dropB d x)
        rw [Int.toNat_natCast, cutTo_step d k L hk1 x hx] at hst
        have HS := Lib.hid hst.1
        clear hst hx
        have hmn : min (d : Int) (x.size : Int) = ((min d x.size : Nat) : Int) := by omega
        have hmle : min d x.size ≤ x.size := Nat.min_le_right _ _
        obtain ⟨q, hq⟩ : ∃ q, min d x.size = q := ⟨_, rfl⟩
        rw [hq] at hmn hmle
        have hSq : x.extract q x.size = dropB d x := by unfold dropB; rw [hq]
        go_wp2
        go_region
        all_goals
          go_wp2
          go_roundw
          case rel => exact ⟨k + 1, by go_num, by omega, HS.out, (hb.setCell (p := ⟨g, k, none⟩) hgb _).drew⟩
          case measure => simp [intOf]; omega
    · obtain rfl : k = L.length := by omega
      rw [HX.out] at ho
      have hF := fun (W : World) (ho : W.ownsRow w.heap.size 9 1 (.slice (some ⟨g, 0, none⟩) L.length cap) L.length (X.map Value.string)) (hgl : g < W.heap.size) => index_any g cap X W (fun j x hx => own_cells ho j x hx) hgl (by rw [HXl.out]; omega) hXs
      rw [HXl.out] at hF
      have hgl2 : g < wr.heap.size := by
        obtain ⟨g', cap', e', _, h', _⟩ := own_form ho hne
        cases e'; exact h'
      have hF1 := hF wr ho hgl2
      rcases ff_head X 0 with ⟨q1, q2, q3⟩ | ⟨j, q1, q2, q3, q4⟩
      · rw [q2] at hF1
        have hT2 : (⟨#[]⟩ : ByteArray) = T := by rw [← HT.out, q3]; rfl
        have HT2 := Lib.hid hT2
        clear hF q1 q2 q3 hT2
        go_wp2_with (go_at_call 64; refine hF1.mono ?_; rintro e w3 ⟨rfl, hbn⟩; have hb := hb.trans (hbn.mono hb.size))
        go_ret
        exact ⟨ret_str HT2.out, hb⟩
      · rw [q1, Nat.zero_add] at hF1
        have hTj : ba (jn (tailless ((X.map by_).drop j))) = T := by rw [← HT.out, q3]
        have HTj := Lib.hid hTj
        obtain ⟨z, hz1, hz2⟩ := q4
        have HQ := Lib.hid hz2
        have HZ := Lib.hid hz1
        have hjn : j < L.length := by have := HXl.out; omega
        clear hF q1 q2 q3 hz1 hz2 hTj
        go_wp2_with (go_at_call 64; refine hF1.mono ?_; rintro e w3 ⟨rfl, hbn⟩; have hb := hb.trans (hbn.mono hb.size); have ho := pw_own_below ho hbn)
        go_loopw [8] (fun m wr => ∃ mm : Nat, m = .int .i64 (mm : Int) ∧ j < mm ∧ mm ≤ L.length ∧ Hid (tailless (((X.map by_).take mm).drop j) = tailless ((X.map by_).drop j)) ∧ wr.ownsRow w.heap.size 9 1 (.slice (some ⟨g, 0, none⟩) L.length cap) L.length (X.map Value.string) ∧ Below w.heap.size w wr) (fun m _ => (intOf m).toNat)
        case atStart => exact ⟨L.length, rfl, hjn, Nat.le_refl _, Lib.hid (by rw [List.take_of_length_le (by rw [List.length_map, HXl.out]; exact Nat.le_refl _)]), ho, hb⟩
        case round =>
          obtain ⟨mm, rfl, hm1, hm2, hm3, ho, hb⟩ := hrel
          obtain ⟨p, rfl⟩ : ∃ p, mm = p + 1 := ⟨mm - 1, by omega⟩
          have hpX : p < X.length := by rw [HXl.out]; omega
          obtain ⟨y, hy⟩ : ∃ y, X[p]? = some y := ⟨X[p], List.getElem?_eq_getElem hpX⟩
          have hcell := own_cells ho p y hy
          have hyz : y.size ≤ 1000000 := hXs y (List.mem_of_getElem? hy)
          have hB := fun (W : World) => fblank_any y W (by omega)
          have htk : (X.map by_).take (p + 1) = (X.map by_).take p ++ [by_ y] := by
            rw [List.take_add_one, List.getElem?_map, hy]; rfl
          cases hby : blk (by_ y) with
          | true =>
            have hjp : j < p := by
              rcases Nat.lt_or_ge j p with q | q
              · exact q
              · exfalso
                obtain rfl : j = p := by omega
                have := HZ.out
                rw [hy] at this
                cases this
                rw [HQ.out] at hby; cases hby
            have h2 : Hid (tailless (((X.map by_).take p).drop j) = tailless ((X.map by_).drop j)) := Lib.hid (by
              rw [← hm3.out, htk, List.drop_append_of_le_length (by rw [List.length_take, List.length_map]; omega), tailless_blk _ hby])
            rw [hby] at hB
            clear hby htk hy hm3
            go_wp2_with (go_at_call 63; refine (hB _).mono ?_; rintro e w1 ⟨rfl, hbn⟩; have hb := hb.trans (hbn.mono hb.size); have ho := pw_own_below ho hbn)
            go_roundw
            case rel => exact ⟨p, by go_num, hjp, by omega, h2, ho, hb⟩
            case measure => first | (simp [intOf]; done) | (simp [intOf]; omega)
          | false =>
            have hid : tailless (((X.map by_).take (p + 1)).drop j) = ((X.map by_).take (p + 1)).drop j := by
              refine tailless_id _ fun x hx => ?_
              rw [htk, List.drop_append_of_le_length (by rw [List.length_take, List.length_map]; omega), List.getLast?_append] at hx
              cases hx
              exact hby
            have hT3 : ba (jn (((X.take (p + 1)).drop j).map by_)) = T := by
              rw [← HTj.out, ← hm3.out, hid, List.map_drop, List.map_take]
            have hjl : ((X.take (p + 1)).drop j).length = p + 1 - j := by rw [List.length_drop, List.length_take]; omega
            have hJ := fun (W : World) (ho : W.ownsRow w.heap.size 9 1 (.slice (some ⟨g, 0, none⟩) L.length cap) L.length (X.map Value.string)) => Tryd.strings_Join g j (cap - j) ((X.take (p + 1)).drop j) ⟨#[10]⟩ W (fun i x hx => by
                rw [List.getElem?_drop] at hx
                have hi : j + i < p + 1 := by have := (List.getElem?_eq_some_iff.1 hx).1; rw [List.length_take] at this; omega
                rw [List.getElem?_take_of_lt hi] at hx
                exact own_cells ho (j + i) x hx)
              (by obtain ⟨g', cap', e', _, h', _⟩ := own_form ho hne; cases e'; exact h') (by omega) (by omega) (join_small _ (by omega) (fun x hx => hXs x (List.mem_of_mem_take (List.mem_of_mem_drop hx))))
            rw [show (⟨#[10]⟩ : ByteArray).data.toList = [10] from rfl, jn_join_b, hT3, hjl] at hJ
            rw [hby] at hB
            have hcj : (cap == j) = false := beq_eq_false_iff_ne.2 (by omega)
            have hcj2 : ((cap : Nat) = j) = False := eq_false (by omega)
            clear hby htk hy hm3 hid hT3 hjl
            go_wp2_with (first
              | (go_at_call 63; refine (hB _).mono ?_; rintro e w1 ⟨rfl, hbn⟩; have hb := hb.trans (hbn.mono hb.size); have ho := pw_own_below ho hbn; have hJ1 := hJ _ ho)
              | (go_at_call 65; refine hJ1.mono ?_; rintro e w1 ⟨rfl, hbn⟩; have hb := hb.trans (hbn.mono hb.size)))
            go_ret
            exact ⟨rfl, hb⟩
end Go.Proofs.YtjgpmfjkcioinaaDoor.G
