/-
  fold: the iterator over a text's lines, which stores what is left into a cell of its own; 'Lines'.
-/
import Derived.RangeFuncBox
import Derived.Maps.AppendAt
import Derived.OwnWalkIn
import Derived.RangeFuncNested
import Derived.RangeFuncBound
import Derived.RangeFuncCalls
import Derived.RangeFuncLeaves
import Derived.RangeFuncFrom
import Derived.Shelf.Abstract
import Derived.Shelf.RegionOpen
import Derived.TacticsInMore
import Derived.LoopNIn
import Derived.LoopIn
import Derived.Test.YtjgpmfjkcioinaaDoorPTRG
import Derived.Test.YtjgpmfjkcioinaaDoorPTG4
import Derived.Test.YtjgpmfjkcioinaaDoorPTF4
import Derived.Test.YtjgpmfjkcioinaaDoorPTV3
namespace Go.Proofs.YtjgpmfjkcioinaaDoor.G
open Go.RowKit Go.Shelf Go.Proofs.YtjgpmfjkcioinaaDoorW.PrintWords Go.Proofs.YtjgpmfjkcioinaaDoor.M
set_option linter.unusedVariables false
set_option linter.unusedSimpArgs false
attribute [local go_sem] Oper.semAt_some
attribute [local irreducible] Utf8.encode Utf8.decode
def fls (s : ByteArray) : List ByteArray := (fl false (by_ s)).map ba
theorem fls_by (s : ByteArray) : (fls s).map by_ = fl false (by_ s) := by
  unfold fls
  rw [List.map_map]
  conv => rhs; rw [← List.map_id (fl false (by_ s))]
  exact List.map_congr_left fun x hx => by_ba (fun c hc => by_range s c ((fl_mem false (by_ s) x hx c hc).2))
theorem fls_length (s : ByteArray) : (fls s).length ≤ s.size + 1 := by
  unfold fls; rw [List.length_map]; have := fl_length false (by_ s); rw [by_length] at this; exact this
theorem noneOf_fun : noneOf CRLF = noEnd := funext noneOf_crlf
theorem prefix_crlf (t : ByteArray) (k : Nat) (hk : k ≤ t.size) : Lib.hasPrefix (t.extract k t.size).data.toList [13, 10] = decide (((by_ t).drop k).take 2 = [13, 10]) := by
  have e : by_ (t.extract k t.size) = (by_ t).drop k := by rw [by_extract, List.take_of_length_le (by rw [by_length]; exact Nat.le_refl _)]
  rw [← e]
  unfold Lib.hasPrefix by_
  rw [Bool.eq_iff_iff, decide_eq_true_eq, List.isPrefixOf_iff_prefix, List.prefix_iff_eq_take, ← List.map_take]
  constructor
  · intro h
    rw [show ([13, 10] : List UInt8).length = 2 from rfl] at h
    rw [← h]; rfl
  · intro h
    rw [show ([13, 10] : List UInt8).length = 2 from rfl]
    exact map_inj (f := fun b : UInt8 => (b.toNat : Int)) (fun x y e => UInt8.toNat_inj.1 (by omega)) _ _ h.symm
theorem fls_cut (t : ByteArray) (k : Nat) (hk : cnt noEnd (by_ t) = k) (hlt : k < t.size) : ∃ e : Nat, k < e ∧ e ≤ t.size ∧ fls t = t.extract 0 k :: fls (t.extract e t.size) ∧
    (Lib.hasPrefix (t.extract k t.size).data.toList [13, 10] = true ∧ e = k + 2 ∨ Lib.hasPrefix (t.extract k t.size).data.toList [13, 10] = false ∧ e = k + 1) := by
  obtain ⟨c, m, h1, h2, h3⟩ := fl_cut (by_ t) (by rw [hk, by_length]; exact hlt)
  rw [hk] at h1 h3
  have hp := prefix_crlf t k (by omega)
  rw [h1] at hp
  have hm : m = (by_ t).drop (k + 1) := by
    have := congrArg List.tail h1
    rw [List.tail_drop] at this
    exact this.symm
  have e0 : ba ((by_ t).take k) = t.extract 0 k := by rw [← ba_by (t.extract 0 k), by_extract, List.drop_zero]
  have er : ∀ e : Nat, by_ (t.extract e t.size) = (by_ t).drop e := fun e => by rw [by_extract, List.take_of_length_le (by rw [by_length]; exact Nat.le_refl _)]
  have fin : ∀ e : Nat, fl (decide (c = 13)) m = fl false ((by_ t).drop e) → fls t = t.extract 0 k :: fls (t.extract e t.size) := by
    intro e he
    unfold fls
    rw [h3, List.map_cons, e0, he, er]
  by_cases q : c = 13 ∧ m.getD 0 0 = 10
  · obtain ⟨rfl, q2⟩ := q
    match m, q2, hm, h1 with
    | d :: n, q2, hm, h1 =>
      have hd : d = 10 := q2
      subst hd
      have hl := congrArg List.length h1
      rw [List.length_drop, by_length] at hl
      simp at hl
      have hn : n = (by_ t).drop (k + 2) := by
        have := congrArg List.tail hm
        rw [List.tail_drop] at this
        exact this
      exact ⟨k + 2, by omega, by omega, fin (k + 2) (by rw [← hn]; exact fl_ten' n), .inl ⟨by rw [hp]; rfl, rfl⟩⟩
  · refine ⟨k + 1, by omega, by omega, fin (k + 1) ?_, .inr ⟨?_, rfl⟩⟩
    · rw [← hm]
      rcases h2 with rfl | rfl
      · rfl
      · exact fl_true (fun e => q ⟨rfl, e⟩)
    · rw [hp, decide_eq_false_iff_not]
      intro e
      apply q
      cases m with
      | nil => simp at e
      | cons d n => simp at e; exact ⟨e.1, e.2⟩
theorem fls_uncut (t : ByteArray) (h : ¬ cnt noEnd (by_ t) < t.size) : fls t = [t] := by
  unfold fls
  rw [fl_uncut (by rw [by_length]; exact h)]
  show [ba (by_ t)] = _
  rw [ba_by]
def left (b : Nat) (W : World) : Nat := match W.cell? ⟨b, 0, none⟩ with | some (.string t) => t.size | _ => 0
theorem left_it {b : Nat} {W : World} {t : ByteArray} (h : Boxed W b 9 (.string t)) : left b W = t.size := by unfold left; rw [h.cell]
set_option maxRecDepth 100000 in
set_option maxHeartbeats 4000000 in
theorem lines1_in (n : Nat) (l b : Nat) (s : ByteArray) (hn : 1 ≤ n) (hs : s.size ≤ 1000000) (J : List ByteArray → World → Prop) (W : World) (hJ : Bears W.heap.size b J)
    (hY : ∀ pre x W1, J pre W1 → pre.length < (fls s).length → YieldAt Fence.wide (n - 1) Tryd.prog l #[.string x] W1 fun e W' => e = .returned (.bool true) ∧ J (pre ++ [x]) W' ∧ W'.heap[b]? = W1.heap[b]?)
    (hb : Boxed W b 9 (.string s)) (h0 : J [] W) :
    CallsIn Fence.wide n Tryd.prog 95 #[.func (.yield l) #[] #[], .pointer (some ⟨b, 0, none⟩)] W fun e W' => (∃ v, e = .returned v) ∧ J (fls s) W' := by
  refine callsIn_of_wp Tryd.func95 rfl trivial ?_ rfl
  simp only [Tryd.ntmps95, List.size_toArray, List.length_cons, List.length_nil, Nat.reduceAdd, Nat.reduceSub, Array.replicate_succ, Array.replicate_zero, List.push_toArray, List.append_toArray, List.nil_append, List.cons_append]
  gi_wp2
  gi_loopw [3] (fun _ wr => ∃ (pre : List ByteArray) (t : ByteArray), Boxed wr b 9 (.string t) ∧ t.size ≤ s.size ∧ Hid (pre ++ fls t = fls s) ∧ J pre wr)
    (fun _ wr => left b wr)
  case atStart => exact ⟨[], s, hb, Nat.le_refl _, Lib.hid rfl, h0⟩
  case round =>
    obtain ⟨pre, t, hbt, hts, hpre, hJs⟩ := hrel
    have hct := hbt.cell
    have hft := hbt.frozen
    have hlt0 := hbt.lt
    have hI := fun (W : World) => indexAny_any CRLF rfl (by decide) t (by omega) W
    have hidx : anyIdx CRLF t = if cnt noEnd (by_ t) < t.size then ((cnt noEnd (by_ t) : Nat) : Int) else -1 := by unfold anyIdx; rw [noneOf_fun]
    have hbi := fun (w' : World) (hbn : Below wr.heap.size wr w') => (⟨hJ.1 pre wr w' none hJs (grown_of_below hbn) (fun r e => by cases e), hbt.kept (grown_of_below hbn) (by simp)⟩ : J pre w' ∧ Boxed w' b 9 (.string t))
    have HBI := Lib.hid hbi
    have HJ := Lib.hid hJ.2
    clear hbi
    by_cases hlt : cnt noEnd (by_ t) < t.size
    · obtain ⟨k, hk⟩ : ∃ k, cnt noEnd (by_ t) = k := ⟨_, rfl⟩
      obtain ⟨e, he1, he2, he3, he4⟩ := fls_cut t k hk (by omega)
      rw [hidx, if_pos hlt, hk] at hI
      rw [hk] at hlt
      have hP := fun (W : World) => Tryd.strings_HasPrefix (t.extract k t.size) ⟨#[13, 10]⟩ W
      have hp2 : pre ++ [t.extract 0 k] ++ fls (t.extract e t.size) = fls s := by rw [← hpre.out, he3, List.append_assoc]; rfl
      have hY' := fun (Wy : World) (hj : J pre Wy) => hY pre (t.extract 0 k) Wy hj (by rw [← hp2]; simp)
      have HY := Lib.hid hY'
      have HP := Lib.hid hp2
      have hmz : (t.extract e t.size).size = t.size - e := by rw [ByteArray.size_extract]; omega
      have hk0 : (0 : Int) ≤ (k : Int) := by omega
      obtain ⟨x, hx⟩ : ∃ x, t.extract 0 k = x := ⟨_, rfl⟩
      rw [hx] at HY HP
      obtain ⟨z, hz⟩ : ∃ x, t.extract k t.size = x := ⟨_, rfl⟩
      rw [hz] at hP he4
      obtain ⟨R, hR⟩ : ∃ R : Bool, Lib.hasPrefix z.data.toList (⟨#[13, 10]⟩ : ByteArray).data.toList = R := ⟨_, rfl⟩
      rw [hR] at hP
      have he4' : R = true ∧ e = k + 2 ∨ R = false ∧ e = k + 1 := by rw [← hR]; exact he4
      clear hpre hY hY' hp2 hidx hk he3 he4 hJ hR h0 hb
      obtain ⟨C, hC⟩ : ∃ C, CRLF = C := ⟨_, rfl⟩
      rcases he4' with ⟨rfl, rfl⟩ | ⟨rfl, rfl⟩
      all_goals
        gi_wp2_with (refine ⟨trivial, ?_⟩; gi_at_call 27; refine (callsIn_wide.2 (hI _)).mono ?_; rintro e1 w' ⟨rfl, hbn⟩; obtain ⟨hJ2, hb2⟩ := HBI.out w' hbn; have hc2 := hb2.cell; have hf2 := hb2.frozen; obtain ⟨fn, tmps, assign, body, hyy, hRR⟩ := HY.out w' hJ2)
        refine hRR.mono ?_
        rintro e1 W3 ⟨rfl, hJ3, hk3⟩
        have hb3 : Boxed W3 b 9 (.string t) := hk3.trans hb2
        have hc3 := hb3.cell
        have hf3 := hb3.frozen
        clear hc2 hf2 hct hft
        gi_wp2_with (refine ⟨trivial, ?_⟩; gi_at_call 26; refine (callsIn_wide.2 (hP _)).mono ?_; rintro e1 w' ⟨rfl, rfl⟩)
        go_roundw
        case rel => exact ⟨_, _, hb3.set _, by rw [ByteArray.size_extract]; omega, HP, HJ.out _ _ _ hJ3⟩
        case measure => rw [left_it (hb3.set _), left_it hbt, ByteArray.size_extract]; omega
    · have hun := fls_uncut t hlt
      rw [hidx, if_neg hlt] at hI
      have hp2 : pre ++ [t] = fls s := by rw [← hpre.out, hun]
      have hY' := fun (Wy : World) (hj : J pre Wy) => hY pre t Wy hj (by rw [← hp2]; simp)
      have HY := Lib.hid hY'
      have HP := Lib.hid hp2
      clear hpre hY hY' hp2 hidx hun hJ h0 hb
      gi_wp2_with (refine ⟨trivial, ?_⟩; gi_at_call 27; refine (callsIn_wide.2 (hI _)).mono ?_; rintro e1 w' ⟨rfl, hbn⟩; obtain ⟨hJ2, hb2⟩ := HBI.out w' hbn; have hc2 := hb2.cell; have hf2 := hb2.frozen; obtain ⟨fn, tmps, assign, body, hyy, hRR⟩ := HY.out w' hJ2)
      refine hRR.mono ?_
      rintro e1 W3 ⟨rfl, hJ3, hk3⟩
      gi_wp2
      refine bodyPost_ret (results_none rfl _ _ _) rfl ?_
      exact ⟨⟨_, rfl⟩, by rw [← HP.out]; exact hJ3⟩
theorem lines_hand (n b : Nat) (s : ByteArray) (hn : 1 ≤ n) (hs : s.size ≤ 1000000) (w : World) (hb : Boxed w b 9 (.string s)) :
    HandsOn Fence.wide n Tryd.prog 95 #[.pointer (some ⟨b, 0, none⟩)] (fun x : ByteArray => #[Value.string x]) b (fls s) w :=
  fun l J W hW hJ hY h0 => lines1_in n l b s hn hs J W hJ hY ((hW.block b hb.lt).trans hb) h0
theorem lines_in (n : Nat) (s : ByteArray) (w : World) :
    CallsIn Fence.wide n Tryd.prog 83 #[.string s] w fun e w' => e = .returned (.func (.func 95) #[] #[.pointer (some ⟨w.heap.size, 0, none⟩)]) ∧ w' = w.alloc (.cells #[.string s] 9) := by
  refine callsIn_of_wp Tryd.func83 rfl trivial ?_ rfl
  simp only [Tryd.ntmps83, List.size_toArray, List.length_cons, List.length_nil, Nat.reduceAdd, Nat.reduceSub, Array.replicate_succ, Array.replicate_zero, List.push_toArray, List.append_toArray, List.nil_append, List.cons_append]
  gi_wp2
  go_ret
  exact ⟨rfl, rfl⟩
def LnI (n : Nat) (w : World) (pre : List ByteArray) (W : World) : Prop :=
  (∃ v, Boxed W n 87 v ∧ W.ownsRow (n + 2) 9 1 v pre.length (pre.map Value.string)) ∧ (Below n w W ∧ n + 2 ≤ W.heap.size)
theorem row_own {β : Type} (n₀ B : Nat) (t e : TypeId) (size : Nat) (k : β → Nat) (f : β → List Value) : Own (fun s W => ∃ v, Boxed W B t v ∧ W.ownsRow n₀ e size v (k s) (f s)) := fun s X Y row h hg hrow => by
  obtain ⟨v, hv, hr⟩ := h
  obtain ⟨v', a, b, _⟩ := holdsRow_own n₀ B t e size k f (fun _ _ => True) s X Y row ⟨v, hv, hr, trivial⟩ hg hrow
  exact ⟨v', a, b⟩
theorem lnI_own (n : Nat) (w : World) (B : Nat) (hn : n ≤ w.heap.size) (hB : n ≤ B) : OwnFrom B (LnI n w) :=
  OwnFrom.and (Own.from (row_own (n + 2) n 87 9 1 (fun pre : List ByteArray => pre.length) (fun pre => pre.map Value.string)) _)
    (OwnFrom.and (ownFrom_below hn hB) (fun s A B row hs hg hr => Nat.le_trans hs hg.size))
theorem own_far {W : World} {base : Nat} {e : TypeId} {v : Value} {k : Nat} {xs : List Value} (h : W.ownsRow base e 1 v k xs) : ∀ g, v.ownBlock = some g → base ≤ g ∧ ∃ cur, W.heap[g]? = some (.cells cur e (0, 0)) := fun g e' => by
  rcases h.2 with ⟨rfl, _⟩ | ⟨g', cap, cur, rfl, hg', hgb, _⟩
  · simp [Value.ownBlock] at e'
  · obtain rfl : g' = g := by simpa [Value.ownBlock] using e'
    exact ⟨hg', cur, hgb⟩
theorem lnI_set {n : Nat} {w W : World} {pre : List ByteArray} (h : LnI n w pre W) (v : Value) : LnI n w pre (W.setCell ⟨n + 1, 0, none⟩ v) := by
  obtain ⟨⟨u, hu, hrow⟩, hB, hsz⟩ := h
  refine ⟨⟨u, ?_, hrow.kept (grownBy_setCell' W (n + 1) v) (.inr fun e => ?_)⟩, hB.setCell (p := ⟨n + 1, 0, none⟩) (by show n ≤ n + 1; omega) _, ?_⟩
  · exact (show (W.setCell ⟨n + 1, 0, none⟩ v).heap[n]? = _ from Below.heap_setCell W ⟨n + 1, 0, none⟩ v n (by show n ≠ n + 1; omega)).trans hu
  · have := (own_far hrow (n + 1) e).1; omega
  · show n + 2 ≤ (W.heap.modify _ _).size
    rw [Array.size_modify]; exact hsz
theorem lnI_next {n : Nat} {w W w1 : World} {pre : List ByteArray} {x : ByteArray} {v v' : Value} {o : Obj} (h : LnI n w pre W) (hv : Boxed W n 87 v) (hrow : W.ownsRow (n + 2) 9 1 v pre.length (pre.map Value.string))
    (hown' : w1.ownsRow (n + 2) 9 1 v' (pre.length + 1) (pre.map Value.string ++ [.string x])) (hgrow : (W.alloc o).grownBy w1 v.ownBlock) (B : Nat) :
    KeepsFrom B W (w1.setCell ⟨n, 0, none⟩ v') ∧ (w1.setCell ⟨n, 0, none⟩ v').heap[n + 1]? = W.heap[n + 1]? ∧ LnI n w (pre ++ [x]) (w1.setCell ⟨n, 0, none⟩ v') := by
  obtain ⟨_, hB, hsz⟩ := h
  have hfar := own_far hrow
  have hv1 : Boxed w1 n 87 v := (hv.alloc o).kept hgrow (hv.not_row (by decide) hrow)
  have hB1 : Below n w w1 := (hB.alloc (by omega) o).grown hgrow (by simp; omega) (fun g e => by have := (hfar g e).1; omega)
  refine ⟨?_, ?_, ⟨v', hv1.set v', ?_⟩, hB1.setCell (p := ⟨n, 0, none⟩) (Nat.le_refl _) _, ?_⟩
  · refine (((KeepsOthers.alloc W o).trans (KeepsOthers.of_grownBy hgrow fun j ob ej hj => ?_)).trans (KeepsOthers.setCell _ _ _)).from B
    obtain ⟨h1, cur, h2⟩ := hfar j ej
    have h3 := (Below.heap_alloc W o j (Array.getElem?_eq_some_iff.1 h2).1).trans h2
    rw [h3] at hj; cases hj; rfl
  · refine (Below.heap_setCell w1 ⟨n, 0, none⟩ v' (n + 1) (by show n + 1 ≠ n; omega)).trans ((hgrow.block (n + 1) (by simp; omega) (fun e => ?_)).trans (Below.heap_alloc W o (n + 1) (by omega)))
    have := (hfar (n + 1) e.symm).1; omega
  · rw [List.length_append, List.map_append]
    exact hown'.kept (grownBy_setCell' w1 n v') (.inr (hv1.not_row (by decide) hown').symm)
  · have := hgrow.size
    show n + 2 ≤ (w1.heap.modify _ _).size
    rw [Array.size_modify]; simp at this; omega
theorem info_str : (Tryd.prog.info? 9).map (fun i => (i.zero, i.size, i.bytes)) = some (some (.string ByteArray.empty), 1, 16) := by kernel_rfl
set_option maxRecDepth 100000 in
set_option maxHeartbeats 4000000 in
theorem flines_in (s : ByteArray) (w : World) (hs : s.size ≤ 1000000) :
    CallsIn Fence.wide 9 Tryd.prog 60 #[.string s] w fun e W' => ∃ v, e = .returned v ∧ W'.ownsRow w.heap.size 9 1 v (fls s).length ((fls s).map Value.string) ∧ Below w.heap.size w W' := by
  obtain ⟨i0, hi, hz0, hz1, hz2⟩ := info_parts info_str
  have hlen := fls_length s
  have hu := Tryd.underlying87
  refine callsIn_of_wp_marks Tryd.func60 rfl trivial ?_ rfl
  simp only [Tryd.ntmps60, List.size_toArray, List.length_cons, List.length_nil, Nat.reduceAdd, Nat.reduceSub, Array.replicate_succ, Array.replicate_zero, List.push_toArray, List.append_toArray, List.nil_append, List.cons_append]
  gi_wp2_with (refine ⟨trivial, ?_⟩; gi_at_call 83; refine (lines_in _ s _).mono ?_; rintro e w' ⟨rfl, rfl⟩)
  have b1 := (Boxed.new w 87 (.slice none 0 0)).alloc (.cells #[.string s] 9)
  have b2 := Boxed.new (w.alloc (.cells #[.slice none 0 0] 87)) 9 (.string s)
  have hB0 : Below w.heap.size w ((w.alloc (.cells #[.slice none 0 0] 87)).alloc (.cells #[.string s] 9)) := ((Below.refl _ w).alloc (Nat.le_refl _) _).alloc (by simp) _
  simp only [World.size_alloc] at b2
  obtain ⟨W0, hW0⟩ : ∃ W0, (w.alloc (.cells #[.slice none 0 0] 87)).alloc (.cells #[.string s] 9) = W0 := ⟨_, rfl⟩
  have hz : W0.heap.size = w.heap.size + 2 := by rw [← hW0]; simp
  rw [hW0] at b1 b2 hB0 ⊢
  refine range_all (α := ByteArray) rfl (by omega) (gf := 95) (lb := #[.pointer (some ⟨w.heap.size + 1, 0, none⟩)]) rfl trivial (enters_of Tryd.func95 (by kernel_rfl) rfl)
    (lines_hand 8 (w.heap.size + 1) s (by omega) hs _ b2) (by omega) (fun _ => rfl)
    (LnI w.heap.size w)
    (lnI_own _ w _ (Nat.le_refl _) (by omega))
    (fun pre W v h => lnI_set h v)
    ⟨⟨_, b1, World.ownsRow_nil _ _ _ _⟩, hB0, by omega⟩
    (fun x => { tmps := #[.string s, undef, .slice none 0 0, .pointer (some ⟨w.heap.size, 0, none⟩), .string x, .string s, .func (.func 95) #[] #[.pointer (some ⟨w.heap.size + 1, 0, none⟩)], .string x, undef, undef, undef, undef, undef], defers := [] }) ?assign ?body ?done
  case assign =>
    intro l x W K hK
    gi_wp2
    exact hK
  case body =>
    rintro l pre x W hI hN
    obtain ⟨⟨v, hv, hrow⟩, hB, hsz⟩ := hI
    have hcv := hv.cell
    have hfv := hv.frozen
    have hl1 : pre.length + 1 ≤ maxLen := by unfold maxLen; omega
    have hl2 : (pre.length + 1) * 16 ≤ 140737488355328 := by omega
    gi_wp2_with (gi_at_builtin; refine wpListIn_append_own _ rfl _ _ 87 rfl (w.heap.size + 2) 9 i0 (.string ByteArray.empty) 1 16 hu hi hz0 hz1 hz2 rfl (by decide) _ _ _ rfl (hrow.alloc _) ⟨W.heap.size, 0, none⟩ 1 1 [.string x] rfl rfl (cell_one_new _ _ _) (by simp [Value.oneCell']) hl1 hl2 (by simp; omega) ?_; intro v' w1 hown' hgrow _; obtain ⟨g', cap', rfl⟩ := ownsRow_succ hown'; have hY := lnI_next (B := W0.heap.size) ⟨⟨v, hv, hrow⟩, hB, hsz⟩ hv hrow hown' hgrow; have hv1 := (hv.alloc _).kept hgrow (hv.not_row (by decide) hrow); have hc1 := hv1.cell; have hf1 := hv1.frozen)
    exact hY
  case done =>
    rintro D W hD hI hK
    obtain ⟨⟨v, hv, hrow⟩, hB, hsz⟩ := hI
    have hcv := hv.cell
    have hfv := hv.frozen
    gi_wp2
    refine ⟨by simp, .inl ⟨_, _, rfl, run_takeDeferred hK, ?_⟩⟩
    refine ⟨v, ?_, v, rfl, ?_, hB.trans (belowK_b (w := w) (Nat.le_refl _) W D _ _ (by omega) hK rfl rfl)⟩
    · simp [results, Tryd.f60, go_sem]
    · exact ownsRow_putObj (own_weaken hrow (by omega)) _ hK rfl
theorem flines_any (s : ByteArray) (w : World) (hs : s.size ≤ 1000000) :
    Calls Tryd.prog 60 #[.string s] w fun e W' => ∃ v, e = .returned v ∧ W'.ownsRow w.heap.size 9 1 v (fls s).length ((fls s).map Value.string) ∧ Below w.heap.size w W' := callsIn_wide.1 (flines_in s w hs)
end Go.Proofs.YtjgpmfjkcioinaaDoor.G
