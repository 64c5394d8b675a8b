/-
  'lex.steps': the iterator.
-/
import Derived.Test.YtjgpmfjkcioinaaDoorPTLX2
import Derived.Test.YtjgpmfjkcioinaaDoorPTZ2
import Derived.Test.YtjgpmfjkcioinaaDoorPTV3
namespace Go.Proofs.YtjgpmfjkcioinaaDoor.G
open Go.RowKit Go.Proofs.YtjgpmfjkcioinaaDoorW.PrintWords Go.Proofs.YtjgpmfjkcioinaaDoor.M
set_option linter.unusedVariables false
set_option linter.unusedSimpArgs false
attribute [local go_sem] Oper.semAt_some
attribute [local irreducible] Utf8.encode Utf8.decode
def stTok (x : LOne × Nat) : Value := if x.1.e = 0 then .agg #[.int .i64 x.1.k, .string (ba x.1.t), .int .i64 (x.2 : Int), .int .i64 ((x.2 : Int) + x.1.n)] else .agg #[.int .i64 0, .string ⟨#[]⟩, .int .i64 0, .int .i64 0]
def stV (x : LOne × Nat) : Value := if x.1.e = 0 then .agg #[.int .i64 x.1.k, .string (ba x.1.t), .int .i64 (x.2 : Int), .int .i64 ((x.2 : Int) + x.1.n), .int .i64 0, .int .i64 ((x.2 : Int) + x.1.n)] else .agg #[.int .i64 0, .string ⟨#[]⟩, .int .i64 0, .int .i64 0, .int .i64 x.1.e, .int .i64 ((x.2 : Int) + x.1.n)]
theorem oneV_st (s : ByteArray) (k : Nat) (h : k < s.size) : oneV s k = .tuple #[stTok (lexone (at_ s k), k), .int .i64 (lexone (at_ s k)).e, .int .i64 ((k : Int) + (lexone (at_ s k)).n)] := by
  have e : oneV s k = loneV (lexone (at_ s k)) k := if_neg (by omega)
  rw [e]
  unfold loneV stTok tkV
  split
  · rename_i h; rw [h]
  · rfl
structure KP (n₁ Bs : Nat) (A B : World) : Prop where
  bel : Below n₁ A B
  box : B.heap[Bs]? = A.heap[Bs]?
theorem KP.refl (n₁ Bs : Nat) (A : World) : KP n₁ Bs A A := ⟨Below.refl _ _, rfl⟩
theorem KP.trans {n₁ Bs : Nat} {A B C : World} (h : KP n₁ Bs A B) (k : KP n₁ Bs B C) : KP n₁ Bs A C := ⟨h.bel.trans k.bel, k.box.trans h.box⟩
theorem KP.of {n₁ Bs : Nat} {A B : World} (hb : Below A.heap.size A B) (h1 : n₁ ≤ A.heap.size) (h2 : Bs < A.heap.size) : KP n₁ Bs A B := ⟨hb.mono h1, hb.block _ h2⟩
set_option maxRecDepth 100000 in
set_option maxHeartbeats 4000000 in
theorem steps1_in (n : Nat) (l Bs : Nat) (s : ByteArray) (hn : 1 ≤ n) (hs : s.size ≤ 1000000) (J Jx : List (LOne × Nat) → World → Prop) (wT W : World) (hT : TE wT) (hlow : Below wT.heap.size wT W) (hJ : AbidesFrom W.heap.size J)
    (hY : ∀ pre x W, J pre W → pre.length < (stepsL (by_ s)).length → YieldAt Fence.wide (n - 1) Tryd.prog l #[stV x] W fun e W' =>
      (e = .returned (.bool true) ∧ J (pre ++ [x]) W' ∧ KP wT.heap.size Bs W W') ∨ (e = .returned (.bool false) ∧ Jx (pre ++ [x]) W'))
    (hBs : W.heap[Bs]? = some (.cells #[.string s] 9 (0, 0))) (h0 : J [] W) :
    CallsIn Fence.wide n Tryd.prog 48 #[.func (.yield l) #[] #[], .pointer (some ⟨Bs, 0, none⟩)] W fun e W' => (∃ v, e = .returned v) ∧
      ((∃ ys, ys = stepsL (by_ s) ∧ J ys W') ∨ (∃ pre, pre <+: stepsL (by_ s) ∧ Jx pre W')) := by
  refine callsIn_of_wp Tryd.func48 rfl trivial ?_ rfl
  simp only [Tryd.ntmps48, List.size_toArray, List.length_cons, List.length_nil, Nat.reduceAdd, Nat.reduceSub, Array.replicate_succ, Array.replicate_zero, List.push_toArray, List.append_toArray, List.nil_append, List.cons_append]
  have hBl := fun (W : World) => blank_any s 0 W hs
  have hBc := cell_of_one hBs
  have hBlt := lt_of_block hBs
  have hle := hlow.size
  rw [blank_nil] at hBl
  gi_wp2_with (refine ⟨trivial, ?_⟩; gi_at_call 12; refine (callsIn_wide.2 (hBl _)).mono ?_; rintro e w0 ⟨rfl, hb0⟩)
  have hsl := bl_le false (by_ s)
  rw [by_length] at hsl
  have h00 := hJ [] W w0 none h0 (grown_of_below hb0) (fun r e => by cases e)
  have hbw0 : KP wT.heap.size Bs W w0 := KP.of hb0 hle hBlt
  have HS : Hid ([] ++ tks (at_ s ((bl false (by_ s) : Nat) : Int)) (bl false (by_ s)) = stepsL (by_ s)) := Lib.hid (by unfold stepsL at_; rw [Int.toNat_natCast]; rfl)
  clear hBl h0 hb0
  obtain ⟨b0, hb0⟩ : ∃ b, bl false (by_ s) = b := ⟨_, rfl⟩
  rw [hb0] at HS hsl ⊢
  clear hb0
  gi_loopw [3] (fun i wr => ∃ (pre : List (LOne × Nat)) (k : Nat), i = .int .i64 k ∧ k ≤ s.size ∧ Hid (pre ++ tks (at_ s k) k = stepsL (by_ s)) ∧ J pre wr ∧ KP wT.heap.size Bs W wr)
    (fun i _ => s.size - (intOf i).toNat)
  case atStart => exact ⟨[], b0, rfl, hsl, HS, h00, hbw0⟩
  case round =>
    obtain ⟨pre, k, rfl, hk, hpre, hJs, hbw⟩ := hrel
    have hbxr := hbw.box.trans hBs
    have hcx : wr.cell? ⟨Bs, 0, none⟩ = some (.string s) := cell_of_one hbxr
    have hblt := lt_of_block hbxr
    have hsz1 : wT.heap.size ≤ wr.heap.size := Nat.le_trans hle hbw.bel.size
    clear HS h00 hbw0 hsl
    by_cases hlt : k < s.size
    · have hal := at_length s k (by omega) (by omega)
      have hne : at_ s k ≠ [] := fun e => by rw [e] at hal; simp at hal; omega
      have hO := one_any s k wr hs (hT.low (hlow.trans hbw.bel))
      rw [oneV_st s k hlt] at hO
      have HO := Lib.hid hO
      have hcs := fun (w' : World) (hbn : Below wr.heap.size wr w') => (hbn.cell (p := ⟨Bs, 0, none⟩) hblt).trans hcx
      by_cases he : (lexone (at_ s k)).e = 0
      · obtain ⟨p1, p2⟩ := one_step he
        have hts := tks_step k hne he
        have hnx : (at_ s k).drop (lexone (at_ s k)).n = at_ s ((k + (lexone (at_ s k)).n : Nat) : Int) := by
          rw [← at_add s k _ (by omega)]; congr 1
        obtain ⟨q, hq⟩ : ∃ q, lexone (at_ s k) = q := ⟨_, rfl⟩
        rw [hq] at hO HO he p1 p2 hts hnx
        have hkn : k + q.n ≤ s.size := by omega
        have hBn := fun (W : World) => blank_any s ((k + q.n : Nat) : Int) W hs
        have ebn : blank s ((k + q.n : Nat) : Int) = (((k + q.n + bl false (at_ s ((k + q.n : Nat) : Int))) : Nat) : Int) := by
          unfold blank; rw [if_pos ⟨by omega, by omega⟩]; omega
        have hbl := bl_le false (at_ s ((k + q.n : Nat) : Int))
        have hal2 := at_length s ((k + q.n : Nat) : Int) (by omega) (by omega)
        rw [ebn] at hBn
        rw [hnx] at hts
        have hnx2 : (at_ s ((k + q.n : Nat) : Int)).drop (bl false (at_ s ((k + q.n : Nat) : Int))) = at_ s ((k + q.n + bl false (at_ s ((k + q.n : Nat) : Int)) : Nat) : Int) := by
          rw [← at_add s ((k + q.n : Nat) : Int) _ (by omega)]; congr 1
        rw [hnx2] at hts
        obtain ⟨b, hbb⟩ : ∃ b, bl false (at_ s ((k + q.n : Nat) : Int)) = b := ⟨_, rfl⟩
        rw [hbb] at hBn hts hbl
        have hp2 : pre ++ [(q, k)] ++ tks (at_ s ((k + q.n + b : Nat) : Int)) (k + q.n + b) = stepsL (by_ s) := by rw [← hpre.out, hts, List.append_assoc]; rfl
        have hle2 : k + q.n + b ≤ s.size := by omega
        have HP := Lib.hid hp2
        have hst : stV (q, k) = .agg #[.int .i64 q.k, .string (ba q.t), .int .i64 (k : Int), .int .i64 ((k : Int) + q.n), .int .i64 0, .int .i64 ((k : Int) + q.n)] := if_pos he
        have hY' := fun (Wy : World) (hj : J pre Wy) => hY pre (q, k) Wy hj (by rw [← hp2]; simp)
        rw [hst] at hY'
        have HY := Lib.hid hY'
        unfold stTok at HO
        rw [if_pos he, he] at HO
        clear hp2 hpre hY hY' hO hts hnx hnx2 hst hne hal hal2 hbb hq hbl
        gi_wp2_with (refine ⟨trivial, ?_⟩; gi_at_call 13; refine (callsIn_wide.2 HO.out).mono ?_; rintro e w' ⟨rfl, hbn⟩; have hcx2 := hcs w' hbn; have hba := hbn.alloc hbn.size (.cells #[.int .i64 q.k, .string (ba q.t), .int .i64 (k : Int), .int .i64 ((k : Int) + q.n)] 28); have hJ2 := hJ pre wr _ none hJs (grown_of_below hba) (fun r e => by cases e); have hbw2 := hbw.trans (KP.of hba hsz1 hblt); have hcx3 := hcs _ hba; obtain ⟨fn, tmps, assign, body, hyy, hRR⟩ := HY.out _ hJ2)
        refine hRR.mono ?_
        rintro e1 W3 (⟨rfl, hJ3, hk3⟩ | ⟨rfl, hJx3⟩)
        · have hbw3 := hbw2.trans hk3
          have hbx3 := hbw3.box.trans hBs
          have hc3 : W3.cell? ⟨Bs, 0, none⟩ = some (.string s) := cell_of_one hbx3
          have hblt3 := lt_of_block hbx3
          clear hcx2 hcx3 hcx
          gi_wp2_with (refine ⟨trivial, ?_⟩; gi_at_call 12; refine (callsIn_wide.2 (hBn _)).mono ?_; rintro e w4 ⟨rfl, hb4⟩)
          go_roundw
          case rel => exact ⟨_, k + q.n + b, by go_num, hle2, HP, hJ _ W3 w4 none hJ3 (grown_of_below hb4) (fun r e => by cases e), hbw3.trans (KP.of hb4 (Nat.le_trans hle hbw3.bel.size) hblt3)⟩
          case measure => simp [intOf]; omega
        · gi_wp2
          refine bodyPost_ret (results_none rfl _ _ _) rfl ?_
          exact ⟨⟨_, rfl⟩, .inr ⟨_, ⟨_, HP.out⟩, hJx3⟩⟩
      · have hts := tks_bad k hne he
        obtain ⟨q, hq⟩ : ∃ q, lexone (at_ s k) = q := ⟨_, rfl⟩
        rw [hq] at hO HO he hts
        have hp2 : pre ++ [(q, k)] = stepsL (by_ s) := by rw [← hpre.out, hts]
        have HP := Lib.hid hp2
        have hst : stV (q, k) = .agg #[.int .i64 0, .string ⟨#[]⟩, .int .i64 0, .int .i64 0, .int .i64 q.e, .int .i64 ((k : Int) + q.n)] := if_neg he
        have hY' := fun (Wy : World) (hj : J pre Wy) => hY pre (q, k) Wy hj (by rw [← hp2]; simp)
        rw [hst] at hY'
        have HY := Lib.hid hY'
        unfold stTok at HO
        rw [if_neg he] at HO
        have u1 : (q.e == 0) = false := beq_eq_false_iff_ne.2 he
        have u2 : (q.e != 0) = true := bne_iff_ne.2 he
        clear hp2 hpre hY hY' hO hts hst hne hal hq he
        gi_wp2_with (refine ⟨trivial, ?_⟩; gi_at_call 13; refine (callsIn_wide.2 HO.out).mono ?_; rintro e w' ⟨rfl, hbn⟩; have hcx2 := hcs w' hbn; have hba := hbn.alloc hbn.size (.cells #[.int .i64 0, .string ⟨#[]⟩, .int .i64 0, .int .i64 0] 28); have hJ2 := hJ pre wr _ none hJs (grown_of_below hba) (fun r e => by cases e); have hbw2 := hbw.trans (KP.of hba hsz1 hblt); have hcx3 := hcs _ hba; obtain ⟨fn, tmps, assign, body, hyy, hRR⟩ := HY.out _ hJ2)
        refine hRR.mono ?_
        rintro e1 W3 (⟨rfl, hJ3, hk3⟩ | ⟨rfl, hJx3⟩)
        · gi_wp2
          refine bodyPost_ret (results_none rfl _ _ _) rfl ?_
          exact ⟨⟨_, rfl⟩, .inl ⟨_, HP.out, hJ3⟩⟩
        · gi_wp2
          refine bodyPost_ret (results_none rfl _ _ _) rfl ?_
          exact ⟨⟨_, rfl⟩, .inr ⟨_, ⟨[], by rw [List.append_nil]; exact HP.out⟩, hJx3⟩⟩
    · obtain rfl : k = s.size := by omega
      have hp2 : pre = stepsL (by_ s) := by rw [← hpre.out, at_nil s _ (by omega), tks_nil, List.append_nil]
      have HP := Lib.hid hp2
      clear hp2 hpre hY
      gi_wp2
      go_end0
      exact ⟨⟨_, rfl⟩, .inl ⟨_, HP.out, hJs⟩⟩
theorem steps_stops (n Bs : Nat) (s : ByteArray) (hn : 1 ≤ n) (hs : s.size ≤ 1000000) (wT w : World) (hT : TE wT) (hlow : Below wT.heap.size wT w) (hc : w.heap[Bs]? = some (.cells #[.string s] 9 (0, 0))) :
    SeqStopsK Fence.wide n Tryd.prog 48 #[.pointer (some ⟨Bs, 0, none⟩)] (fun x : LOne × Nat => #[stV x]) (KP wT.heap.size Bs) (fun ys => ys = stepsL (by_ s)) (fun pre => pre <+: stepsL (by_ s)) (stepsL (by_ s)).length w :=
  fun l J Jx W hW hJ _ hY h0 => steps1_in n l Bs s hn hs J Jx wT W hT (hlow.trans (hW.mono hlow.size)) hJ hY ((hW.block _ (lt_of_block hc)).trans hc) h0
theorem steps_in (n : Nat) (s : ByteArray) (w : World) :
    CallsIn Fence.wide n Tryd.prog 24 #[.string s] w fun e w' => e = .returned (.func (.func 48) #[] #[.pointer (some ⟨w.heap.size, 0, none⟩)]) ∧ w' = w.alloc (.cells #[.string s] 9) := by
  refine callsIn_of_wp Tryd.func24 rfl trivial ?_ rfl
  simp only [Tryd.ntmps24, List.size_toArray, List.length_cons, List.length_nil, Nat.reduceAdd, Nat.reduceSub, Array.replicate_succ, Array.replicate_zero, List.push_toArray, List.append_toArray, List.nil_append, List.cons_append]
  gi_wp2
  go_ret
  exact ⟨rfl, rfl⟩
end Go.Proofs.YtjgpmfjkcioinaaDoor.G
