/-
  'real.Real': the walk.
-/
import Derived.Test.YtchbmihhkjpkaaaDoorC3a
namespace Go.Proofs.YtchbmihhkjpkaaaDoor.G
open Go.RowKit Go.Proofs.YtchbmihhkjpkaaaDoorW.PrintWords Go.Proofs.YtchbmihhkjpkaaaDoorW.PrintLast Go.Proofs.YtchbmihhkjpkaaaDoorW.PrintMore Go.Proofs.YtchbmihhkjpkaaaDoor.M
attribute [local go_sem] max2_int min2_int max_two min_two
set_option linter.unusedVariables false
set_option linter.unusedSimpArgs false

set_option maxHeartbeats 3200000 in
set_option maxRecDepth 100000 in
theorem real_in (s t : ByteArray) (minus : Bool) (w : World) (hs : s.size ≤ 140737488351232) (ht : t.size ≤ s.size)
    (hcut : ∀ W : World, Calls Tryd.prog 23 #[.string s, .string ⟨#[45]⟩] W fun e w' => e = .returned (.tuple #[.string t, .bool minus]) ∧ w' = W) :
    Calls Tryd.prog 12 #[.string s] w (ROut w (stageA t minus)) := by
  obtain ⟨T, hT⟩ : ∃ T, stageA t minus = T := ⟨_, rfl⟩
  rw [hT]
  have HT := Lib.hid hT
  clear hT
  go_enter Tryd.func12, Tryd.ntmps12
  go_upto_region 5 with (go_at_call 23; (with_reducible refine (hcut _).mono ?_); rintro e W1 ⟨rfl, rfl⟩)
  have hst : RSt W1 ((W1.alloc (Obj.cells #[Value.string t] 9)).alloc (Obj.cells #[Value.int IntKind.i64 0] 3)) (W1.heap.size + 1) W1.heap.size t ((0 : Nat) : Int) :=
    ⟨((Below.refl _ W1).alloc (Nat.le_refl _) _).alloc (by simp) _, by omega, by omega, by omega,
      by have := heap_alloc_new (W1.alloc (Obj.cells #[Value.string t] 9)) (Obj.cells #[Value.int IntKind.i64 0] 3); rw [World.size_alloc] at this; exact this,
      by rw [Below.heap_alloc _ _ _ (by simp)]; exact heap_alloc_new _ _⟩
  have D0 := digits_in W1 _ (W1.heap.size + 1) W1.heap.size t 0 (Nat.zero_le _) (by omega) hst
  have hdl := dig_at_le t 0 (Nat.zero_le _)
  have hb0 : at_ t ((0 : Nat) : Int) = by_ t := at_zero t
  clear hst
  unfold stageA at HT
  rw [← hb0] at HT
  have hxd := digits_ge (l := at_ t ((0 : Nat) : Int)) _ (Nat.le_refl _)
  obtain ⟨d, hd⟩ : ∃ d, dig (at_ t ((0 : Nat) : Int)) = d := ⟨_, rfl⟩
  rw [hd] at hxd
  rw [hd] at D0 hdl HT
  rw [Nat.zero_add] at D0 hdl
  have hwl : by_ (t.extract 0 d) = (at_ t ((0 : Nat) : Int)).take d := by rw [hb0, by_extract, List.drop_zero]
  rw [← hwl] at HT hxd
  have hxs : (t.extract 0 d).size ≤ t.size := by rw [ByteArray.size_extract]; omega
  obtain ⟨x, hx⟩ : ∃ x, t.extract 0 d = x := ⟨_, rfl⟩
  rw [hx] at HT D0 hxs hxd
  have HXD := Lib.hid hxd
  clear hxd
  clear hx hwl hd hb0
  have HI := Lib.hid (fun (W : World) (H : RSt W1 W (W1.heap.size + 1) W1.heap.size t d) => is_in W1 W (W1.heap.size + 1) W1.heap.size t d ⟨#[46]⟩ hdl (by omega) H)
  obtain ⟨bd, hbd⟩ : ∃ b, isC t d [46] = b := ⟨_, rfl⟩
  have hbd' : isC t d (⟨#[46]⟩ : ByteArray).data.toList = bd := hbd
  rw [hbd'] at HI
  go_upto_if 34 with (first
    | (go_at_call 24; (with_reducible refine D0.mono ?_); rintro e W2 ⟨rfl, H2⟩; clear D0)
    | (go_at_call 25; (with_reducible refine (HI.out _ H2).mono ?_); rintro e W3 ⟨rfl, H3⟩; clear HI))
  go_cut [9, 11] (fun v9 v11 wc => ∃ (pt : ByteArray) (fine : Bool) (n : Nat), v9 = .string pt ∧ v11 = .bool fine ∧ n ≤ t.size ∧ pt.size ≤ t.size ∧ RSt W1 wc (W1.heap.size + 1) W1.heap.size t n ∧ Hid (∀ c ∈ by_ pt, 48 ≤ c ∧ c ≤ 57) ∧ Hid (stageC t minus (by_ x) (by_ pt) fine n = T))
  case first =>
    cases bd with
    | false =>
      go_wp2_with fail
      go_meet
      case rel => exact ⟨⟨#[]⟩, _, d, rfl, rfl, hdl, Nat.zero_le _, H3, Lib.hid (fun c hc => by cases hc), Lib.hid (by rw [← HT.out, ne_it]; unfold stageB; rw [if_neg (by rw [hbd]; decide)]; rfl)⟩
    | true =>
      have hlt := isC_lt hbd
      have hdl2 := dig_at_le t (d + 1) (by omega)
      have D1 := digits_in W1 _ (W1.heap.size + 1) W1.heap.size t (d + 1) (by omega) (by omega) H3
      have HT2 : Hid (stageC t minus (by_ x) ((at_ t ((d + 1 : Nat) : Int)).take (dig (at_ t ((d + 1 : Nat) : Int)))) (decide (0 < (by_ x).length) && decide (0 < dig (at_ t ((d + 1 : Nat) : Int)))) (d + 1 + dig (at_ t ((d + 1 : Nat) : Int))) = T) := Lib.hid (by rw [← HT.out]; unfold stageB; rw [if_pos hbd])
      clear HT
      have hpd := Lib.hid (digits_ge (l := at_ t ((d + 1 : Nat) : Int)) _ (Nat.le_refl _))
      obtain ⟨d2, hd2⟩ : ∃ k, dig (at_ t ((d + 1 : Nat) : Int)) = k := ⟨_, rfl⟩
      rw [hd2] at D1 hdl2 HT2 hpd
      have hpt : by_ (t.extract (d + 1) (d + 1 + d2)) = (at_ t ((d + 1 : Nat) : Int)).take d2 := by
        rw [by_extract, List.drop_take]; unfold at_; rw [Int.toNat_natCast, Nat.add_sub_cancel_left]
      have hps : (t.extract (d + 1) (d + 1 + d2)).size = d2 := by rw [ByteArray.size_extract]; omega
      rw [← hpt] at HT2 hpd
      obtain ⟨y, hy⟩ : ∃ y, t.extract (d + 1) (d + 1 + d2) = y := ⟨_, rfl⟩
      rw [hy] at HT2 D1 hps hpd
      have hny := ne_it y
      rw [by_length, hps] at hny
      have hnx := ne_it x
      rw [← hny, ← hnx] at HT2
      clear hy hpt hd2 hbd hny hnx hbd'
      obtain ⟨f0, hf0⟩ : ∃ f, x.toList.isEmpty = f := ⟨_, rfl⟩
      rw [hf0] at HT2 ⊢
      clear hf0
      cases f0 with
      | true =>
        go_wp2_with (go_at_call 24; (with_reducible refine D1.mono ?_); rintro e W4 ⟨rfl, H4⟩; clear D1)
        go_meet
        case rel => exact ⟨y, _, d + 1 + d2, rfl, rfl, hdl2, by omega, H4, hpd, HT2⟩
      | false =>
        go_wp2_with (go_at_call 24; (with_reducible refine D1.mono ?_); rintro e W4 ⟨rfl, H4⟩; clear D1)
        go_meet
        case rel => exact ⟨y, _, d + 1 + d2, rfl, rfl, hdl2, by omega, H4, hpd, HT2⟩
  case rest =>
    clear HT hbd hbd' H3 hdl
    obtain ⟨pt, fine, n, rfl, rfl, hn, hpz, H3, HPD, HT⟩ := hcut
    have HI := Lib.hid (is_in W1 _ (W1.heap.size + 1) W1.heap.size t n ⟨#[101, 69]⟩ hn (by omega) H3)
    obtain ⟨be, hbe⟩ : ∃ b, isC t n [101, 69] = b := ⟨_, rfl⟩
    have hbe' : isC t n (⟨#[101, 69]⟩ : ByteArray).data.toList = be := hbe
    rw [hbe'] at HI
    clear hbe' H3
    go_upto_if 43 with (go_at_call 25; (with_reducible refine HI.out.mono ?_); rintro e W4 ⟨rfl, H4⟩; clear HI)
    go_cut [10, 11] (fun v10 v11 wd => ∃ (xv : Int) (f2 : Bool) (n2 : Nat), v10 = .int .i64 xv ∧ v11 = .bool f2 ∧ n2 ≤ t.size ∧ -1000000 ≤ xv ∧ xv ≤ 1000000 ∧ RSt W1 wd (W1.heap.size + 1) W1.heap.size t n2 ∧ Hid (fin_ minus (by_ x) (by_ pt) xv (f2 && decide (n2 = t.size)) = T))
    case first =>
      cases be with
      | false =>
        go_wp2_with fail
        go_meet
        case rel => exact ⟨0, fine, n, rfl, rfl, hn, by omega, by omega, H4, Lib.hid (by rw [← HT.out]; unfold stageC; rw [if_neg (by rw [hbe]; decide)])⟩
      | true =>
        have hlt := isC_lt hbe
        have HT2 : Hid (stageD t minus (by_ x) (by_ pt) fine (n + 1) = T) := Lib.hid (by rw [← HT.out]; unfold stageC; rw [if_pos hbe])
        clear HT hbe
        have HI2 := Lib.hid (is_in W1 _ (W1.heap.size + 1) W1.heap.size t (n + 1) ⟨#[45]⟩ (by omega) (by omega) H4)
        obtain ⟨dn, hdn⟩ : ∃ b, isC t (n + 1) [45] = b := ⟨_, rfl⟩
        have hdn' : isC t (n + 1) (⟨#[45]⟩ : ByteArray).data.toList = dn := hdn
        rw [hdn'] at HI2
        clear hdn' H4
        go_upto_if 47 with (go_at_call 25; (with_reducible refine HI2.out.mono ?_); rintro e W5 ⟨rfl, H5⟩; clear HI2)
        go_cut [] (fun we => ∃ (n3 : Nat), n3 ≤ t.size ∧ RSt W1 we (W1.heap.size + 1) W1.heap.size t n3 ∧ Hid (stageE t minus (by_ x) (by_ pt) fine dn n3 = T))
        case first =>
          cases dn with
          | true =>
            have hlt2 := isC_lt hdn
            go_wp2_with fail
            go_meet
            case rel => exact ⟨n + 1 + 1, by omega, H5, Lib.hid (by rw [← HT2.out]; unfold stageD; rw [if_pos hdn])⟩
          | false =>
            have HI3 := Lib.hid (is_in W1 _ (W1.heap.size + 1) W1.heap.size t (n + 1) ⟨#[43]⟩ (by omega) (by omega) H5)
            obtain ⟨pl, hpl⟩ : ∃ b, isC t (n + 1) [43] = b := ⟨_, rfl⟩
            have hpl' : isC t (n + 1) (⟨#[43]⟩ : ByteArray).data.toList = pl := hpl
            rw [hpl'] at HI3
            clear hpl' H5
            go_wp2_with (go_at_call 25; (with_reducible refine HI3.out.mono ?_); rintro e W6 ⟨rfl, H6⟩; clear HI3)
            go_meet
            case rel => exact ⟨mvN (n + 1) pl, by
              cases pl with
              | true => have := isC_lt hpl; show n + 1 + 1 ≤ _; omega
              | false => show n + 1 ≤ _; omega, H6, Lib.hid (by rw [← HT2.out]; unfold stageD; rw [if_neg (by rw [hdn]; decide), hpl])⟩
        case rest =>
          clear HT2 hdn H5
          obtain ⟨n3, hn3, H6, HT3⟩ := hcut
          have hdl3 := dig_at_le t n3 hn3
          have D3 := digits_in W1 _ (W1.heap.size + 1) W1.heap.size t n3 hn3 (by omega) H6
          unfold stageE at HT3
          have hdg := Lib.hid (digits_ge (l := at_ t (n3 : Int)) _ (Nat.le_refl _))
          obtain ⟨d3, hd3⟩ : ∃ k, dig (at_ t (n3 : Int)) = k := ⟨_, rfl⟩
          rw [hd3] at D3 hdl3 HT3 hdg
          have hl : by_ (t.extract n3 (n3 + d3)) = (at_ t (n3 : Int)).take d3 := by
            rw [by_extract, List.drop_take]; unfold at_; rw [Int.toNat_natCast, Nat.add_sub_cancel_left]
          have hls : (t.extract n3 (n3 + d3)).size = d3 := by rw [ByteArray.size_extract]; omega
          rw [← hl] at HT3 hdg
          obtain ⟨l, hle⟩ : ∃ y, t.extract n3 (n3 + d3) = y := ⟨_, rfl⟩
          rw [hle] at HT3 D3 hls hdg
          have hny := ne_it l
          rw [by_length, hls] at hny
          rw [← hny] at HT3
          clear hle hl hd3 hny H6
          cases fine
          all_goals
            go_upto_region 17 with (go_at_call 24; (with_reducible refine D3.mono ?_); rintro e W7 ⟨rfl, H7⟩; clear D3)
            have hcv := fun (W : World) => Lib.run_convert_string_bytes (P := Tryd.prog) W 9 30 5 l Tryd.underlying9 Tryd.underlying30 Tryd.underlying5
            have hcell : ∀ j, j < l.size → (Lib.bytesWorld W7 5 l).cell? ⟨W7.heap.size, j, none⟩ = some (.int .u8 (bt l j)) := fun j hj => by rw [bt_getD l j hj]; exact Lib.bytesWorld_cell W7 5 l j hj
            have H8 := H7.later (Joins.below_bytesWorld W7.heap.size W7 5 l (Nat.le_refl _))
            go_wp2_with fail
            obtain ⟨W8, hW⟩ : ∃ W, Lib.bytesWorld W7 5 l = W := ⟨_, rfl⟩
            rw [hW] at hcell H8 ⊢
            have HX := Lib.hid hcell
            clear hW hcv hcell
            go_loop [10, 60] (fun xv jv => ∃ (j : Nat) (m : Int), jv = .int .i64 j ∧ xv = .int .i64 m ∧ j ≤ l.size ∧ 0 ≤ m ∧ m ≤ 1000000 ∧ Hid ((at_ l j).foldl stepS m = sat (by_ l))) (fun _ jv => l.size - (intOf jv).toNat)
            case atStart => exact ⟨0, 0, rfl, rfl, Nat.zero_le _, by omega, by omega, Lib.hid (by rw [show ((0 : Nat) : Int) = 0 from rfl, at_zero]; rfl)⟩
            case round =>
              obtain ⟨j, m, rfl, rfl, hj, hm0, hm1, hfo⟩ := hrel
              by_cases hlt : j < l.size
              · have hx := HX.out j hlt
                have hc1 := hdg.out (bt l j) (List.mem_of_getElem? (bt_by l j (by omega)))
                have hcons := at_cons l j (by omega) (by omega)
                have hfo2 : Hid ((at_ l ((j + 1 : Nat) : Int)).foldl stepS (stepS m (bt l j)) = sat (by_ l)) := Lib.hid (by rw [← hfo.out, hcons]; rfl)
                obtain ⟨c, hc⟩ : ∃ c, bt l j = c := ⟨_, rfl⟩
                rw [hc] at hx hc1 hfo2
                clear hc hcons hfo
                by_cases hq : 10 * m + (c - 48) < 1000000
                · have e : stepS m c = 10 * m + (c - 48) := by unfold stepS; omega
                  rw [e] at hfo2
                  clear e
                  go_wp2
                  exact ⟨⟨j + 1, _, rfl, rfl, by omega, by omega, by omega, hfo2⟩, by show l.size - ((j : Int) + 1).toNat < l.size - ((j : Nat) : Int).toNat; omega⟩
                · have e : stepS m c = 1000000 := by unfold stepS; omega
                  rw [e] at hfo2
                  clear e
                  go_wp2
                  exact ⟨⟨j + 1, _, rfl, rfl, by omega, by omega, by omega, hfo2⟩, by show l.size - ((j : Int) + 1).toNat < l.size - ((j : Nat) : Int).toNat; omega⟩
              · obtain rfl : j = l.size := by omega
                have hfo3 : m = sat (by_ l) := by
                  have := hfo.out
                  rw [at_nil l l.size (by omega)] at this
                  exact this
                clear hfo
                cases dn
                all_goals
                  go_wp2
                  go_meet
                  case rel => exact ⟨_, _, n3 + d3, rfl, rfl, hdl3, by omega, by omega, H8, HT3⟩
    case rest =>
      obtain ⟨xv, f2, n2, rfl, rfl, hn2, hx0, hx1, H9, HT9⟩ := hcut
      clear HT
      have c1 := cell_of_one H9.ha
      have c2 := cell_of_one H9.hp
      have hbel := H9.below
      have hN := nan_any
      clear H9
      unfold fin_ at HT9
      cases f2 with
      | false =>
        have hT : NANF = T := HT9.out
        clear HT9
        go_wp2_with (go_at_call 27; refine (hN _).mono ?_; rintro e w' ⟨rfl, rfl⟩)
        go_ret
        subst hT
        exact ⟨rfl, hbel⟩
      | true =>
        by_cases hfull : n2 = t.size
        · have hxp : (x ++ pt).size ≤ 281474976710656 := by rw [ByteArray.size_append]; omega
          have hps : pt.size ≤ 140737488351232 := by omega
          obtain ⟨mm, hM⟩ : ∃ M : ByteArray, (⟨(Lib.trimLeftB (x ++ pt).data.toList 48).toArray⟩ : ByteArray) = M := ⟨_, rfl⟩
          have hMb : by_ mm = noZero (by_ x ++ by_ pt) := by rw [← hM, trim0, by_append]
          have hMs : mm.size ≤ (x ++ pt).size := by
            have h1 : (by_ mm).length ≤ (by_ (x ++ pt)).length := by rw [hMb, ← by_append]; exact (List.dropWhile_suffix _).sublist.length_le
            rw [by_length, by_length] at h1; exact h1
          rw [ByteArray.size_append] at hMs
          have hTL := fun (W : World) => Tryd.strings_TrimLeft_one (x ++ pt) 48 (by decide) W
          simp only [hM] at hTL
          have HT10 : sgv (Go.Proofs.YtchbmihhkjpkaaaDoor.M.valOf (by_ mm) (xv - pt.size)) minus = T := by rw [hMb, ← by_length pt]; have := HT9.out; rw [decide_eq_true hfull] at this; exact this
          have HMD : Hid (∀ c ∈ by_ mm, 48 ≤ c ∧ c ≤ 57) := Lib.hid (fun c hc => by
            rw [hMb] at hc
            rcases List.mem_append.1 ((List.dropWhile_suffix _).subset hc) with hc | hc
            · exact HXD.out c hc
            · exact HPD.out c hc)
          clear HT9 hM hMb
          have hS0 := fun (W : World) => signed_any 0 minus W (by decide)
          have hSI := fun (W : World) => signed_any 9218868437227405312 minus W (by decide)
          have hI := fun (W : World) => inf_any W
          have hne : (by_ mm = []) ↔ mm.size = 0 := by rw [← by_length]; exact List.length_eq_zero_iff.symm
          have hlen := by_length mm
          unfold Go.Proofs.YtchbmihhkjpkaaaDoor.M.valOf at HT10
          rw [hlen] at HT10
          by_cases k0 : mm.size = 0
          · rw [if_pos (hne.2 k0)] at HT10
            have hT : (if minus = true then flip 0 else 0) = T := HT10
            clear HT10 hne hlen
            obtain ⟨g, hg⟩ : ∃ g, (if minus = true then flip 0 else 0) = g := ⟨_, rfl⟩
            rw [hg] at hT
            simp only [hg] at hS0
            clear hg
            go_wp2_with (first
              | (go_at_call 28; refine (hTL _).mono ?_; rintro e w' ⟨rfl, rfl⟩)
              | (go_at_call 29; refine (hS0 _).mono ?_; rintro e w2 ⟨rfl, rfl⟩))
            go_ret
            subst hT
            exact ⟨rfl, hbel⟩
          rw [if_neg (fun q => k0 (hne.1 q))] at HT10
          by_cases k1 : (mm.size : Int) + (xv - pt.size) > 400
          · rw [if_pos k1] at HT10
            have hT : (if minus = true then flip 9218868437227405312 else 9218868437227405312) = T := HT10
            clear HT10 hne hlen
            obtain ⟨g, hg⟩ : ∃ g, (if minus = true then flip 9218868437227405312 else 9218868437227405312) = g := ⟨_, rfl⟩
            rw [hg] at hT
            simp only [hg] at hSI
            clear hg
            go_wp2_with (first
              | (go_at_call 28; refine (hTL _).mono ?_; rintro e w' ⟨rfl, rfl⟩)
              | (go_at_call 30; refine (hI _).mono ?_; rintro e w2 ⟨rfl, rfl⟩)
              | (go_at_call 29; refine (hSI _).mono ?_; rintro e w3 ⟨rfl, rfl⟩))
            go_ret
            subst hT
            exact ⟨rfl, hbel⟩
          rw [if_neg k1] at HT10
          by_cases k2 : (mm.size : Int) + (xv - pt.size) < -400
          · rw [if_pos k2] at HT10
            have hT : (if minus = true then flip 0 else 0) = T := HT10
            clear HT10 hne hlen
            obtain ⟨g, hg⟩ : ∃ g, (if minus = true then flip 0 else 0) = g := ⟨_, rfl⟩
            rw [hg] at hT
            simp only [hg] at hS0
            clear hg
            go_wp2_with (first
              | (go_at_call 28; refine (hTL _).mono ?_; rintro e w' ⟨rfl, rfl⟩)
              | (go_at_call 29; refine (hS0 _).mono ?_; rintro e w2 ⟨rfl, rfl⟩))
            go_ret
            subst hT
            exact ⟨rfl, hbel⟩
          rw [if_neg k2] at HT10
          by_cases k3 : 15 < mm.size
          · rw [if_pos (.inl k3)] at HT10
            have hT : NANF = T := HT10
            clear HT10 hne hlen
            go_wp2_with (first
              | (go_at_call 28; refine (hTL _).mono ?_; rintro e w' ⟨rfl, rfl⟩)
              | (go_at_call 27; refine (hN _).mono ?_; rintro e w2 ⟨rfl, rfl⟩))
            go_ret
            subst hT
            exact ⟨rfl, hbel⟩
          by_cases k4 : xv - pt.size < -22
          · rw [if_pos (.inr (.inl k4))] at HT10
            have hT : NANF = T := HT10
            clear HT10 hne hlen
            go_wp2_with (first
              | (go_at_call 28; refine (hTL _).mono ?_; rintro e w' ⟨rfl, rfl⟩)
              | (go_at_call 27; refine (hN _).mono ?_; rintro e w2 ⟨rfl, rfl⟩))
            go_ret
            subst hT
            exact ⟨rfl, hbel⟩
          by_cases k5 : 22 < xv - pt.size
          · rw [if_pos (.inr (.inr k5))] at HT10
            have hT : NANF = T := HT10
            clear HT10 hne hlen
            go_wp2_with (first
              | (go_at_call 28; refine (hTL _).mono ?_; rintro e w' ⟨rfl, rfl⟩)
              | (go_at_call 27; refine (hN _).mono ?_; rintro e w2 ⟨rfl, rfl⟩))
            go_ret
            subst hT
            exact ⟨rfl, hbel⟩
          rw [if_neg (by omega)] at HT10
          have hcv := fun (W : World) => Lib.run_convert_string_bytes (P := Tryd.prog) W 9 30 5 mm Tryd.underlying9 Tryd.underlying30 Tryd.underlying5
          go_wp2_with (go_at_call 28; refine (hTL _).mono ?_; rintro e w' ⟨rfl, rfl⟩)
          have hcell : ∀ j, j < mm.size → (Lib.bytesWorld w' 5 mm).cell? ⟨w'.heap.size, j, none⟩ = some (.int .u8 (bt mm j)) := fun j hj => by rw [bt_getD mm j hj]; exact Lib.bytesWorld_cell w' 5 mm j hj
          have hbel2 := hbel.trans (Joins.below_bytesWorld W1.heap.size w' 5 mm hbel.size)
          obtain ⟨W9, hW⟩ : ∃ W, Lib.bytesWorld w' 5 mm = W := ⟨_, rfl⟩
          rw [hW] at hcell hbel2 ⊢
          have HX := Lib.hid hcell
          clear hW hcv hcell
          go_loop [18, 129] (fun fv jv => ∃ (j : Nat) (f : Nat), jv = .int .i64 j ∧ fv = .float .f64 f ∧ j ≤ mm.size ∧ Hid (Go.Proofs.YtchbmihhkjpkaaaDoor.M.Good f) ∧ Hid ((at_ mm j).foldl stepF f = dv (by_ mm))) (fun _ jv => mm.size - (intOf jv).toNat)
          case atStart => exact ⟨0, 0, rfl, rfl, Nat.zero_le _, Lib.hid good_zero, Lib.hid (by rw [show ((0 : Nat) : Int) = 0 from rfl, at_zero]; rfl)⟩
          case round =>
            obtain ⟨j, f, rfl, rfl, hj, hgf, hfo⟩ := hrel
            by_cases hlt : j < mm.size
            · have hx := HX.out j hlt
              have hc1 := HMD.out (bt mm j) (List.mem_of_getElem? (bt_by mm j (by omega)))
              have hcons := at_cons mm j (by omega) (by omega)
              have hfo2 : Hid ((at_ mm ((j + 1 : Nat) : Int)).foldl stepF (stepF f (bt mm j)) = dv (by_ mm)) := Lib.hid (by rw [← hfo.out, hcons]; rfl)
              obtain ⟨c, hc⟩ : ∃ c, bt mm j = c := ⟨_, rfl⟩
              rw [hc] at hx hc1 hfo2
              clear hc hcons hfo
              obtain ⟨g, q1, q2, q3, q4⟩ := step_ok hgf.out hc1.1
              have HG := Lib.hid q4
              obtain ⟨f', hf'⟩ : ∃ f', stepF f c = f' := ⟨_, rfl⟩
              rw [hf'] at q3 HG hfo2
              have m1 := fun (W : World) => run_float_arith (P := Tryd.prog) W .mul 22 .f64 4621819117588971520 f g q1
              have m2 := fun (W : World) => run_float_arith (P := Tryd.prog) W .add 22 .f64 g (floatOfInt .f64 (c - 48)) f' q3
              clear q1 q2 q3 q4 hf'
              go_wp2
              exact ⟨⟨j + 1, _, rfl, rfl, by omega, HG, hfo2⟩, by show mm.size - ((j : Int) + 1).toNat < mm.size - ((j : Nat) : Int).toNat; omega⟩
            · obtain rfl : j = mm.size := by omega
              have hfv : f = dv (by_ mm) := by
                have := hfo.out
                rw [at_nil mm mm.size (by omega)] at this
                exact this
              have HFV := Lib.hid hfv
              clear hfo hfv HX
              by_cases hneg : xv - pt.size < 0
              · have hmx : (if xv - (pt.size : Int) < -(xv - (pt.size : Int)) then -(xv - (pt.size : Int)) else xv - (pt.size : Int)) = -(xv - (pt.size : Int)) := if_pos (by omega)
                go_wp2
                go_loop [19, 144] (fun pv jv => ∃ (k : Nat), jv = .int .i64 k ∧ pv = .float .f64 (pw k) ∧ (k : Int) ≤ -(xv - (pt.size : Int))) (fun _ jv => (-(xv - (pt.size : Int))).toNat - (intOf jv).toNat)
                case atStart => exact ⟨0, rfl, rfl, by omega⟩
                case round =>
                  obtain ⟨k, rfl, rfl, hk⟩ := hrel
                  by_cases hkl : (k : Int) < -(xv - (pt.size : Int))
                  · have q1 := pw_step (k := k) (by omega)
                    obtain ⟨a, ha⟩ : ∃ a, pw k = a := ⟨_, rfl⟩
                    obtain ⟨b, hb⟩ : ∃ b, pw (k + 1) = b := ⟨_, rfl⟩
                    rw [ha, hb] at q1
                    rw [ha]
                    have m1 := fun (W : World) => run_float_arith (P := Tryd.prog) W .mul 22 .f64 a 4621819117588971520 b q1
                    have HB := Lib.hid hb
                    clear ha hb q1
                    go_wp2
                    exact ⟨⟨k + 1, rfl, by rw [HB.out], by omega⟩, by show (-(xv - (pt.size : Int))).toNat - ((k : Int) + 1).toNat < (-(xv - (pt.size : Int))).toNat - ((k : Nat) : Int).toNat; omega⟩
                  · have hkk : (-(xv - (pt.size : Int))).toNat = k := by omega
                    obtain ⟨r, q1, q2, q3⟩ := div_ok hgf.out.1 (pw_nz (k := k) (by omega))
                    have hr := lt63 (Ieee.Format.div_lt F64 q1) (q3.trans hgf.out.2)
                    have e : valF (.fin (by_ mm) (xv - pt.size)) = r := by rw [valF_fin, if_pos (by omega), hkk, ← HFV.out, q1]; rfl
                    have hT : (if minus = true then flip r else r) = T := by
                      rw [← HT10, sgv_fin, e]
                    have hS := fun (W : World) => signed_any r minus W hr
                    obtain ⟨g, hg⟩ : ∃ g, (if minus = true then flip r else r) = g := ⟨_, rfl⟩
                    rw [hg] at hT
                    simp only [hg] at hS
                    obtain ⟨a, ha⟩ : ∃ a, pw k = a := ⟨_, rfl⟩
                    rw [ha] at q1
                    rw [ha]
                    have m1 := fun (W : World) => run_float_arith (P := Tryd.prog) W .quo 22 .f64 f a r q1
                    clear q1 q2 q3 e hg ha HT10
                    go_wp2_with (go_at_call 29; refine (hS _).mono ?_; rintro e w2 ⟨rfl, rfl⟩)
                    go_ret
                    subst hT
                    exact ⟨rfl, hbel2⟩
              · have hmx : (if xv - (pt.size : Int) < -(xv - (pt.size : Int)) then -(xv - (pt.size : Int)) else xv - (pt.size : Int)) = xv - (pt.size : Int) := if_neg (by omega)
                go_wp2
                go_loop [19, 144] (fun pv jv => ∃ (k : Nat), jv = .int .i64 k ∧ pv = .float .f64 (pw k) ∧ (k : Int) ≤ (xv - (pt.size : Int))) (fun _ jv => ((xv - (pt.size : Int))).toNat - (intOf jv).toNat)
                case atStart => exact ⟨0, rfl, rfl, by omega⟩
                case round =>
                  obtain ⟨k, rfl, rfl, hk⟩ := hrel
                  by_cases hkl : (k : Int) < (xv - (pt.size : Int))
                  · have q1 := pw_step (k := k) (by omega)
                    obtain ⟨a, ha⟩ : ∃ a, pw k = a := ⟨_, rfl⟩
                    obtain ⟨b, hb⟩ : ∃ b, pw (k + 1) = b := ⟨_, rfl⟩
                    rw [ha, hb] at q1
                    rw [ha]
                    have m1 := fun (W : World) => run_float_arith (P := Tryd.prog) W .mul 22 .f64 a 4621819117588971520 b q1
                    have HB := Lib.hid hb
                    clear ha hb q1
                    go_wp2
                    exact ⟨⟨k + 1, rfl, by rw [HB.out], by omega⟩, by show ((xv - (pt.size : Int))).toNat - ((k : Int) + 1).toNat < ((xv - (pt.size : Int))).toNat - ((k : Nat) : Int).toNat; omega⟩
                  · have hkk : ((xv - (pt.size : Int))).toNat = k := by omega
                    obtain ⟨r, q1, q2, q3⟩ := mul_ok hgf.out.1 (pw_nz (k := k) (by omega))
                    have hr := lt63 (Ieee.Format.mul_lt F64 q1) (q3.trans hgf.out.2)
                    have e : valF (.fin (by_ mm) (xv - pt.size)) = r := by rw [valF_fin, if_neg (by omega), hkk, ← HFV.out, q1]; rfl
                    have hT : (if minus = true then flip r else r) = T := by
                      rw [← HT10, sgv_fin, e]
                    have hS := fun (W : World) => signed_any r minus W hr
                    obtain ⟨g, hg⟩ : ∃ g, (if minus = true then flip r else r) = g := ⟨_, rfl⟩
                    rw [hg] at hT
                    simp only [hg] at hS
                    obtain ⟨a, ha⟩ : ∃ a, pw k = a := ⟨_, rfl⟩
                    rw [ha] at q1
                    rw [ha]
                    have m1 := fun (W : World) => run_float_arith (P := Tryd.prog) W .mul 22 .f64 f a r q1
                    clear q1 q2 q3 e hg ha HT10
                    go_wp2_with (go_at_call 29; refine (hS _).mono ?_; rintro e w2 ⟨rfl, rfl⟩)
                    go_ret
                    subst hT
                    exact ⟨rfl, hbel2⟩
        · have hT : NANF = T := by have := HT9.out; rw [decide_eq_false hfull] at this; exact this
          have hlt9 : n2 < t.size := by omega
          clear HT9
          go_wp2_with (go_at_call 27; refine (hN _).mono ?_; rintro e w' ⟨rfl, rfl⟩)
          go_ret
          subst hT
          exact ⟨rfl, hbel⟩
end Go.Proofs.YtchbmihhkjpkaaaDoor.G
