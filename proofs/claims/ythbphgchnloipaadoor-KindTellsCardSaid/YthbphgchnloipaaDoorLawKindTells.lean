-- Made for this seat by programs of this session (qprint.py, lawcard.py), out of the translation and the given card; Lean checks it.
import Derived.Test.YthbphgchnloipaaDoorRows
import Derived.Test.YthbphgchnloipaaDoorTie
import Derived.Test.YthbphgchnloipaaDoorCards
import Derived.Test.YthbphgchnloipaaDoorPB3
import Derived.Test.YthbphgchnloipaaDoorTK
import Derived.LaidMore
import Derived.Lay
import Derived.SevenTiedAt
import Derived.Stop.Joined
import Derived.Lib.SmallJoins
import Derived.WalkKit
import Derived.ProofKit
import Derived.OpenShut
import Derived.ShutString
import Derived.ChangeOld
import Derived.Below
import Derived.SizedLaws
import Derived.Test.YthbphgchnloipaaDoorWSized
namespace Go.Proofs.YthbphgchnloipaaDoor.kindTells
open Go.ChangeShapes Go.WideShapes Go.ChangeAt Go.RowKit
open Go.ChangeMaps (open_string shut_string)
set_option linter.unusedVariables false
abbrev laidL : List (String × DataW Unit) := [("copperplate/kind.texts", Rows.laid_copperplate_kind_texts)]
theorem own : ownKnob Tryd.prog.godebug = none := by kernel_rfl
theorem laidOut : laidOutB Tryd.prog = true := by kernel_rfl
def IsRow (k : IntKind) (w : World) (a : Option Addr) (len cap : Nat) (zs : List Int) : Prop :=
  (a = none ∧ len = 0 ∧ cap = 0 ∧ zs = []) ∨
  ∃ x, a = some x ∧ len ≤ cap ∧ cap ≤ maxLen ∧ zs.length = cap ∧ (∀ i, i < zs.length → w.cell? (x.add i) = some (.int k (zs.getD i 0))) ∧ ∀ n ∈ zs, (Lit.int k n).wf = true
theorem shutS {H : Type} {enc : TypeId × Value → H} {W : World} {b : Nat} {sp : Nat → Bool} {held : Bool} {s : ByteArray} (ht : Tryd.prog.underlying 9 = some .string) (hs : s.size ≤ maxLen) : DataW.trod enc Tryd.prog W b sp held 1 9 [.string s] = some (.lit (.string s.data.toList), []) := by
  simp [DataW.trod, ht, hs]
set_option maxRecDepth 100000 in
theorem lifted (os : Os) (started : os.Started) (H : Type) (enc : TypeId × Value → H) :
    ReturnsInHanded {} Tryd.checked os 3 .any (fun w args => (Rows.kindTellsSpec.pre enc Tryd.prog Tryd.f3 Rows.kindTellsRow.domain false w args ∧ laidMetH Tryd.prog laidL w) ∧ sizedMet enc Tryd.prog Tryd.f3 (OpenSpec.ofChange Rows.kindTellsSpec) false w args) (Rows.kindTellsSpec.post enc Tryd.prog Tryd.f3 false true false false) := by
  refine returnsInHanded_of_change_and (C := Tryd.checked) (X := fun w _ => laidMetH Tryd.prog laidL w) (fun _ _ _ hh h => h.of_heap hh) own started (by kernel_rfl) Tryd.func3
    (ChangeSpec.witness_shaped (enc := enc) (C := Tryd.checked) (os := os) (X := fun w _ => laidMetH Tryd.prog laidL w) false (World.laidAll Tryd.prog os laidL) #[.agg #[.int .i64 0, .string ByteArray.empty, .int .i64 0, .int .i64 0], .slice none 0 0, .int .i64 0, .int .i64 0] 8 (World.laidAll_os _ _ _)
      (World.shaped_of_ZipB (by kernel_rfl) (by kernel_rfl)) (by kernel_rfl) (by kernel_rfl) (by kernel_rfl)
      (by rw [MakeChecks.laidMetH_plain _ _ _ (by kernel_rfl)]; exact laidMet_laidAll _ (by kernel_rfl) (by kernel_rfl))) ?_
  intro W base args ds gs before hval0 hW hcnd hsz0 hL _
  have hsz : (DataW.weightsEach Tryd.prog (Tryd.f3.params.toList ++ Rows.kindTellsSpec.plain.varTypes Tryd.prog) (ds ++ gs)).all (· ≤ reachBytes) = true := hsz0
  have hval : ∀ (j : Nat) t v, Tryd.f3.params[j]? = some t → args[j]? = some v → Value.okWide Tryd.prog W .any base t v := hval0
  have hW' := hW
  obtain ⟨p, q, hA0, hV, rfl, hfz, hnd⟩ := hW
  have hA : DataW.TrodAll enc Tryd.prog W 0 (fun _ => true) true Tryd.f3.params.toList args.toList ds p := hA0
  rw [Tryd.params3] at hA hval hsz
  obtain ⟨v0, vs0, d0, ds0, p0, q0, hargs, rfl, rfl, h0, r0⟩ := trodAll_cons hA
  obtain ⟨v1, vs1, d1, ds1, p1, q1, rfl, rfl, rfl, h1, r1⟩ := trodAll_cons r0
  obtain ⟨v2, vs2, d2, ds2, p2, q2, rfl, rfl, rfl, h2, r2⟩ := trodAll_cons r1
  obtain ⟨v3, vs3, d3, ds3, p3, q3, rfl, rfl, rfl, h3, r3⟩ := trodAll_cons r2
  obtain ⟨rfl, rfl, rfl⟩ := trodAll_nil r3
  obtain rfl : args = #[v0, v1, v2, v3] := by cases args; simp_all
  obtain ⟨rfl, rfl⟩ := trodVars_none hV
  obtain ⟨c0_0, c0_1, c0_2, c0_3, y0_0, y0_1, y0_2, y0_3, fu0, rfl, rfl, rfl, k0_0, k0_1, k0_2, k0_3⟩ := Joins.open_agg4 Tryd.underlying23 (by kernel_rfl) (by kernel_rfl) (hval 0 23 v0 rfl rfl) h0
  obtain ⟨a0_0, e0_0, z0_0, wf0_0⟩ := DataW.trod_int Tryd.underlying3 k0_0
  obtain ⟨a0_1, e0_1, z0_1, wf0_1⟩ := DataW.trod_string Tryd.underlying9 k0_1
  obtain ⟨a0_2, e0_2, z0_2, wf0_2⟩ := DataW.trod_int Tryd.underlying3 k0_2
  obtain ⟨a0_3, e0_3, z0_3, wf0_3⟩ := DataW.trod_int Tryd.underlying3 k0_3
  cases e0_0; cases e0_1; cases e0_2; cases e0_3; subst z0_0; subst z0_1; subst z0_2; subst z0_3
  have k1 := h1
  have lt1 : ∀ x ∈ p1, x.block < W.heap.size := by obtain ⟨m, hm⟩ := k1; exact DataW.trod_lt m _ _ _ hm
  obtain ⟨a1, cap1, z1, rfl, lc1, w1⟩ := G.open_toks (hval 1 24 v1 rfl rfl) h1
  obtain ⟨a2, rfl, rfl, rfl, w2⟩ := open_int Tryd.underlying3 (hval 2 3 v2 rfl rfl) h2
  obtain ⟨a3, rfl, rfl, rfl, w3⟩ := open_int Tryd.underlying3 (hval 3 3 v3 rfl rfl) h3
  clear hA0 hval0 hsz0 hsz
  refine (Q.copperplatelaw10_KindTells.calls 400 a0_0 a0_1 a0_2 a0_3 a1 cap1 z1 a2 a3 true W w1 lc1 (G.kindTells_pure a0_0 a0_1 a0_2 a0_3 z1 a2 a3) (G.LW.of hL)).mono fun e W' ⟨he, bel⟩ => ?_
  subst he
  exact ⟨_, rfl, _, _, _, [], _, [], hW', trodAll_mk1 (shut_bool Tryd.underlying4 _), (trodAll_cons_mk (Joins.shut_agg4 Tryd.underlying23 (by kernel_rfl) (by kernel_rfl) ⟨1, trod_int_mk 0 Tryd.underlying3 wf0_0⟩ ⟨_, (shutS Tryd.underlying9 wf0_1)⟩ ⟨1, trod_int_mk 0 Tryd.underlying3 wf0_2⟩ ⟨1, trod_int_mk 0 Tryd.underlying3 wf0_3⟩) (trodAll_cons_mk (Below.trod laidOut (by kernel_rfl) (of_decide_eq_true (by kernel_rfl)) k1 bel lt1) (trodAll_cons_mk (shut_int Tryd.underlying3 w2) (trodAll_cons_mk (shut_int Tryd.underlying3 w3) trodAll_mk0)))), rfl, bel.frame _, fun h => by cases h⟩
theorem over : Rows.kindTellsRow.holds Tryd.pinned (OpenSpec.ofChange Rows.kindTellsSpec) :=
  OpenClaim.holds_of_wide 3 Tryd.f3 rfl rfl rfl rfl rfl rfl rfl ⟨rfl, rfl, rfl, rfl, rfl⟩ rfl rfl rfl rfl rfl (by kernel_rfl) Tryd.func3 (by kernel_rfl)
    (of_decide_eq_true (by kernel_rfl)) (by unfold Func.isWrapper; first | (rw [if_pos (by decide +kernel)]; kernel_rfl) | (rw [if_neg (by decide +kernel)]; exact ⟨rfl, rfl⟩))
    (fun os started H enc _ => lifted os started H enc)
theorem proved : Rows.KindTellsSaid := over
theorem card : Rows.KindTellsCardSaid :=
  Claim7.holds_tied_plain_at .later [] [.widerDeep] true (true, "0e4743b7bbc691b7623c19ac99649fa596839f4ea47681c985646381f9200e37") false proved (fun _ h => by cases h) (by kernel_rfl) (fun _ h => by cases h) kindTells_row_tie rfl ⟨rfl, rfl⟩ (by kernel_rfl) rfl
    (fun f fn hf hfn => by
      obtain rfl : f = 3 := Option.some.inj ((show Tryd.prog.funcNamed "copperplate/copperplatelaw10.KindTells" = some 3 by kernel_rfl).symm.trans hf) |>.symm
      obtain rfl : fn = Tryd.f3 := (Option.some.inj (Tryd.func3.symm.trans hfn)).symm
      exact ⟨by kernel_rfl, fun j t ht => by
        rw [Tryd.params3] at ht
        have hm : t ∈ [23, 24, 3, 3] := by simpa using Array.mem_of_getElem? ht
        have hall : ([23, 24, 3, 3].all fun u => !Tryd.prog.wantsStandIn u) = true := by kernel_rfl
        exact (show Tryd.prog.wantsStandIn t = false by simpa using List.all_eq_true.1 hall t hm)⟩)
    (by kernel_rfl)
#print axioms card
end Go.Proofs.YthbphgchnloipaaDoor.kindTells
namespace Go.Proofs.YthbphgchnloipaaDoor
/-- The row, under a short name, for the claim. -/
theorem kindTells_holds : Rows.KindTellsCardSaid := kindTells.card
end Go.Proofs.YthbphgchnloipaaDoor
