/-
  kind: the texts of terminals, the world that holds them, and the walks of 'find', 'Of' and 'Text'.
-/
import Derived.Test.YtjgpmfjkcioinaaDoorPKK1
import Derived.Shelf.SlicesE.IndexFunc
import Derived.Lib.SlBy
import Derived.LaidMore
import Derived.OpenShut
import Derived.ChangeArms
import Derived.Test.YtjgpmfjkcioinaaDoorRows
import Derived.Test.YtjgpmfjkcioinaaDoorPKE8
namespace Go.Proofs.YtjgpmfjkcioinaaDoor.G
open Go.RowKit Go.Shelf Go.Proofs.YtjgpmfjkcioinaaDoorW.PrintWords Go.Proofs.YtjgpmfjkcioinaaDoor.M
set_option linter.unusedVariables false
set_option linter.unusedSimpArgs false
def kTexts : List ByteArray := [⟨#[]⟩, ⟨#[33]⟩, ⟨#[36]⟩, ⟨#[38]⟩, ⟨#[40]⟩, ⟨#[41]⟩, ⟨#[46, 46, 46]⟩, ⟨#[58]⟩, ⟨#[61]⟩, ⟨#[64]⟩, ⟨#[91]⟩, ⟨#[93]⟩, ⟨#[123]⟩, ⟨#[124]⟩, ⟨#[125]⟩, ⟨#[]⟩, ⟨#[]⟩, ⟨#[]⟩, ⟨#[]⟩, ⟨#[113, 117, 101, 114, 121]⟩, ⟨#[109, 117, 116, 97, 116, 105, 111, 110]⟩, ⟨#[115, 117, 98, 115, 99, 114, 105, 112, 116, 105, 111, 110]⟩, ⟨#[102, 114, 97, 103, 109, 101, 110, 116]⟩, ⟨#[111, 110]⟩, ⟨#[116, 121, 112, 101]⟩, ⟨#[105, 110, 116, 101, 114, 102, 97, 99, 101]⟩, ⟨#[101, 110, 117, 109]⟩, ⟨#[117, 110, 105, 111, 110]⟩, ⟨#[105, 110, 112, 117, 116]⟩, ⟨#[115, 99, 97, 108, 97, 114]⟩, ⟨#[105, 109, 112, 108, 101, 109, 101, 110, 116, 115]⟩]
theorem kTexts_len : kTexts.length = 31 := rfl
def kp (s x : ByteArray) : Bool := (x.toList == s.toList) && !s.toList.isEmpty
def kIdx (s : ByteArray) : Int := Lib.idxBy (fun _ y => kp s y) kTexts default
def kFind (so : Int) (s : ByteArray) : Int := if kIdx s < 0 ∨ (decide (18 ≤ kIdx s) != (so == 1)) = true then 0 else kIdx s
def kOf (k : Int) (s : ByteArray) : Int :=
  if k = 1 then kFind 0 s else if k = 2 then (if kFind 1 s = 0 then 18 else kFind 1 s) else if k = 3 then 15 else if k = 4 then 16 else if k = 5 then 17 else 0
def kHas (te : Int) : Bool := decide (0 ≤ te ∧ te < 31) && !(kTexts.getD te.toNat ⟨#[]⟩).toList.isEmpty
def kText (te : Int) : ByteArray := if kHas te = true then kTexts.getD te.toNat ⟨#[]⟩ else ⟨#[]⟩
structure KW (w : World) : Prop where
  tx : ∀ j, j < 31 → w.cell? ⟨0, j, none⟩ = some (.string (kTexts.getD j ⟨#[]⟩))
theorem KW.low {w W : World} (h : KW w) (hb : Below w.heap.size w W) : KW W := ⟨fun j hj => (hb.cell (World.block_lt_of_cell? w _ (h.tx j hj))).trans (h.tx j hj)⟩
theorem texts_data : (Rows.laid_copperplate_kind_texts : DataW Unit) = .agg (kTexts.map fun s => .lit (.string s.data.toList)) := rfl
theorem KW.of_reads {W : World} {l : List (String × DataW Unit)} (h : laidMet Tryd.prog l W) (me : ("copperplate/kind.texts", Rows.laid_copperplate_kind_texts) ∈ l) : KW W := by
  obtain ⟨g, t, cs, fuel, p, hg, ht, hv, hd⟩ := Lib.laidMet.reads h me
  obtain rfl := Option.some.inj ((show Tryd.prog.globalNamed "copperplate/kind.texts" = some 0 by kernel_rfl).symm.trans hg)
  obtain rfl := Option.some.inj ((show (Tryd.prog.globals[0]?).map (·.type) = some 71 by kernel_rfl).symm.trans ht)
  obtain ⟨xs, m, _, ex, _, hl, hel⟩ := DataW.trod_array Tryd.underlying71 hd
  have c9 : Tryd.prog.cellsOf 9 = 1 := by kernel_rfl
  refine ⟨fun r hr => ?_⟩
  have hE := hel r hr
  rw [c9, Nat.mul_one, List.getElem?_eq_getElem (by omega)] at hE
  obtain ⟨z, e1, e2, _⟩ := DataW.trod_string Tryd.underlying9 hE
  have e3 : (xs.map (·.1)) = kTexts.map fun s => (DataW.lit (.string s.data.toList) : DataW Unit) := by
    have := (Prod.mk.inj ex).1
    rw [texts_data] at this
    exact (DataW.agg.inj this).symm
  have e4 := congrArg (fun l => l[r]?) e3
  simp only [List.getElem?_map] at e4
  rw [List.getElem?_eq_getElem (by omega : r < xs.length), List.getElem?_eq_getElem (by rw [kTexts_len]; exact hr : r < kTexts.length), e2] at e4
  have hz : z = kTexts.getD r ⟨#[]⟩ := by
    simp only [Option.map_some, Option.some.injEq, DataW.lit.injEq, Lit.string.injEq] at e4
    rw [List.getD, List.getElem?_eq_getElem (by rw [kTexts_len]; exact hr : r < kTexts.length)]
    have : z.data.toList = (kTexts[r]'(by rw [kTexts_len]; exact hr)).data.toList := e4
    show z = (kTexts[r]'(by rw [kTexts_len]; exact hr))
    exact congrArg ByteArray.mk (Array.toList_inj.1 this)
  rw [World.var?_cell hg hv r, ← hz]
  have : cs.toList[r]? = some (.string z) := by
    have h0 : ((cs.toList.drop r).take 1)[0]? = some (.string z) := by rw [e1]; rfl
    simpa using h0
  simpa using this
set_option maxHeartbeats 800000 in
theorem pred_find (s : ByteArray) (B : Nat) (w : World) (hB : B < w.heap.size) (hcell : w.cell? ⟨B, 0, none⟩ = some (.string s)) :
    PredAt Tryd.prog 74 #[.pointer (some ⟨B, 0, none⟩)] Value.string (kp s) w := fun W x hb => by
  have hc : W.cell? ⟨B, 0, none⟩ = some (.string s) := (hb.cell (p := ⟨B, 0, none⟩) hB).trans hcell
  show Calls Tryd.prog 74 #[.string x, .pointer (some ⟨B, 0, none⟩)] W _
  cases h1 : (x.toList == s.toList) with
  | false =>
    have HK : kp s x = false := by unfold kp; rw [h1]; rfl
    have HK2 := Lib.hid HK
    clear HK
    go_enter Tryd.func74, Tryd.ntmps74
    go_wp2
    go_ret
    exact ⟨ret_bool HK2.out.symm, 0, rfl⟩
  | true =>
    cases h2 : s.toList.isEmpty with
    | true =>
      have HK : kp s x = false := by unfold kp; rw [h1, h2]; rfl
      have HK2 := Lib.hid HK
      clear HK
      go_enter Tryd.func74, Tryd.ntmps74
      go_wp2
      go_ret
      exact ⟨ret_bool HK2.out.symm, 0, rfl⟩
    | false =>
      have HK : kp s x = true := by unfold kp; rw [h1, h2]; rfl
      have HK2 := Lib.hid HK
      clear HK
      go_enter Tryd.func74, Tryd.ntmps74
      go_wp2
      go_ret
      exact ⟨ret_bool HK2.out.symm, 0, rfl⟩
theorem kIdx_ge (s : ByteArray) : -1 ≤ kIdx s ∧ kIdx s < 31 := by
  have gen : ∀ (l : List ByteArray) (i : Nat), -1 ≤ Lib.idxByFrom (fun _ y => kp s y) default l i ∧ Lib.idxByFrom (fun _ y => kp s y) default l i < ((i + l.length : Nat) : Int) + (if l = [] then 1 else 0) := by
    intro l
    induction l with
    | nil => intro i; simp [Lib.idxByFrom]; omega
    | cons y l ih =>
      intro i
      have := ih (i + 1)
      simp only [Lib.idxByFrom]
      split
      · simp; omega
      · rw [if_neg (by simp)]
        simp only [List.length_cons]
        by_cases hl : l = []
        · subst hl; simp [Lib.idxByFrom]; omega
        · rw [if_neg hl] at this; omega
  have h := gen kTexts 0
  rw [kTexts_len, if_neg (by simp [kTexts])] at h
  unfold kIdx Lib.idxBy
  omega
set_option maxHeartbeats 1000000 in
theorem find_any (so : Int) (s : ByteArray) (w : World) (hL : KW w) :
    Calls Tryd.prog 44 #[.int .i64 so, .string s] w fun e w' => e = .returned (.int .i64 (kFind so s)) ∧ Below w.heap.size w w' := by
  have hC := fun (W : World) (hB : w.heap.size < W.heap.size) (hc : W.cell? ⟨w.heap.size, 0, none⟩ = some (.string s)) (hT : ∀ j, j < kTexts.length → W.cell? ⟨0, 0 + j, none⟩ = some (.string kTexts[j]!)) =>
    Tryd.slices_IndexFunc (α := ByteArray) Value.string (kp s) 74 #[.pointer (some ⟨w.heap.size, 0, none⟩)] (enters_of Tryd.func74 (by kernel_rfl) rfl) 0 0 31 31 kTexts W (pred_find s w.heap.size W hB hc) (by rw [kTexts_len]; exact Nat.le_refl _) (by omega) hT
  have hg := kIdx_ge s
  rw [show kTexts.take 31 = kTexts from rfl] at hC
  have hT0 : ∀ (W : World), Below w.heap.size w W → ∀ j, j < kTexts.length → W.cell? ⟨0, 0 + j, none⟩ = some (.string kTexts[j]!) := by
    intro W hb j hj
    rw [kTexts_len] at hj
    have := (hL.low hb).tx j hj
    rw [Nat.zero_add, this, List.getElem!_eq_getElem?_getD]; rfl
  have HT := Lib.hid hT0
  clear hT0 hL
  obtain ⟨x, hx⟩ : ∃ x, kIdx s = x := ⟨_, rfl⟩
  have hF : kFind so s = if x < 0 ∨ (decide (18 ≤ x) != (so == 1)) = true then 0 else x := by unfold kFind; rw [hx]
  rw [hF]
  rw [hx] at hg
  unfold kIdx at hx
  rw [hx] at hC
  clear hx hF
  by_cases h0 : x < 0
  · rw [if_pos (.inl h0)]
    go_enter Tryd.func44, Tryd.ntmps44
    go_wp2_with (go_at_call 64; refine (hC _ (by simp) (by simp) (HT.out _ ((Below.refl _ w).alloc (Nat.le_refl _) _))).mono ?_; rintro e w' ⟨rfl, q, rfl⟩)
    go_ret
    exact ⟨rfl, below_drawn ((Below.refl _ w).alloc (Nat.le_refl _) _) q⟩
  · by_cases h18 : 18 ≤ x
    · have hd18 : decide (18 ≤ x) = true := decide_eq_true h18
      cases hs : (so == 1) with
      | true =>
        rw [if_neg (by rw [decide_eq_true h18]; simp; omega)]
        go_enter Tryd.func44, Tryd.ntmps44
        go_wp2_with (go_at_call 64; refine (hC _ (by simp) (by simp) (HT.out _ ((Below.refl _ w).alloc (Nat.le_refl _) _))).mono ?_; rintro e w' ⟨rfl, q, rfl⟩)
        go_ret
        exact ⟨rfl, below_drawn ((Below.refl _ w).alloc (Nat.le_refl _) _) q⟩
      | false =>
        rw [if_pos (by rw [decide_eq_true h18]; simp)]
        go_enter Tryd.func44, Tryd.ntmps44
        go_wp2_with (go_at_call 64; refine (hC _ (by simp) (by simp) (HT.out _ ((Below.refl _ w).alloc (Nat.le_refl _) _))).mono ?_; rintro e w' ⟨rfl, q, rfl⟩)
        go_ret
        exact ⟨rfl, below_drawn ((Below.refl _ w).alloc (Nat.le_refl _) _) q⟩
    · have hd18 : decide (18 ≤ x) = false := decide_eq_false h18
      cases hs : (so == 1) with
      | true =>
        rw [if_pos (by rw [decide_eq_false h18]; simp)]
        go_enter Tryd.func44, Tryd.ntmps44
        go_wp2_with (go_at_call 64; refine (hC _ (by simp) (by simp) (HT.out _ ((Below.refl _ w).alloc (Nat.le_refl _) _))).mono ?_; rintro e w' ⟨rfl, q, rfl⟩)
        go_ret
        exact ⟨rfl, below_drawn ((Below.refl _ w).alloc (Nat.le_refl _) _) q⟩
      | false =>
        rw [if_neg (by rw [decide_eq_false h18]; simp; omega)]
        go_enter Tryd.func44, Tryd.ntmps44
        go_wp2_with (go_at_call 64; refine (hC _ (by simp) (by simp) (HT.out _ ((Below.refl _ w).alloc (Nat.le_refl _) _))).mono ?_; rintro e w' ⟨rfl, q, rfl⟩)
        go_ret
        exact ⟨rfl, below_drawn ((Below.refl _ w).alloc (Nat.le_refl _) _) q⟩
end Go.Proofs.YtjgpmfjkcioinaaDoor.G
