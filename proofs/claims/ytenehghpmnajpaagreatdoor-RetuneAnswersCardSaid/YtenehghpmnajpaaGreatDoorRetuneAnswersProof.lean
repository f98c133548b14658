/- RetuneAnswers returns true for every argument, without a panic and without a data race, where the listed variable lies as the program's own text lays it, which the card ties. No conditions beyond the card's own. -/
import Derived.Test.YtenehghpmnajpaaGreatDoorRa8pA
import Derived.Test.YtenehghpmnajpaaGreatDoorRows
import Derived.Test.YtenehghpmnajpaaGreatDoorCards
import Derived.Test.YtenehghpmnajpaaGreatDoorTie
import Derived.LaidMore
import Derived.Stop.Joined
import Derived.Stop.LaidErr
import Derived.Lib.LaidTab
import Derived.WalkKit
import Derived.ProofKit
import Derived.OpenShut
import Derived.ShutString
import Derived.ChangeOld
import Derived.Below
namespace Go.Proofs.YtenehghpmnajpaaGreatDoor.retuneAnswers
open Go.ChangeShapes Go.WideShapes Go.ChangeAt Go.RowKit
open Go.ChangeMaps (open_string shut_string)
set_option linter.unusedVariables false

theorem own : ownKnob Tryz.prog.godebug = none := by kernel_rfl
theorem laidOut : laidOutB Tryz.prog = true := by kernel_rfl

/-- What the walk is told of a slice of integers that came in. -/
def IsRow (k : IntKind) (w : World) (a : Option Addr) (len cap : Nat) (zs : List Int) : Prop :=
  (a = none ∧ len = 0 ∧ cap = 0 ∧ zs = []) ∨
  ∃ x, a = some x ∧ len ≤ cap ∧ cap ≤ maxLen ∧ zs.length = cap ∧ (∀ i, i < zs.length → w.cell? (x.add i) = some (.int k (zs.getD i 0))) ∧ ∀ n ∈ zs, (Lit.int k n).wf = true

/-- What the listed variables give the walk. -/
def Facts (w : World) : Prop := OffV w
theorem of_laid {W : World} (h : laidMetH Tryz.prog Rows.retuneAnswersRow.laid W) : Facts W := by
  rw [MakeChecks.laidMetH_plain _ _ _ (by kernel_rfl)] at h
  exact off_of_laid h

theorem walk (a0 : Option Addr) (len0 cap0 : Nat) (z0 : List Int) (a1 : Option Addr) (x1 : List Clk) (c1 : Nat) (a2 : Option Addr) (x2 : List Int) (c2 : Nat) (a3 : Option Addr) (x3 : List Int) (c3 : Nat) (a4 : Option Addr) (x4 : List Lmt) (c4 : Nat) (x5 : Wri) (a6 : Option Addr) (x6 : List (List Int)) (c6 : Nat) (w : World) (hL : Facts w) (w0 : IsRow .i64 w a0 len0 cap0 z0) (w1 : SlOf 5 RClk w a1 x1) (f1 : Fit x1.length) (w2 : SlOf 1 RI w a2 x2) (f2 : Fit x2.length) (w3 : SlOf 1 RI w a3 x3) (f3 : Fit x3.length) (w4 : SlOf 3 RLmt w a4 x4) (f4 : Fit x4.length) (w5 : WriWd x5) (w6 : SlOf 1 RSetW w a6 x6) (f6 : Fit x6.length) :
    Calls Tryz.prog 5 #[.slice a0 len0 cap0, .slice a1 x1.length c1, .slice a2 x2.length c2, .slice a3 x3.length c3, .slice a4 x4.length c4, .agg #[.int .i64 x5.kind, .int .i64 x5.unit, .int .i64 x5.value], .slice a6 x6.length c6] w fun e w' => e = .returned (.bool true) ∧ Below w.heap.size w w' := by
  exact (answers18_walk a0 len0 cap0 z0 a1 x1 c1 a2 x2 c2 a3 x3 c3 a4 x4 c4 x5 a6 x6 c6 w w0 w1 f1 w2 f2 w3 f3 w4 f4 w5 w6 f6 hL).mono fun e w' h => ⟨h.1, h.2.below⟩

theorem door_met (os : Os) (args : Array Value) : laidMetH Tryz.prog Rows.retuneAnswersRow.laid ((World.doorLaid Tryz.prog 400 os).forCall (fun _ _ => 0) ⟨#[], args, []⟩).memory :=
  laidMetH_of_parts3 (fuel := 8) (laidMet_of_run' 8 (by kernel_rfl) (by kernel_rfl)) (by kernel_rfl) (by kernel_rfl)

set_option maxRecDepth 100000 in
theorem lifted (os : Os) (started : os.Started) (H : Type) (enc : TypeId × Value → H) :
    ReturnsInHanded {} Tryz.checked os 5 .any (fun w args => (Rows.retuneAnswersSpec.pre enc Tryz.prog Tryz.f5 [] false w args ∧ laidMetH Tryz.prog Rows.retuneAnswersRow.laid w) ∧ sizedMet enc Tryz.prog Tryz.f5 (OpenSpec.ofChange Rows.retuneAnswersSpec) false w args)
      (Rows.retuneAnswersSpec.post enc Tryz.prog Tryz.f5 false true false false) := by
  refine returnsInHanded_of_change_and (C := Tryz.checked) (X := fun w _ => laidMetH Tryz.prog Rows.retuneAnswersRow.laid w) (fun _ _ _ hh h => h.of_heap hh) own started (by kernel_rfl) Tryz.func5
    (ChangeSpec.witness_shaped (enc := enc) (C := Tryz.checked) (os := os) (X := fun w _ => laidMetH Tryz.prog Rows.retuneAnswersRow.laid w) false (World.doorLaid Tryz.prog 400 os) #[.slice none 0 0, .slice none 0 0, .slice none 0 0, .slice none 0 0, .slice none 0 0, .agg #[.int .i64 0, .int .i64 0, .int .i64 0], .slice none 0 0] 8 rfl (World.shaped_of_RefB (by kernel_rfl) (by kernel_rfl)) (by kernel_rfl) (by kernel_rfl) (by kernel_rfl) (door_met os _)) ?_
  intro W base args ds gs before hval0 hW _ hwt hL _
  have hval : ∀ (j : Nat) t v, Tryz.f5.params[j]? = some t → args[j]? = some v → Value.okWide Tryz.prog W .any base t v := hval0
  have hW' := hW
  obtain ⟨p, q, hA0, hV, rfl, hfz, hnd⟩ := hW
  have hA : DataW.TrodAll enc Tryz.prog W 0 (fun _ => true) true Tryz.f5.params.toList args.toList ds p := hA0
  rw [Tryz.params5] at hA hval hwt
  have light : ∀ (j : Nat) (t : TypeId) (d : DataW H), (#[22, 23, 22, 22, 24, 65, 59] : Array TypeId).toList[j]? = some t → ds[j]? = some d → Light t d := by
    intro j t d ht hd k hk
    have ht' : ((#[22, 23, 22, 22, 24, 65, 59] : Array TypeId).toList ++ Rows.retuneAnswersSpec.plain.varTypes Tryz.prog)[j]? = some t := by rw [List.getElem?_append_left (List.getElem?_eq_some_iff.1 ht).1]; exact ht
    have hd' : (ds ++ gs)[j]? = some d := by rw [List.getElem?_append_left (List.getElem?_eq_some_iff.1 hd).1]; exact hd
    exact of_decide_eq_true (List.all_eq_true.1 hwt k (DataW.weights_mem_each ht' hd' k hk))
  obtain ⟨v0, vs0, d0, ds0, p0, q0, hargs, rfl, rfl, h0, r0⟩ := trodAll_cons hA
  obtain ⟨v1, vs1, d1, ds1, p1, q1, rfl, rfl, rfl, h1, r1⟩ := trodAll_cons r0
  obtain ⟨v2, vs2, d2, ds2, p2, q2, rfl, rfl, rfl, h2, r2⟩ := trodAll_cons r1
  obtain ⟨v3, vs3, d3, ds3, p3, q3, rfl, rfl, rfl, h3, r3⟩ := trodAll_cons r2
  obtain ⟨v4, vs4, d4, ds4, p4, q4, rfl, rfl, rfl, h4, r4⟩ := trodAll_cons r3
  obtain ⟨v5, vs5, d5, ds5, p5, q5, rfl, rfl, rfl, h5, r5⟩ := trodAll_cons r4
  obtain ⟨v6, vs6, d6, ds6, p6, q6, rfl, rfl, rfl, h6, r6⟩ := trodAll_cons r5
  obtain ⟨rfl, rfl, rfl⟩ := trodAll_nil r6
  obtain rfl : args = #[v0, v1, v2, v3, v4, v5, v6] := by cases args; simp_all
  obtain ⟨rfl, rfl⟩ := trodVars_none hV
  obtain ⟨a0, len0, cap0, rfl⟩ := okWide_slice Tryz.underlying22 (hval 0 22 v0 rfl rfl)
  have k0 := h0
  have lt0 : ∀ x ∈ p0, x.block < W.heap.size := by obtain ⟨m, hm⟩ := k0; exact DataW.trod_lt m _ _ _ hm
  obtain ⟨z0, w0⟩ : ∃ zs, IsRow .i64 W a0 len0 cap0 zs := by
    obtain ⟨fuel, hf⟩ := h0
    rcases open_ints Tryz.underlying22 Tryz.underlying3 (by kernel_rfl) hf with ⟨hcs, _⟩ | ⟨x, l, c, zs, hcs, _, hl, hm, hz, _, hcell, hwz⟩
    · simp [Value.cells] at hcs
      obtain ⟨rfl, rfl, rfl⟩ := hcs
      exact ⟨[], .inl ⟨rfl, rfl, rfl, rfl⟩⟩
    · simp [Value.cells] at hcs
      obtain ⟨rfl, rfl, rfl⟩ := hcs
      exact ⟨zs, .inr ⟨_, rfl, hl, hm, by simpa using hz, hcell, hwz⟩⟩
  obtain ⟨a1, l1, c1, rfl⟩ := okWide_slice Tryz.underlying23 (hval 1 23 v1 rfl rfl)
  have k1 := h1
  have lt1 : ∀ x ∈ p1, x.block < W.heap.size := by obtain ⟨m, hm⟩ := k1; exact DataW.trod_lt m _ _ _ hm
  obtain ⟨x1, rfl, f1, w1⟩ : ∃ raw : List Clk, l1 = raw.length ∧ Fit raw.length ∧ SlOf 5 RClk W a1 raw := by
    obtain ⟨fuel, hf⟩ := h1
    obtain ⟨a, raw, cap, hcs, _, hfit, hs⟩ := open_clks hf (light 1 23 d1 rfl rfl)
    simp [Value.cells] at hcs
    obtain ⟨rfl, rfl, rfl⟩ := hcs
    exact ⟨raw, rfl, hfit, hs⟩
  obtain ⟨a2, l2, c2, rfl⟩ := okWide_slice Tryz.underlying22 (hval 2 22 v2 rfl rfl)
  have k2 := h2
  have lt2 : ∀ x ∈ p2, x.block < W.heap.size := by obtain ⟨m, hm⟩ := k2; exact DataW.trod_lt m _ _ _ hm
  obtain ⟨x2, rfl, f2, w2⟩ : ∃ raw : List Int, l2 = raw.length ∧ Fit raw.length ∧ SlOf 1 RI W a2 raw := by
    obtain ⟨fuel, hf⟩ := h2
    obtain ⟨a, raw, cap, hcs, _, hfit, hs⟩ := open_nums hf (light 2 22 d2 rfl rfl)
    simp [Value.cells] at hcs
    obtain ⟨rfl, rfl, rfl⟩ := hcs
    exact ⟨raw, rfl, hfit, hs⟩
  obtain ⟨a3, l3, c3, rfl⟩ := okWide_slice Tryz.underlying22 (hval 3 22 v3 rfl rfl)
  have k3 := h3
  have lt3 : ∀ x ∈ p3, x.block < W.heap.size := by obtain ⟨m, hm⟩ := k3; exact DataW.trod_lt m _ _ _ hm
  obtain ⟨x3, rfl, f3, w3⟩ : ∃ raw : List Int, l3 = raw.length ∧ Fit raw.length ∧ SlOf 1 RI W a3 raw := by
    obtain ⟨fuel, hf⟩ := h3
    obtain ⟨a, raw, cap, hcs, _, hfit, hs⟩ := open_nums hf (light 3 22 d3 rfl rfl)
    simp [Value.cells] at hcs
    obtain ⟨rfl, rfl, rfl⟩ := hcs
    exact ⟨raw, rfl, hfit, hs⟩
  obtain ⟨a4, l4, c4, rfl⟩ := okWide_slice Tryz.underlying24 (hval 4 24 v4 rfl rfl)
  have k4 := h4
  have lt4 : ∀ x ∈ p4, x.block < W.heap.size := by obtain ⟨m, hm⟩ := k4; exact DataW.trod_lt m _ _ _ hm
  obtain ⟨x4, rfl, f4, w4⟩ : ∃ raw : List Lmt, l4 = raw.length ∧ Fit raw.length ∧ SlOf 3 RLmt W a4 raw := by
    obtain ⟨fuel, hf⟩ := h4
    obtain ⟨a, raw, cap, hcs, _, hfit, hs⟩ := open_lmts hf (light 4 24 d4 rfl rfl)
    simp [Value.cells] at hcs
    obtain ⟨rfl, rfl, rfl⟩ := hcs
    exact ⟨raw, rfl, hfit, hs⟩
  have k5 := h5
  have lt5 : ∀ x ∈ p5, x.block < W.heap.size := by obtain ⟨m, hm⟩ := k5; exact DataW.trod_lt m _ _ _ hm
  obtain ⟨x5, rfl, w5⟩ : ∃ p : Wri, v5 = .agg #[.int .i64 p.kind, .int .i64 p.unit, .int .i64 p.value] ∧ WriWd p := by
    obtain ⟨fuel, hf⟩ := h5
    obtain ⟨p, hcs, hp⟩ := open_wri hf
    refine ⟨p, ?_, hp⟩
    cases v5 with
    | agg arr =>
      have e : arr.toList = [.int .i64 p.kind, .int .i64 p.unit, .int .i64 p.value] := hcs
      have : arr = #[.int .i64 p.kind, .int .i64 p.unit, .int .i64 p.value] := by
        apply Array.toList_inj.1; rw [e]
      rw [this]
    | _ => simp [Value.cells] at hcs
  obtain ⟨a6, l6, c6, rfl⟩ := okWide_slice Tryz.underlying59 (hval 6 59 v6 rfl rfl)
  have k6 := h6
  have lt6 : ∀ x ∈ p6, x.block < W.heap.size := by obtain ⟨m, hm⟩ := k6; exact DataW.trod_lt m _ _ _ hm
  obtain ⟨x6, rfl, f6, w6⟩ : ∃ raw : List (List Int), l6 = raw.length ∧ Fit raw.length ∧ SlOf 1 RSetW W a6 raw := by
    obtain ⟨fuel, hf⟩ := h6
    obtain ⟨a, raw, cap, hcs, _, hfit, hs⟩ := open_sets hf (light 6 59 d6 rfl rfl)
    simp [Value.cells] at hcs
    obtain ⟨rfl, rfl, rfl⟩ := hcs
    exact ⟨raw, rfl, hfit, hs⟩
  clear hA0 hval0 light hwt
  refine (walk a0 len0 cap0 z0 a1 x1 c1 a2 x2 c2 a3 x3 c3 a4 x4 c4 x5 a6 x6 c6 W (of_laid hL) w0 w1 f1 w2 f2 w3 f3 w4 f4 w5 w6 f6).mono fun e W' ⟨he, bel⟩ => ?_
  subst he
  exact ⟨_, rfl, _, _, _, [], _, [], hW', trodAll_mk1 (shut_bool Tryz.underlying4 _), (trodAll_cons_mk (Below.trod laidOut (by kernel_rfl) (of_decide_eq_true (by kernel_rfl)) k0 bel lt0) (trodAll_cons_mk (Below.trod laidOut (by kernel_rfl) (of_decide_eq_true (by kernel_rfl)) k1 bel lt1) (trodAll_cons_mk (Below.trod laidOut (by kernel_rfl) (of_decide_eq_true (by kernel_rfl)) k2 bel lt2) (trodAll_cons_mk (Below.trod laidOut (by kernel_rfl) (of_decide_eq_true (by kernel_rfl)) k3 bel lt3) (trodAll_cons_mk (Below.trod laidOut (by kernel_rfl) (of_decide_eq_true (by kernel_rfl)) k4 bel lt4) (trodAll_cons_mk (Below.trod laidOut (by kernel_rfl) (of_decide_eq_true (by kernel_rfl)) k5 bel lt5) (trodAll_cons_mk (Below.trod laidOut (by kernel_rfl) (of_decide_eq_true (by kernel_rfl)) k6 bel lt6) trodAll_mk0))))))), rfl, bel.frame _, fun h => by cases h⟩

theorem over : Rows.retuneAnswersRow.holds Tryz.pinned (OpenSpec.ofChange Rows.retuneAnswersSpec) :=
  OpenClaim.holds_of_wide 5 Tryz.f5 rfl rfl rfl rfl rfl rfl rfl ⟨rfl, rfl, rfl, rfl, rfl⟩ rfl rfl rfl rfl rfl (by kernel_rfl) Tryz.func5 (by kernel_rfl)
    (of_decide_eq_true (by kernel_rfl)) (by unfold Func.isWrapper; first | (rw [if_pos (by decide +kernel)]; kernel_rfl) | (rw [if_neg (by decide +kernel)]; exact ⟨rfl, rfl⟩))
    (fun os started H enc _ => lifted os started H enc)

/-- ████ THE STATEMENT ████ -/
theorem proved : Rows.RetuneAnswersCardSaid :=
  Claim7.holds_tied_plain_at .later [] [.data] true (true, "f94d5fce559a6182903ec3d351b4269b4ce714cf5ba9a7a57224f081adce3c2d") false
    over (fun _ h => by cases h) (by kernel_rfl) (fun _ h => by cases h) retuneAnswers_row_tie rfl ⟨rfl, rfl⟩ (by kernel_rfl) rfl
    (fun f fn hf hfn => by
      obtain rfl : f = 5 := Option.some.inj ((show Tryz.prog.funcNamed "bringup/bringuplaw18.RetuneAnswers" = some 5 by kernel_rfl).symm.trans hf) |>.symm
      obtain rfl : fn = Tryz.f5 := (Option.some.inj (Tryz.func5.symm.trans hfn)).symm
      exact ⟨by kernel_rfl, fun j t ht => by
        rw [Tryz.params5] at ht
        have h3 : t = 22 ∨ t = 23 ∨ t = 24 ∨ t = 65 ∨ t = 59 := by
          rcases j with _ | j
          · simp at ht; subst ht; simp
          rcases j with _ | j
          · simp at ht; subst ht; simp
          rcases j with _ | j
          · simp at ht; subst ht; simp
          rcases j with _ | j
          · simp at ht; subst ht; simp
          rcases j with _ | j
          · simp at ht; subst ht; simp
          rcases j with _ | j
          · simp at ht; subst ht; simp
          rcases j with _ | j
          · simp at ht; subst ht; simp
          simp at ht
        rcases h3 with rfl | rfl | rfl | rfl | rfl
        · exact (show Tryz.prog.wantsStandIn 22 = false by kernel_rfl)
        · exact (show Tryz.prog.wantsStandIn 23 = false by kernel_rfl)
        · exact (show Tryz.prog.wantsStandIn 24 = false by kernel_rfl)
        · exact (show Tryz.prog.wantsStandIn 65 = false by kernel_rfl)
        · exact (show Tryz.prog.wantsStandIn 59 = false by kernel_rfl)⟩)
    (by kernel_rfl)
#print axioms proved
end Go.Proofs.YtenehghpmnajpaaGreatDoor.retuneAnswers
