/- RampAnswers returns true for every argument, without a panic and without a data race. No conditions beyond the row's own. -/
import Derived.Test.YtoenkcojfogmmaaRm8pn
import Derived.Test.YtoenkcojfogmmaaRm8po
import Derived.Test.YtoenkcojfogmmaaRows
import Derived.SizedLaws
import Derived.WalkKit
import Derived.ProofKit
import Derived.OpenShut
import Derived.ShutString
import Derived.ChangeOld
import Derived.Below
namespace Go.Proofs.Ytoenkcojfogmmaa.rampAnswers
open Go.ChangeShapes Go.WideShapes Go.ChangeAt Go.RowKit
open Go.ChangeMaps (open_string shut_string)
set_option linter.unusedVariables false

theorem own : ownKnob Try.prog.godebug = none := by kernel_rfl
theorem laidOut : laidOutB Try.prog = true := by kernel_rfl

/-- What the walk is told of a slice of integers that came in. -/
def IsRow (k : IntKind) (w : World) (a : Option Addr) (len cap : Nat) (zs : List Int) : Prop :=
  (a = none ∧ len = 0 ∧ cap = 0 ∧ zs = []) ∨
  ∃ x, a = some x ∧ len ≤ cap ∧ cap ≤ maxLen ∧ zs.length = cap ∧ (∀ i, i < zs.length → w.cell? (x.add i) = some (.int k (zs.getD i 0))) ∧ ∀ n ∈ zs, (Lit.int k n).wf = true

theorem walk (a0 : Option Addr) (len0 cap0 : Nat) (z0 : List Int) (a1 : Option Addr) (x1 : List Sup) (c1 : Nat) (a2 b2 : Option Addr) (c2 e2 : Nat) (x2 : Rls) (a3 : Option Addr) (x3 : List Drw) (c3 : Nat) (a4 : Option Addr) (x4 : List Wri) (c4 : Nat) (w : World) (w0 : IsRow .i64 w a0 len0 cap0 z0) (w1 : SlOf 5 RSup w a1 x1) (f1 : Fit x1.length) (w2 : RlA w a2 b2 c2 e2 x2) (w3 : SlOf 4 RDrw w a3 x3) (f3 : Fit x3.length) (w4 : SlOf 3 RWri w a4 x4) (f4 : Fit x4.length) :
    Calls Try.prog 7 #[.slice a0 len0 cap0, .slice a1 x1.length c1, .agg #[.slice a2 x2.on.length c2, .slice b2 x2.level.length e2], .slice a3 x3.length c3, .slice a4 x4.length c4] w fun e w' => e = .returned (.bool true) ∧ Below w.heap.size w w' := by
  exact (answers20_walk a0 len0 cap0 z0 a1 x1 c1 a2 b2 c2 e2 x2 a3 x3 c3 a4 x4 c4 w w0 w1 f1 w2 w3 f3 w4 f4).mono fun e w' h => ⟨h.1, h.2.below⟩

set_option maxRecDepth 100000 in
theorem lifted (os : Os) (started : os.Started) (H : Type) (enc : TypeId × Value → H) :
    ReturnsInHanded {} Try.checked os 7 .any (Rows.rampAnswersSpec.pre6 enc Try.prog Try.f7 Rows.rampAnswersRow.domain false) (Rows.rampAnswersSpec.post enc Try.prog Try.f7 false true false false) := by
  refine returnsInHanded_of_change_sized (C := Try.checked) own started (by kernel_rfl) Try.func7
    (ChangeSpec.witness6 (enc := enc) (C := Try.checked) false ⟨#[], #[.slice none 0 0, .slice none 0 0, .agg #[.slice none 0 0, .slice none 0 0], .slice none 0 0, .slice none 0 0], []⟩ 8 (by kernel_rfl) (by kernel_rfl) (by kernel_rfl) (by kernel_rfl)) ?_
  intro W base args ds gs before hval0 hW hcnd hwt _
  have hval : ∀ (j : Nat) t v, Try.f7.params[j]? = some t → args[j]? = some v → Value.okWide Try.prog W .any base t v := hval0
  have hW' := hW
  obtain ⟨p, q, hA0, hV, rfl, hfz, hnd⟩ := hW
  have hA : DataW.TrodAll enc Try.prog W 0 (fun _ => true) true Try.f7.params.toList args.toList ds p := hA0
  rw [Try.params7] at hA hval hwt
  have light : ∀ (j : Nat) (t : TypeId) (d : DataW H), (#[22, 25, 31, 27, 35] : Array TypeId).toList[j]? = some t → ds[j]? = some d → Light t d := by
    intro j t d ht hd k hk
    have ht' : ((#[22, 25, 31, 27, 35] : Array TypeId).toList ++ Rows.rampAnswersSpec.plain.varTypes Try.prog)[j]? = some t := by rw [List.getElem?_append_left (List.getElem?_eq_some_iff.1 ht).1]; exact ht
    have hd' : (ds ++ gs)[j]? = some d := by rw [List.getElem?_append_left (List.getElem?_eq_some_iff.1 hd).1]; exact hd
    exact of_decide_eq_true (List.all_eq_true.1 hwt k (DataW.weights_mem_each ht' hd' k hk))
  obtain ⟨v0, vs0, d0, ds0, p0, q0, hargs, rfl, rfl, h0, r0⟩ := trodAll_cons hA
  obtain ⟨v1, vs1, d1, ds1, p1, q1, rfl, rfl, rfl, h1, r1⟩ := trodAll_cons r0
  obtain ⟨v2, vs2, d2, ds2, p2, q2, rfl, rfl, rfl, h2, r2⟩ := trodAll_cons r1
  obtain ⟨v3, vs3, d3, ds3, p3, q3, rfl, rfl, rfl, h3, r3⟩ := trodAll_cons r2
  obtain ⟨v4, vs4, d4, ds4, p4, q4, rfl, rfl, rfl, h4, r4⟩ := trodAll_cons r3
  obtain ⟨rfl, rfl, rfl⟩ := trodAll_nil r4
  obtain rfl : args = #[v0, v1, v2, v3, v4] := by cases args; simp_all
  obtain ⟨rfl, rfl⟩ := trodVars_none hV
  obtain ⟨a0, len0, cap0, rfl⟩ := okWide_slice Try.underlying22 (hval 0 22 v0 rfl rfl)
  have k0 := h0
  have lt0 : ∀ x ∈ p0, x.block < W.heap.size := by obtain ⟨m, hm⟩ := k0; exact DataW.trod_lt m _ _ _ hm
  obtain ⟨z0, w0⟩ : ∃ zs, IsRow .i64 W a0 len0 cap0 zs := by
    obtain ⟨fuel, hf⟩ := h0
    rcases open_ints Try.underlying22 Try.underlying3 (by kernel_rfl) hf with ⟨hcs, _⟩ | ⟨x, l, c, zs, hcs, _, hl, hm, hz, _, hcell, hwz⟩
    · simp [Value.cells] at hcs
      obtain ⟨rfl, rfl, rfl⟩ := hcs
      exact ⟨[], .inl ⟨rfl, rfl, rfl, rfl⟩⟩
    · simp [Value.cells] at hcs
      obtain ⟨rfl, rfl, rfl⟩ := hcs
      exact ⟨zs, .inr ⟨_, rfl, hl, hm, by simpa using hz, hcell, hwz⟩⟩
  obtain ⟨a1, l1, c1, rfl⟩ := okWide_slice Try.underlying25 (hval 1 25 v1 rfl rfl)
  have k1 := h1
  have lt1 : ∀ x ∈ p1, x.block < W.heap.size := by obtain ⟨m, hm⟩ := k1; exact DataW.trod_lt m _ _ _ hm
  obtain ⟨x1, rfl, f1, w1⟩ : ∃ raw : List Sup, l1 = raw.length ∧ Fit raw.length ∧ SlOf 5 RSup W a1 raw := by
    obtain ⟨fuel, hf⟩ := h1
    obtain ⟨a, raw, cap, hcs, _, hfit, hs⟩ := open_sups hf (light 1 25 d1 rfl rfl)
    simp [Value.cells] at hcs
    obtain ⟨rfl, rfl, rfl⟩ := hcs
    exact ⟨raw, rfl, hfit, hs⟩
  have k2 := h2
  have lt2 : ∀ x ∈ p2, x.block < W.heap.size := by obtain ⟨m, hm⟩ := k2; exact DataW.trod_lt m _ _ _ hm
  obtain ⟨a2, b2, c2, e2, x2, rfl, w2⟩ : ∃ (a1 a2 : Option Addr) (c1 c2 : Nat) (r : Rls), v2 = .agg #[.slice a1 r.on.length c1, .slice a2 r.level.length c2] ∧ RlA W a1 a2 c1 c2 r := by
    obtain ⟨fuel, hf⟩ := h2
    obtain ⟨r, a1, a2, c1, c2, hcs, hr⟩ := open_rls hf (light 2 31 d2 rfl rfl)
    refine ⟨a1, a2, c1, c2, r, ?_, hr⟩
    cases v2 with
    | agg arr =>
      have e : arr.toList = [.slice a1 r.on.length c1, .slice a2 r.level.length c2] := hcs
      have : arr = #[.slice a1 r.on.length c1, .slice a2 r.level.length c2] := by
        apply Array.toList_inj.1; rw [e]
      rw [this]
    | _ => simp [Value.cells] at hcs
  obtain ⟨a3, l3, c3, rfl⟩ := okWide_slice Try.underlying27 (hval 3 27 v3 rfl rfl)
  have k3 := h3
  have lt3 : ∀ x ∈ p3, x.block < W.heap.size := by obtain ⟨m, hm⟩ := k3; exact DataW.trod_lt m _ _ _ hm
  obtain ⟨x3, rfl, f3, w3⟩ : ∃ raw : List Drw, l3 = raw.length ∧ Fit raw.length ∧ SlOf 4 RDrw W a3 raw := by
    obtain ⟨fuel, hf⟩ := h3
    obtain ⟨a, raw, cap, hcs, _, hfit, hs⟩ := open_drws hf (light 3 27 d3 rfl rfl)
    simp [Value.cells] at hcs
    obtain ⟨rfl, rfl, rfl⟩ := hcs
    exact ⟨raw, rfl, hfit, hs⟩
  obtain ⟨a4, l4, c4, rfl⟩ := okWide_slice Try.underlying35 (hval 4 35 v4 rfl rfl)
  have k4 := h4
  have lt4 : ∀ x ∈ p4, x.block < W.heap.size := by obtain ⟨m, hm⟩ := k4; exact DataW.trod_lt m _ _ _ hm
  obtain ⟨x4, rfl, f4, w4⟩ : ∃ raw : List Wri, l4 = raw.length ∧ Fit raw.length ∧ SlOf 3 RWri W a4 raw := by
    obtain ⟨fuel, hf⟩ := h4
    obtain ⟨a, raw, cap, hcs, _, hfit, hs⟩ := open_wris hf (light 4 35 d4 rfl rfl)
    simp [Value.cells] at hcs
    obtain ⟨rfl, rfl, rfl⟩ := hcs
    exact ⟨raw, rfl, hfit, hs⟩
  clear hA0 hval0 light hwt
  refine (walk a0 len0 cap0 z0 a1 x1 c1 a2 b2 c2 e2 x2 a3 x3 c3 a4 x4 c4 W w0 w1 f1 w2 w3 f3 w4 f4).mono fun e W' ⟨he, bel⟩ => ?_
  subst he
  exact ⟨_, rfl, _, _, _, [], _, [], hW', trodAll_mk1 (shut_bool Try.underlying4 _), (trodAll_cons_mk (Below.trod laidOut (by kernel_rfl) (of_decide_eq_true (by kernel_rfl)) k0 bel lt0) (trodAll_cons_mk (Below.trod laidOut (by kernel_rfl) (of_decide_eq_true (by kernel_rfl)) k1 bel lt1) (trodAll_cons_mk (Below.trod laidOut (by kernel_rfl) (of_decide_eq_true (by kernel_rfl)) k2 bel lt2) (trodAll_cons_mk (Below.trod laidOut (by kernel_rfl) (of_decide_eq_true (by kernel_rfl)) k3 bel lt3) (trodAll_cons_mk (Below.trod laidOut (by kernel_rfl) (of_decide_eq_true (by kernel_rfl)) k4 bel lt4) trodAll_mk0))))), rfl, bel.frame _, fun h => by cases h⟩

theorem over : Rows.rampAnswersRow.holds Try.pinned (OpenSpec.ofChange Rows.rampAnswersSpec) :=
  OpenClaim.holds_of_wide 7 Try.f7 rfl rfl rfl rfl rfl rfl rfl ⟨rfl, rfl, rfl, rfl, rfl⟩ rfl rfl rfl rfl rfl (by kernel_rfl) Try.func7 (by kernel_rfl)
    (of_decide_eq_true (by kernel_rfl)) (by unfold Func.isWrapper; first | (rw [if_pos (by decide +kernel)]; kernel_rfl) | (rw [if_neg (by decide +kernel)]; exact ⟨rfl, rfl⟩))
    (fun os started H enc _ => lifted os started H enc)

/-- ████ THE STATEMENT ████ -/
theorem proved : Rows.RampAnswersSaid := over
#print axioms proved
end Go.Proofs.Ytoenkcojfogmmaa.rampAnswers
