/- Contract of the reference's Parent. -/
import Derived.Test.YtenehghpmnajpaaDoorKr
set_option linter.unusedVariables false
set_option linter.unusedSimpArgs false
namespace Go.Proofs.YtenehghpmnajpaaDoor
open Go.RowKit
open Classical

set_option maxRecDepth 100000 in
set_option maxHeartbeats 1000000 in
theorem refParent_any (c : Clk) (i : Nat) (k : Int) (ap ac : Option Addr) (cp cc : Nat) (w : World) (sp : SlOf 1 RI w ap c.parents) (sc : SlOf 1 RI w ac c.choices) (hc : ClkOk c i) (k0 : 0 ≤ k) (k1 : k < c.choices.length) (fp : c.parents.length ≤ 8) (fc : c.choices.length ≤ 8) :
    Calls Tryd.prog 61 #[.agg #[.int .i64 c.kind, .slice ap c.parents.length cp, .slice ac c.choices.length cc, .int .i64 c.low, .int .i64 c.high], .int .i64 k] w (Grows w (.int .i64 (parC c k))) := by
  by_cases h1 : c.kind = 1
  · have b1 : (c.kind == 1) = true := by simp [h1]
    have HP := Lib.hid (show parC c k = -1 by rw [parC, if_pos h1])
    clear hc sp sc h1
    go_enter Tryd.func61, Tryd.ntmps61
    go_wp2_with fail
    go_ret
    exact ⟨ret_int HP.out.symm, (Gr.refl _).alloc _⟩
  · have b1 : (c.kind == 1) = false := by simp [h1]
    obtain ⟨hm, p0, p1⟩ := par_lt hc h1 k0 k1
    by_cases h4 : c.kind = 4
    · have b4 : (c.kind == 4) = true := by simp [h4]
      obtain ⟨hk, e⟩ := ch_of k0 k1
      obtain ⟨bc, oc, rfl, ⟨q2, y2⟩⟩ := sc.one _ hk
      have hcb : 0 ≤ c.choices[k.toNat] ∧ c.choices[k.toNat] ≤ (c.parents.length : Int) - 1 := by
        rcases hc.2.1 with ⟨h, _⟩ | ⟨h, _⟩ | ⟨_, _, _, hd⟩ | ⟨h, _⟩
        · omega
        · omega
        · obtain ⟨_, d1, d2, _⟩ := hd _ hk; exact ⟨d1, d2⟩
        · omega
      have hpl : (c.choices[k.toNat]).toNat < c.parents.length := by omega
      obtain ⟨bp, op, rfl, ⟨q3, y3⟩⟩ := sp.one _ hpl
      have HP := Lib.hid (show parC c k = c.parents[(c.choices[k.toNat]).toNat] by
        rw [parC, if_neg h1, if_pos h4, e, List.getD_eq_getElem?_getD, List.getElem?_eq_getElem hpl]; rfl)
      obtain ⟨kn, hk'⟩ : ∃ kn : Nat, k = kn := ⟨_, (Int.toNat_of_nonneg k0).symm⟩
      obtain ⟨j, hj⟩ : ∃ j : Nat, c.choices[k.toNat] = j := ⟨_, (Int.toNat_of_nonneg hcb.1).symm⟩
      obtain ⟨y, hy⟩ : ∃ y : Int, c.parents[(c.choices[k.toNat]).toNat] = y := ⟨_, rfl⟩
      rw [hy] at q3 HP
      have q2' : w.cell? ⟨bc, oc + kn, none⟩ = some (.int .i64 j) := by
        have e1 : k.toNat = kn := by omega
        rw [← hj, ← e1]; exact q2
      have q3' : w.cell? ⟨bp, op + j, none⟩ = some (.int .i64 y) := by
        have e1 : (c.choices[k.toNat]).toNat = j := by omega
        rw [← e1]; exact q3
      have k2 : (kn : Int) < c.choices.length := by omega
      have j2 : (j : Int) < c.parents.length := by omega
      have x2 := has_of_cell q2'
      have x3 := has_of_cell q3'
      rw [hk'] at HP ⊢
      clear y2 y3 hc sp sc h1 h4 q2 q3 hk e hm p0 p1 hcb hpl hj hy k0 k1 hk'
      go_enter Tryd.func61, Tryd.ntmps61
      go_wp2_with fail
      go_quiet (fail)
      go_wp2_with fail
      go_ret
      exact ⟨ret_int HP.out.symm, by repeat (first | with_reducible exact Gr.refl _ | with_reducible refine Gr.drewN _ ?_ | with_reducible refine Gr.alloc _ ?_)⟩
    · have b4 : (c.kind == 4) = false := by simp [h4]
      have hl0 : 0 < c.parents.length := List.length_pos_of_mem hm
      obtain ⟨bp, op, rfl, ⟨q3, y3⟩⟩ := sp.one 0 hl0
      have HP := Lib.hid (show parC c k = c.parents[0] by
        rw [parC, if_neg h1, if_neg h4, List.getD_eq_getElem?_getD, List.getElem?_eq_getElem hl0]; rfl)
      have j2 : (0 : Int) < c.parents.length := by omega
      rw [Nat.add_zero] at q3
      have x3 := has_of_cell q3
      clear y3 hc sp sc h1 h4 hm p0 p1
      go_enter Tryd.func61, Tryd.ntmps61
      go_wp2_with fail
      go_ret
      exact ⟨ret_int HP.out.symm, (Gr.refl _).alloc _⟩
end Go.Proofs.YtenehghpmnajpaaDoor
