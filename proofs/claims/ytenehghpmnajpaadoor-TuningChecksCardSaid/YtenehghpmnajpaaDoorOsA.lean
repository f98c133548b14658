/- What the walks of layer 17 keep: clocks, limits, tape; limits that are appended. -/
import Derived.Test.YtenehghpmnajpaaDoorLb
import Derived.Test.YtenehghpmnajpaaDoorLc
set_option linter.unusedVariables false
set_option linter.unusedSimpArgs false
namespace Go.Proofs.YtenehghpmnajpaaDoor
open Go.RowKit
open Classical

theorem done_stay {done : Array Bool} {i j : Nat} (h : done.getD j false = true) : (done.setIfInBounds i true).getD j false = true := by
  by_cases e : i = j
  · subst e
    refine getD_set_same ?_
    unfold Array.getD at h
    split at h
    · assumption
    · cases h
  · simp only [Array.getD_eq_getD_getElem?, Array.getElem?_setIfInBounds] at h ⊢
    rw [if_neg e]; exact h
theorem gets_lims {w : World} {base n c : Nat} {a : Option Addr} {ms : List Lmt} (hn : ms.length = n) (h : w.ownsRow base 53 3 (.slice a n c) n (ms.flatMap encM)) : Gets w a n 3 (ms.flatMap encM) := by
  refine ⟨by rw [flat_len encM 3 (fun _ => rfl), hn], fun h0 => ?_⟩
  obtain ⟨g, e, hc⟩ := own_cells h (by omega)
  exact ⟨_, e, hc⟩
theorem Gets.gr {w w' : World} {a : Option Addr} {m size : Nat} {news : List Value} (h : Gets w a m size news) (hg : Gr w w') : Gets w' a m size news := by
  refine ⟨h.1, fun h0 => ?_⟩
  obtain ⟨ad, e, hc⟩ := h.2 h0
  refine ⟨ad, e, fun j u hu => ?_⟩
  have := hc j u hu
  have ee := addr_of_cell this
  rw [ee] at this ⊢
  exact cell_gr hg this
theorem encMs_one (ms : List Lmt) : ∀ u ∈ ms.flatMap encM, u.oneCell' = true := by
  intro u hu
  obtain ⟨x, _, hx⟩ := List.mem_flatMap.1 hu
  simp only [encM, List.mem_cons, List.not_mem_nil, or_false] at hx
  rcases hx with rfl | rfl | rfl <;> rfl
theorem narrow_meets {l : List Clk} {ms : List Lmt} (hk : 0 < ms.length) {y : Int} (hy : y ≤ ms[0].high) (s : List Int) (h : meetS l (ms.set 0 ⟨ms[0].clock, ms[0].low, y⟩) s = true) : meetS l ms s = true := by
  cases ms with
  | nil => simp at hk
  | cons x r => exact meetS_narrow hy h
theorem lsOk_set {l : List Clk} {ms : List Lmt} (h : LsOk l ms) {k : Nat} (hk : k < ms.length) {y : Int} (h0 : ms[k].low ≤ y) (h1 : y ≤ 4000000000) : LsOk l (ms.set k ⟨ms[k].clock, ms[k].low, y⟩) := by
  refine ⟨by rw [List.length_set]; exact h.1, fun j hj => ?_⟩
  rw [List.length_set] at hj
  rw [List.getElem_set]
  split
  · obtain ⟨q0, q1, q2, _, _⟩ := h.2 k hk
    exact ⟨q0, q1, q2, h0, h1⟩
  · exact h.2 j hj
/-- What stays: the clocks, the limits, the tape. -/
structure OSt (b n : Nat) (w w1 w2 : World) (ts : List CT) (g c : Nat) (ms : List Lmt) (am : Option Addr) (cm : Nat) (W : World) : Prop where
  own : W.ownsRow w1.heap.size 28 5 (.slice (some ⟨g, 0, none⟩) ts.length c) ts.length (ts.flatMap encC)
  rows : ChRows w1.heap.size W ts
  lims : W.ownsRow w2.heap.size 53 3 (.slice am ms.length cm) ms.length (ms.flatMap encM)
  tp : Tp W b n
  gw : Gr w W
section
variable {b n : Nat} {w w1 w2 W W' : World} {ts : List CT} {g c : Nat} {ms : List Lmt} {am : Option Addr} {cm : Nat}
theorem OSt.gr (h : OSt b n w w1 w2 ts g c ms am cm W) (hg : Gr W W') : OSt b n w w1 w2 ts g c ms am cm W' :=
  ⟨Gr.owns h.own hg, fun t ht => (h.rows t ht).gr hg, Gr.owns h.lims hg, h.tp.gr hg, h.gw.trans hg⟩
theorem OSt.mv (h : OSt b n w w1 w2 ts g c ms am cm W) (h1 : b < w1.heap.size) (h2 : b < w2.heap.size) (lb : w.heap.size ≤ b) (m : Mv b n W W') : OSt b n w w1 w2 ts g c ms am cm W' :=
  ⟨m.owns h.own h1, fun t ht => (h.rows t ht).mv m h1, m.owns h.lims h2, m.tp h.tp, Mv.gr_low h.gw lb m⟩
theorem OSt.clks (h : OSt b n w w1 w2 ts g c ms am cm W) (hge : 1 ≤ ts.length) : SlOf 5 RClk W (some ⟨g, 0, none⟩) (clks ts) := by
  obtain ⟨_, _, e, _, sl⟩ := clks_at h.own h.rows (by omega)
  cases e
  exact sl
theorem OSt.lm (h : OSt b n w w1 w2 ts g c ms am cm W) (hl : ts.length ≤ 16) (LS : LsOk (Go.Proofs.YtenehghpmnajpaaDoor.clks ts) ms) : SlOf 3 RLmt W am ms := by
  obtain ⟨_, _, e, sm⟩ := lmts_of_owns h.lims (by rw [clks_len]; exact hl) LS
  cases e
  exact sm
end
end Go.Proofs.YtenehghpmnajpaaDoor
