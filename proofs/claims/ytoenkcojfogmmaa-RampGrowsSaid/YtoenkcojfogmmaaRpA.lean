/- Plain facts for the walks of the Ramp laws (printed by wip/tools/ramps.py). -/
import Derived.Test.YtoenkcojfogmmaaMkD
import Derived.Test.YtoenkcojfogmmaaPlB
set_option linter.unusedVariables false
set_option linter.unusedSimpArgs false
namespace Go.Proofs.Ytoenkcojfogmmaa
open Go.RowKit
open Classical

theorem Mv.out {w W w' : World} {b len : Nat} (hg : Gr w W) (h : Mv b len W w') (hb : w.heap.size ≤ b) : Gr w w' := by
  obtain ⟨p, h0, h1, g⟩ := h
  exact (hg.setc hb).trans g
theorem planE_zero {l : List Sup} {a b : Rls} {d : List Drw} (ha : MeetsAll l a d) (hb : MeetsAll l b d) : planE l a b d = 0 := by
  have : begR l [a, b] = 0 := begR_of ha.1.1 (by simp; exact ⟨ha.2.1, hb.2.1⟩)
  rw [planE, if_pos this, if_pos ha.1, if_pos ⟨ha, hb⟩]
end Go.Proofs.Ytoenkcojfogmmaa
