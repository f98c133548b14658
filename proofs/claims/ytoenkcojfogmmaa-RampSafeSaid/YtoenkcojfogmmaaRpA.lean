/- Plain facts for the walks of the Ramp laws (printed by wip/tools/ramps.py). -/
import Derived.Test.YtoenkcojfogmmaaMkD
import Derived.Test.YtoenkcojfogmmaaPlB
set_option linter.unusedVariables false
set_option linter.unusedSimpArgs false
namespace Go.Proofs.Ytoenkcojfogmmaa
open Go.RowKit
open Classical

theorem Mv.out {w W w' : World} {b len : Nat} (hg : Gr w W) (h : Mv b len W w') (hb : w.heap.size ≤ b) : Gr w w' := by
  obtain ⟨p, h0, h1, g⟩ := h
  exact (hg.setc hb).trans g
theorem planE_zero {l : List Sup} {a b : Rls} {d : List Drw} (ha : MeetsAll l a d) (hb : MeetsAll l b d) : planE l a b d = 0 := by
  have : begR l [a, b] = 0 := begR_of ha.1.1 (by simp; exact ⟨ha.2.1, hb.2.1⟩)
  rw [planE, if_pos this, if_pos ha.1, if_pos ⟨ha, hb⟩]
/-- The write that undoes another one. -/
noncomputable def undoW (X : Rls) (p : Wri) : Wri := ⟨p.kind, p.unit, if p.kind = 2 then lvAt X p.unit.toNat else 1 - p.value⟩
theorem undo_val {l : List Sup} {p : Wri} (h : WOk l p) : p.kind = 3 → p.value = 0 ∨ p.value = 1 := by
  intro q
  obtain ⟨_, _, _, hbad⟩ := h
  simp only [BadVal, not_or, not_and] at hbad
  have h1 := hbad.1
  have h2 := hbad.2.2 (by omega)
  omega
theorem undo_app {l : List Sup} {X : Rls} {p : Wri} (hX : RlsOk l X) (hw : WOk l p) (hne : applyR X p ≠ X) : applyR (applyR X p) (undoW X p) = X := by
  have hv := undo_val hw
  obtain ⟨kd, un, vl⟩ := p
  obtain ⟨hk, h0, h1, _⟩ := hw
  simp only at hk h0 h1 hv
  obtain ⟨u, rfl⟩ : ∃ u : Nat, un = (u : Int) := ⟨un.toNat, by omega⟩
  have n1 := hX.2.1
  have n2 := hX.2.2.1
  rcases hk with rfl | rfl
  · rw [applyR_lv (u := u) rfl rfl, applyR_lv (u := u) rfl rfl]
    have hu : u < X.level.length := by omega
    simp only [undoW, if_true, Int.toNat_natCast, List.set_set]
    rw [lvAt_eq hu, List.set_getElem_self]
  · have hu : u < X.on.length := by omega
    rw [applyR_on (u := u) (by show (3 : Int) ≠ 2; decide) rfl] at hne
    rw [applyR_on (u := u) (by show (3 : Int) ≠ 2; decide) rfl, applyR_on (u := u) (by show (3 : Int) ≠ 2; decide) rfl]
    have hx : X.on[u] ≠ (vl == 1) := fun q => hne (by simp only; rw [← q, List.set_getElem_self])
    have hy : ((1 - vl) == 1) = X.on[u] := by
      rcases hv rfl with rfl | rfl
      · cases hq : X.on[u] with
        | true => rfl
        | false => exact absurd (hq.trans (by decide)) hx
      · cases hq : X.on[u] with
        | false => rfl
        | true => exact absurd (hq.trans (by decide)) hx
    simp only [undoW, List.set_set]
    rw [if_neg (by decide), hy, List.set_getElem_self]
theorem undo_wok {l : List Sup} {X : Rls} {p : Wri} (hX : RlsOk l X) (hw : WOk l p) : WOk l (undoW X p) := by
  have hv := undo_val hw
  obtain ⟨kd, un, vl⟩ := p
  obtain ⟨hk, h0, h1, _⟩ := hw
  simp only at hk h0 h1 hv
  obtain ⟨u, rfl⟩ : ∃ u : Nat, un = (u : Int) := ⟨un.toNat, by omega⟩
  rcases hk with rfl | rfl
  · have := wok_lv hX (k := u) (by omega)
    simpa [undoW] using this
  · rcases hv rfl with rfl | rfl
    · have := wok_on (l := l) true (k := u) (by omega)
      simpa [undoW] using this
    · have := wok_on (l := l) false (k := u) (by omega)
      simpa [undoW] using this
theorem tr_meets {l : List Sup} {d : List Drw} {c : Nat} {a : Rls} {ps : List Wri} (ha : MeetsAll l a d) (h : Tr (Pall l d c) a ps) (j : Nat) (hj : j ≤ ps.length) : MeetsAll l (runW a (ps.take j)) d := by
  cases j with
  | zero => simpa [runW] using ha
  | succ j =>
    rw [runW_succ a ps j (by omega)]
    exact (h j (by omega)).1.2.1
theorem undo_wide {l : List Sup} {X : Rls} {p : Wri} (hX : RlsOk l X) (hw : WOk l p) (hp : WWide p) : WWide (undoW X p) := by
  refine ⟨hp.1, hp.2.1, ?_⟩
  show Wide (if p.kind = 2 then _ else _)
  split
  · exact rls_wide hX _
  · rename_i h
    have := undo_val hw (by rcases hw.1 with q | q; exact absurd q h; exact q)
    unfold Wide; omega
theorem sameRails_yes (a : Rls) (a1 a2 a3 a4 : Option Addr) (c1 c2 c3 c4 : Nat) (w : World) (h1 : SlOf 1 RB w a1 a.on) (h2 : SlOf 1 RI w a2 a.level) (h3 : SlOf 1 RB w a3 a.on) (h4 : SlOf 1 RI w a4 a.level) (f1 : Fit a.on.length) (f2 : Fit a.level.length) :
    Calls Try.prog 18 #[.agg #[.slice a1 a.on.length c1, .slice a2 a.level.length c2], .agg #[.slice a3 a.on.length c3, .slice a4 a.level.length c4]] w (Grows w (.bool true)) := by
  have := sameRails_any a a a1 a2 a3 a4 c1 c2 c3 c4 w h1 h2 h3 h4 f1 f2 f1 f2
  rwa [show decide (a = a) = true by simp] at this
theorem sameRails_no (a b : Rls) (hne : a ≠ b) (a1 a2 a3 a4 : Option Addr) (c1 c2 c3 c4 : Nat) (w : World) (h1 : SlOf 1 RB w a1 a.on) (h2 : SlOf 1 RI w a2 a.level) (h3 : SlOf 1 RB w a3 b.on) (h4 : SlOf 1 RI w a4 b.level) (f1 : Fit a.on.length) (f2 : Fit a.level.length) (f3 : Fit b.on.length) (f4 : Fit b.level.length) :
    Calls Try.prog 18 #[.agg #[.slice a1 a.on.length c1, .slice a2 a.level.length c2], .agg #[.slice a3 b.on.length c3, .slice a4 b.level.length c4]] w (Grows w (.bool false)) := by
  have := sameRails_any a b a1 a2 a3 a4 c1 c2 c3 c4 w h1 h2 h3 h4 f1 f2 f3 f4
  rwa [decide_eq_false hne] at this
theorem refMeets_yes (l : List Sup) (r : Rls) (d : List Drw) (hm : MeetsAll l r d) (ao a1 a2 a3 : Option Addr) (cap c1 c2 c3 : Nat) (w : World) (h : SlOf 5 RSup w ao l) (hf : Fit l.length) (h1 : SlOf 1 RB w a1 r.on) (h2 : SlOf 1 RI w a2 r.level) (h3 : SlOf 4 RDrw w a3 d) (f1 : Fit r.on.length) (f2 : Fit r.level.length) (f3 : Fit d.length) :
    Calls Try.prog 16 #[.slice ao l.length cap, .agg #[.slice a1 r.on.length c1, .slice a2 r.level.length c2], .slice a3 d.length c3] w (Grows w (.bool true)) := by
  have := refMeets_any l r d ao a1 a2 a3 cap c1 c2 c3 w h hf h1 h2 h3 f1 f2 f3
  rwa [decide_eq_true hm] at this
end Go.Proofs.Ytoenkcojfogmmaa
