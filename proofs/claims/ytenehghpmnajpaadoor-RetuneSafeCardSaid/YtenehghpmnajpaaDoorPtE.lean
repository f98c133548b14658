/- Plan with its writes; the settings of a plan in memory. -/
import Derived.Test.YtenehghpmnajpaaDoorPtD
set_option linter.unusedVariables false
set_option linter.unusedSimpArgs false
namespace Go.Proofs.YtenehghpmnajpaaDoor
open Go.RowKit
open Classical

/-- What a shortest plan is. -/
structure PlanOk (l : List Clk) (ms : List Lmt) (f t : List Int) (ps : List (Int × Int)) : Prop where
  wr : ∀ p ∈ ps, WrOk l p
  len : ps.length < 4096
  ham : ∀ i (hi : i < (pathS f ps).length), ham l.length (pathS f ps)[i] t + i ≤ ps.length
  diff : ∀ i k (hi : i < (pathS f ps).length) (hk : k < i), (pathS f ps)[i] ≠ (pathS f ps)[k]'(by omega)
  last : (pathS f ps)[ps.length]'(by rw [pathS_len]; omega) = t
  calm : ∀ i (hi : i < (pathS f ps).length), calS l ms (pathS f ps)[i] = true
  ok : ∀ i (hi : i < (pathS f ps).length), SetOk l (pathS f ps)[i]
theorem planOk_of {l : List Clk} {ms : List Lmt} {f t : List Int} {D : List Int → Option Int} {d : Int} (hD : DistOk l (calS l ms) t D) (hd : D f = some d) (hb : d < 4096) : PlanOk l ms f t (planS l (calS l ms) D f) := by
  have hl := planS_len hD hd
  have h0 := hD.dist.nonneg f d hd
  obtain ⟨h1, h2⟩ := planS_ok hD hd
  have h3 : ∀ i (hi : i < (pathS f (planS l (calS l ms) D f)).length), i ≤ (planS l (calS l ms) D f).length := fun i hi => by rw [pathS_len] at hi; omega
  refine ⟨h1, by omega, fun i hi => ?_, fun i k hi hk => planS_nodup hD hd i k hi hk, planS_last hD hd, fun i hi => (hD.ok _ _ (h2 i hi)).2, fun i hi => (hD.ok _ _ (h2 i hi)).1⟩
  have := h3 i hi
  have := ham_le hD (d - i).toNat _ (by rw [h2 i hi]; congr 1; omega)
  omega
theorem wide_wr {l : List Clk} {ps : List (Int × Int)} (hc : cchk l = 0) (h : ∀ p ∈ ps, WrOk l p) : WideW ps := fun p hp => by
  obtain ⟨u, v, rfl, hu, hv⟩ := h p hp
  have hl := small_len (cchk_zero hc).1
  obtain ⟨fp, fc⟩ := small_at (cchk_zero hc).1 hu
  rw [kOf_at hu] at hv
  exact ⟨by unfold Wide; simp only; omega, by unfold Wide; simp only; omega⟩
def GivesPlanW (w : World) (l : List Clk) (ms : List Lmt) (f t : List Int) (e : Ending) (w' : World) : Prop :=
  Gr w w' ∧ ((planN l ms f t = none ∧ e = .returned (.tuple #[.slice none 0 0, .int .i64 9])) ∨
    ∃ (ps : List (Int × Int)) (a : Option Addr) (c : Nat), planN l ms f t = some (ps.length : Int) ∧ e = .returned (.tuple #[.slice a ps.length c, .int .i64 0]) ∧ SlOf 3 RWc w' a ps ∧ PlanOk l ms f t ps)
theorem planW_any (l : List Clk) (ms : List Lmt) (f t : List Int) (al am af at' : Option Addr) (cl cm cf ct : Nat) (w : World) (henv : Env w l ms al am) (hf : SetOk l f) (ht : SetOk l t) (sf : SlOf 1 RI w af f) (st : SlOf 1 RI w at' t) (cf' : calS l ms f = true) (ct' : calS l ms t = true) :
    Calls Tryd.prog 15 #[.slice al l.length cl, .slice af f.length cf, .slice at' t.length ct, .slice am ms.length cm] w (GivesPlanW w l ms f t) := by
  refine (plan_any l ms f t al am af at' cl cm cf ct w henv hf ht sf st).mono ?_
  rintro e w' ⟨hg, _, h0⟩
  refine ⟨hg, ?_⟩
  obtain ⟨D, hD, hn, hs⟩ := h0 (by rw [cf', ct']; rfl)
  have hp : planN l ms f t = D f := by unfold planN; rw [if_pos (by rw [cf', ct']; rfl), ← dS_unique hD ht ct']
  cases hd : D f with
  | none => exact .inl ⟨by rw [hp, hd], hn hd⟩
  | some d =>
    obtain ⟨v, rfl, ho⟩ := hs d hd
    have hl := planS_len hD hd
    have hb : d < 4096 := by
      have e1 : D = dS l (calS l ms) t := dS_unique hD ht ct'
      rw [e1] at hd
      have hm := look_some hd
      have h1 := after_len (l := l) ht ct' (prodC l)
      have h2 := (cchk_zero henv.chk).2.2.1
      have h4 := after_dist_lt ht ct' (prodC l) _ hm
      simp only at h4
      omega
    have P := planOk_of hD hd hb
    obtain ⟨a, c, rfl, _, hsl⟩ := writes_at ho (wide_wr henv.chk P.wr)
    exact .inr ⟨_, a, c, by rw [hp, hd, hl], rfl, hsl, P⟩
theorem calS_free {l : List Clk} {ms : List Lmt} {x : List Int} (h : calS l ms x = true) : calS l [] x = true := by
  have h' := of_decide_eq_true h
  exact decide_eq_true ⟨h'.1, fun j hj => by simp at hj⟩
/-- With fewer limits plans are no longer. -/
theorem planN_free {l : List Clk} {ms : List Lmt} {f t : List Int} (hf : SetOk l f) (ht : SetOk l t) {d : Int} (h : planN l ms f t = some d) : ∃ d', planN l [] f t = some d' ∧ d' ≤ d := by
  obtain ⟨c1, c2, hd⟩ := planN_calm h
  have h0 := (dS_ok ht c2).dist.nonneg f d hd
  obtain ⟨d', q1, q2⟩ := dist_mono (dS_ok ht c2) (dS_ok ht (calS_free c2)) (fun x hx => calS_free hx) d.toNat f (by rw [hd]; congr 1; omega)
  refine ⟨d', ?_, by omega⟩
  unfold planN
  rw [if_pos (by rw [calS_free c1, calS_free c2]; rfl)]; exact q1
/-- Settings in memory: a row of slices. -/
def PathAt (w : World) (a : Option Addr) (L : Nat) (path : List (List Int)) : Prop :=
  ∀ k (hk : k < path.length), ∃ g B cx, a = some ⟨g, 0, none⟩ ∧ w.cell? ⟨g, k, none⟩ = some (.slice (some ⟨B, 0, none⟩) L cx) ∧ RowS w B 3 (nums path[k])
theorem PathAt.gr {w w' : World} {a : Option Addr} {L : Nat} {path : List (List Int)} (h : PathAt w a L path) (hg : Gr w w') : PathAt w' a L path := fun k hk => by
  obtain ⟨g, B, cx, e, h1, h2⟩ := h k hk
  exact ⟨g, B, cx, e, cell_gr hg h1, h2.gr hg⟩
theorem GivesPath.at {w w' : World} {s : List Int} {ps : List (Int × Int)} {e : Ending} (h : GivesPath w s ps e w') : ∃ a c, e = .returned (.tuple #[.slice a (ps.length + 1) c, .int .i64 0]) ∧ PathAt w' a s.length (pathS s ps) ∧ Gr w w' := by
  obtain ⟨os, a, c, rfl, hp, ho, hi, hg⟩ := h
  refine ⟨a, c, rfl, fun k hk => ?_, hg⟩
  have hl : os.length = ps.length + 1 := by have := congrArg List.length hp; rwa [List.length_map, pathS_len] at this
  have hk' : k < os.length := by rw [pathS_len] at hk; omega
  obtain ⟨g, cap, e, _, _, hc⟩ := owns_cell ho (by omega)
  cases e
  have q := hc k (by omega)
  rw [List.getElem?_eq_getElem (by rw [List.length_map]; omega), List.getElem_map] at q
  have hr := (hi os[k] (List.getElem_mem _)).1
  have et : os[k].t = (pathS s ps)[k] := by
    have e1 : (os.map OT.t)[k]'(by rw [List.length_map]; omega) = (pathS s ps)[k] := by simp only [hp]
    rwa [List.getElem_map] at e1
  rw [et] at hr
  exact ⟨g, os[k].B, os[k].c, rfl, q, hr⟩
end Go.Proofs.YtenehghpmnajpaaDoor
