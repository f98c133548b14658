/- Plain: the settings of a plan. No program in sight. -/
import Derived.Test.YtenehghpmnajpaaDoorTrA
set_option linter.unusedVariables false
set_option linter.unusedSimpArgs false
namespace Go.Proofs.YtenehghpmnajpaaDoor
open Classical

/-- A right write of a clock. -/
def WrOk (l : List Clk) (p : Int × Int) : Prop := ∃ u v : Nat, p = ((u : Int), (v : Int)) ∧ u < l.length ∧ (v : Int) < kOf l u
def putS (s : List Int) (p : Int × Int) : List Int := s.set p.1.toNat p.2
theorem putS_ok {l : List Clk} {s : List Int} {p : Int × Int} (hs : SetOk l s) (h : WrOk l p) : SetOk l (putS s p) := by
  obtain ⟨u, v, rfl, hu, hv⟩ := h
  exact hs.set hu (by omega) hv
theorem putS_len (s : List Int) (p : Int × Int) : (putS s p).length = s.length := by simp [putS]
/-- The settings after each write, without the first one. -/
def tailS (s : List Int) : List (Int × Int) → List (List Int)
  | [] => []
  | p :: ps => putS s p :: tailS (putS s p) ps
/-- All settings of a plan. -/
def pathS (s : List Int) (ps : List (Int × Int)) : List (List Int) := s :: tailS s ps
theorem tailS_len (ps : List (Int × Int)) : ∀ s, (tailS s ps).length = ps.length := by
  induction ps with
  | nil => intro _; rfl
  | cons p ps ih => intro s; simp [tailS, ih]
theorem pathS_len (s : List Int) (ps : List (Int × Int)) : (pathS s ps).length = ps.length + 1 := by simp [pathS, tailS_len]
theorem pathS_step (ps : List (Int × Int)) : ∀ (s : List Int) (i : Nat) (hi : i < ps.length), (pathS s ps)[i + 1]'(by rw [pathS_len]; omega) = putS ((pathS s ps)[i]'(by rw [pathS_len]; omega)) ps[i] := by
  induction ps with
  | nil => intro s i hi; simp at hi
  | cons p ps ih =>
    intro s i hi
    cases i with
    | zero => simp [pathS, tailS]
    | succ i =>
      have := ih (putS s p) i (by simpa using hi)
      simp only [pathS, tailS, List.getElem_cons_succ] at this ⊢
      exact this
theorem pathS_zero (s : List Int) (ps : List (Int × Int)) : (pathS s ps)[0]'(by simp [pathS]) = s := rfl
theorem pathS_ok {l : List Clk} (ps : List (Int × Int)) {s : List Int} (hs : SetOk l s) (hw : ∀ p ∈ ps, WrOk l p) (i : Nat) (hi : i < (pathS s ps).length) : SetOk l (pathS s ps)[i] := by
  induction i with
  | zero => exact hs
  | succ i ih =>
    have hi' : i < ps.length := by rw [pathS_len] at hi; omega
    rw [pathS_step ps s i hi']
    exact putS_ok (ih (by rw [pathS_len]; omega)) (hw _ (List.getElem_mem hi'))
section
variable {l : List Clk} {cal : List Int → Bool} {src : List Int} {D : List Int → Option Int}
/-- Each write of the plan is right, and leads one nearer. -/
theorem planB_ok (h : DistOk l cal src D) : ∀ (f : Nat) (x : List Int), D x = some (f : Int) →
    (∀ p ∈ planB (nbS l cal) (dz D) f x, WrOk l p) ∧ (∀ i (hi : i < (pathS x (planB (nbS l cal) (dz D) f x)).length), D (pathS x (planB (nbS l cal) (dz D) f x))[i] = some ((f : Int) - i)) := by
  intro f
  induction f with
  | zero =>
    intro x hx
    refine ⟨fun p hp => by simp [planB] at hp, fun i hi => ?_⟩
    have : i = 0 := by simp [planB, pathS, tailS] at hi; exact hi
    subst this
    simp [planB, pathS, hx]
  | succ f ih =>
    intro x hx
    have hz : dz D x = ((f + 1 : Nat) : Int) := by simp [dz, hx]
    obtain ⟨t, h1, h2, h3⟩ := h.found hx (by omega)
    obtain ⟨u, v, hu, hv, hne, hcal, rfl⟩ := mem_nbS.1 h2
    obtain ⟨i1, i2⟩ := ih (x.set u (v : Int)) (by rw [h3]; congr 1; omega)
    have e : planB (nbS l cal) (dz D) (f + 1) x = ((u : Int), (v : Int)) :: planB (nbS l cal) (dz D) f (x.set u (v : Int)) := by
      simp only [planB]
      rw [if_pos (by omega), h1]
    rw [e]
    refine ⟨fun p hp => ?_, fun i hi => ?_⟩
    · rcases List.mem_cons.1 hp with rfl | hp
      · exact ⟨u, v, rfl, hu, hv⟩
      · exact i1 p hp
    · cases i with
      | zero => simp [pathS, hx]
      | succ i =>
        have := i2 i (by simpa [pathS, tailS, putS] using hi)
        simp only [pathS, tailS, putS, List.getElem_cons_succ, Int.toNat_natCast] at this ⊢
        rw [this]; congr 1; omega
theorem planS_ok (h : DistOk l cal src D) {x : List Int} {d : Int} (hx : D x = some d) :
    (∀ p ∈ planS l cal D x, WrOk l p) ∧ (∀ i (hi : i < (pathS x (planS l cal D x)).length), D (pathS x (planS l cal D x))[i] = some (d - i)) := by
  have h0 := h.dist.nonneg x d hx
  have hz : dz D x = d := by simp [dz, hx]
  have := planB_ok h d.toNat x (by rw [hx]; congr 1; omega)
  rw [planS, hz]
  refine ⟨this.1, fun i hi => ?_⟩
  rw [this.2 i hi]; congr 1; omega
theorem planS_last (h : DistOk l cal src D) {x : List Int} {d : Int} (hx : D x = some d) : (pathS x (planS l cal D x))[(planS l cal D x).length]'(by rw [pathS_len]; omega) = src := by
  have hl := planS_len h hx
  have := (planS_ok h hx).2 (planS l cal D x).length (by rw [pathS_len]; omega)
  exact h.dist.only _ (by rw [this, hl]; simp)
/-- No setting comes twice. -/
theorem planS_nodup (h : DistOk l cal src D) {x : List Int} {d : Int} (hx : D x = some d) (i k : Nat) (hi : i < (pathS x (planS l cal D x)).length) (hk : k < i) : (pathS x (planS l cal D x))[i] ≠ (pathS x (planS l cal D x))[k]'(by omega) := by
  intro e
  have h1 := (planS_ok h hx).2 i hi
  have h2 := (planS_ok h hx).2 k (by omega)
  rw [e, h2] at h1
  injection h1 with h1
  omega
/-- A way is at least as long as the choices that differ are many. -/
theorem ham_le (h : DistOk l cal src D) : ∀ (k : Nat) (x : List Int), D x = some (k : Int) → ham l.length x src ≤ k := by
  intro k
  induction k with
  | zero => intro x hx; have := h.dist.only x hx; subst this; rw [ham_self]; exact Nat.le_refl _
  | succ k ih =>
    intro x hx
    obtain ⟨m, t, h1, h2, h3⟩ := h.dist.par x _ hx (by omega)
    have hm := ih m (by rw [h1]; congr 1; omega)
    obtain ⟨i, j, hi, hj, hne, _, rfl⟩ := mem_nbS.1 h2
    have := ham_set (b := src) (x := (j : Int)) hi (h.ok m _ h1).1.1.symm
    simp only at h3
    rw [h3] at this
    split at this <;> split at this <;> omega
/-- With more that is calm ways are no longer. -/
theorem dist_mono {cal' : List Int → Bool} {D' : List Int → Option Int} (h : DistOk l cal src D) (h' : DistOk l cal' src D') (hc : ∀ x, cal x = true → cal' x = true) : ∀ (k : Nat) (x : List Int), D x = some (k : Int) → ∃ d, D' x = some d ∧ d ≤ k := by
  intro k
  induction k with
  | zero => intro x hx; have := h.dist.only x hx; subst this; exact ⟨0, h'.dist.zero, by simp⟩
  | succ k ih =>
    intro x hx
    obtain ⟨m, t, q1, q2, q3⟩ := h.dist.par x _ hx (by omega)
    obtain ⟨d, q4, q5⟩ := ih m (by rw [q1]; congr 1; omega)
    have hn : t ∈ nbS l cal' m := by
      obtain ⟨i, j, hi, hj, h1, h2, h3⟩ := mem_nbS.1 q2
      exact mem_nbS.2 ⟨i, j, hi, hj, h1, hc _ h2, h3⟩
    obtain ⟨e, q6, q7⟩ := h'.dist.step m d t q4 hn
    rw [q3] at q6
    exact ⟨e, q6, by omega⟩
end
end Go.Proofs.YtenehghpmnajpaaDoor
