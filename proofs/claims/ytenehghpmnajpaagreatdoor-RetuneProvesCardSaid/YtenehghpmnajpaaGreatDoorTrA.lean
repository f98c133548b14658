/- Plain: lengths of shortest plans; and Plan in these words. -/
import Derived.Test.YtenehghpmnajpaaGreatDoorKq
set_option linter.unusedVariables false
set_option linter.unusedSimpArgs false
namespace Go.Proofs.YtenehghpmnajpaaGreatDoor
open Go.RowKit
open Classical

/-- The distances to a setting. -/
noncomputable def dS (l : List Clk) (cal : List Int → Bool) (t : List Int) : List Int → Option Int := look (afterB (nbS l cal) t (prodC l))
theorem dS_ok {l : List Clk} {cal : List Int → Bool} {t : List Int} (hs : SetOk l t) (hc : cal t = true) : DistOk l cal t (dS l cal t) := after_dist hs hc _ (after_len hs hc _)
theorem dS_unique {l : List Clk} {cal : List Int → Bool} {t : List Int} {D : List Int → Option Int} (h : DistOk l cal t D) (hs : SetOk l t) (hc : cal t = true) : D = dS l cal t := h.dist.unique _ (dS_ok hs hc).dist
/-- How many writes a shortest plan has, if there is one. -/
noncomputable def planN (l : List Clk) (ms : List Lmt) (f t : List Int) : Option Int := if (calS l ms f && calS l ms t) = true then dS l (calS l ms) t f else none
theorem planN_self {l : List Clk} {ms : List Lmt} {f : List Int} (hs : SetOk l f) (hc : calS l ms f = true) : planN l ms f f = some 0 := by
  unfold planN
  rw [if_pos (by rw [hc]; rfl)]
  exact (dS_ok hs hc).dist.zero
theorem planN_calm {l : List Clk} {ms : List Lmt} {f t : List Int} {d : Int} (h : planN l ms f t = some d) : calS l ms f = true ∧ calS l ms t = true ∧ dS l (calS l ms) t f = some d := by
  unfold planN at h
  split at h
  · rename_i hc
    simp at hc
    exact ⟨hc.1, hc.2, h⟩
  · cases h
theorem dS_tri {l : List Clk} {cal : List Int → Bool} {y z : List Int} (hy : SetOk l y) (hyc : cal y = true) (hz : SetOk l z) (hzc : cal z = true) {d2 : Int} (h2 : dS l cal z y = some d2) : ∀ (k : Nat) (x : List Int), dS l cal y x = some (k : Int) → ∃ d3, dS l cal z x = some d3 ∧ d3 ≤ k + d2 := by
  have Y := dS_ok hy hyc
  have Z := dS_ok hz hzc
  intro k
  induction k with
  | zero => intro x hx; have := Y.dist.only x hx; subst this; exact ⟨d2, h2, by simp⟩
  | succ k ih =>
    intro x hx
    obtain ⟨m, t, q1, q2, q3⟩ := Y.dist.par x _ hx (by omega)
    obtain ⟨d, q4, q5⟩ := ih m (by rw [q1]; congr 1; omega)
    obtain ⟨e, q6, q7⟩ := Z.dist.step m d t q4 q2
    rw [q3] at q6
    exact ⟨e, q6, by omega⟩
theorem planN_tri {l : List Clk} {ms : List Lmt} {x y z : List Int} (hy : SetOk l y) (hz : SetOk l z) {d1 d2 : Int} (h1 : planN l ms x y = some d1) (h2 : planN l ms y z = some d2) : ∃ d3, planN l ms x z = some d3 ∧ d3 ≤ d1 + d2 := by
  obtain ⟨cx, cy, e1⟩ := planN_calm h1
  obtain ⟨_, cz, e2⟩ := planN_calm h2
  have h0 := (dS_ok hy cy).dist.nonneg x d1 e1
  obtain ⟨d3, q1, q2⟩ := dS_tri hy cy hz cz e2 d1.toNat x (by rw [e1]; congr 1; omega)
  refine ⟨d3, ?_, by omega⟩
  unfold planN
  rw [if_pos (by rw [cx, cz]; rfl)]; exact q1
/-- A distance is less than the number of settings that are known. -/
theorem after_dist_lt {l : List Clk} {cal : List Int → Bool} {src : List Int} (hs : SetOk l src) (hc : cal src = true) : ∀ p, ∀ q ∈ afterB (nbS l cal) src p, q.2 < ((afterB (nbS l cal) src p).length : Int) := by
  intro p
  induction p with
  | zero => intro q hq; have : q = (src, 0) := by simpa [afterB] using hq
            subst this; simp [afterB]
  | succ p ih =>
    simp only [afterB, stepB]
    split
    · exact ih
    · rename_i x hx
      have hx2 := ih x (List.mem_of_getElem? hx)
      have key : ∀ (ts : List Nbr) (V : List (List Int × Int)), x.2 < (V.length : Int) → (∀ q ∈ V, q.2 < (V.length : Int)) → ∀ q ∈ ts.foldl (addB x.2) V, q.2 < ((ts.foldl (addB x.2) V).length : Int) := by
        intro ts
        induction ts with
        | nil => intro V _ h; exact h
        | cons t ts ih2 =>
          intro V hx3 h
          rw [List.foldl_cons]
          by_cases e : (look V t.2.2).isSome
          · have : addB x.2 V t = V := by unfold addB; rw [if_pos e]
            rw [this]; exact ih2 V hx3 h
          · have : addB x.2 V t = V ++ [(t.2.2, x.2 + 1)] := by unfold addB; rw [if_neg e]
            rw [this]
            refine ih2 _ (by simp; omega) (fun q hq => ?_)
            rcases List.mem_append.1 hq with hq | hq
            · have := h q hq; simp; omega
            · have : q = (t.2.2, x.2 + 1) := by simpa using hq
              subst this; simp; omega
      exact key _ _ hx2 ih
theorem planN_any (l : List Clk) (ms : List Lmt) (f t : List Int) (al am af at' : Option Addr) (cl cm cf ct : Nat) (w : World) (henv : Env w l ms al am) (hf : SetOk l f) (ht : SetOk l t) (sf : SlOf 1 RI w af f) (st : SlOf 1 RI w at' t) :
    Calls Tryz.prog 30 #[.slice al l.length cl, .slice af f.length cf, .slice at' t.length ct, .slice am ms.length cm] w fun e w' => Gr w w' ∧
      ∃ (a : Option Addr) (n c : Nat) (en : Int), e = .returned (.tuple #[.slice a n c, .int .i64 en]) ∧ 0 ≤ en ∧ en ≤ 9 ∧ n ≤ 4096 ∧ (planN l ms f t = none → en ≠ 0) ∧ ∀ d, planN l ms f t = some d → en = 0 ∧ (n : Int) = d := by
  refine (plan_any l ms f t al am af at' cl cm cf ct w henv hf ht sf st).mono ?_
  rintro e w' ⟨hg, h7, h0⟩
  refine ⟨hg, ?_⟩
  cases hc : (calS l ms f && calS l ms t) with
  | false =>
    have hp : planN l ms f t = none := by unfold planN; rw [if_neg (by rw [hc]; simp)]
    exact ⟨none, 0, 0, 7, h7 hc, by omega, by omega, by omega, (fun _ => by omega), (fun d q => by rw [hp] at q; cases q)⟩
  | true =>
    have ht2 : calS l ms t = true := by simp at hc; exact hc.2
    obtain ⟨D, hD, hn, hs⟩ := h0 hc
    have hp : planN l ms f t = D f := by unfold planN; rw [if_pos hc, ← dS_unique hD ht ht2]
    cases hd : D f with
    | none => exact ⟨none, 0, 0, 9, hn hd, by omega, by omega, by omega, (fun _ => by omega), (fun d q => by rw [hp, hd] at q; cases q)⟩
    | some d =>
      obtain ⟨v, rfl, ho⟩ := hs d hd
      obtain ⟨a, c, rfl⟩ := owns_slice ho
      have hl := planS_len hD hd
      have hb : d < 4096 := by
        have e1 : D = dS l (calS l ms) t := dS_unique hD ht ht2
        rw [e1] at hd
        have hm := look_some hd
        have h1 := after_len (l := l) ht ht2 (prodC l)
        have h2 := (cchk_zero henv.chk).2.2.1
        have h3 := (BInv.after (nbS l (calS l ms)) t (prodC l))
        have h4 := after_dist_lt ht ht2 (prodC l) _ hm
        simp only at h4
        omega
      exact ⟨a, _, c, 0, rfl, by omega, by omega, by omega, (fun q => by rw [hp, hd] at q; cases q), (fun d' q => by rw [hp, hd] at q; cases q; exact ⟨rfl, hl⟩)⟩
end Go.Proofs.YtenehghpmnajpaaGreatDoor
