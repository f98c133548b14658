/- Plain: plans there and back are equally long; closed sets of settings, and what their check says. No program in sight. -/
import Derived.Test.YtenehghpmnajpaaGreatDoorTrA
set_option linter.unusedVariables false
set_option linter.unusedSimpArgs false
namespace Go.Proofs.YtenehghpmnajpaaGreatDoor
open Go.RowKit
open Classical

theorem dS_sym {l : List Clk} {cal : List Int → Bool} {y : List Int} (hy : SetOk l y) (hyc : cal y = true) : ∀ (k : Nat) (x : List Int), dS l cal y x = some (k : Int) → ∃ d, dS l cal x y = some d ∧ d ≤ k := by
  have Y := dS_ok hy hyc
  intro k
  induction k with
  | zero => intro x hx; have := Y.dist.only x hx; subst this; exact ⟨0, Y.dist.zero, by simp⟩
  | succ k ih =>
    intro x hx
    obtain ⟨m, t, q1, q2, q3⟩ := Y.dist.par x _ hx (by omega)
    have q1' : dS l cal y m = some (k : Int) := by rw [q1]; congr 1; omega
    obtain ⟨d, q4, q5⟩ := ih m q1'
    obtain ⟨mok, mcal⟩ := Y.ok m _ q1'
    obtain ⟨xok, xcal⟩ := Y.ok x _ hx
    have X := dS_ok xok xcal
    obtain ⟨u, hu, e⟩ := nb_sym q2 mok mcal
    rw [q3] at hu
    obtain ⟨c, c1, c2⟩ := X.dist.step x 0 u X.dist.zero hu
    rw [e] at c1
    have h0 := (dS_ok mok mcal).dist.nonneg y d q4
    obtain ⟨d3, q6, q7⟩ := dS_tri mok mcal xok xcal c1 d.toNat y (by rw [q4]; congr 1; omega)
    exact ⟨d3, q6, by omega⟩
theorem planN_sym {l : List Clk} {ms : List Lmt} {f t : List Int} (hf : SetOk l f) (ht : SetOk l t) {d : Int} (h : planN l ms f t = some d) : planN l ms t f = some d := by
  obtain ⟨c1, c2, hd⟩ := planN_calm h
  have h0 := (dS_ok ht c2).dist.nonneg f d hd
  obtain ⟨e, q1, q2⟩ := dS_sym ht c2 d.toNat f (by rw [hd]; congr 1; omega)
  have h1 := (dS_ok hf c1).dist.nonneg t e q1
  obtain ⟨d', q3, q4⟩ := dS_sym hf c1 e.toNat t (by rw [q1]; congr 1; omega)
  rw [hd] at q3
  cases q3
  unfold planN
  rw [if_pos (by rw [c1, c2]; rfl), q1]; congr 1; omega
/-- The number of the setting before a place, -1 ahead of the first one. -/
def lastN (l : List Clk) (cs : List (List Int)) : Nat → Int
  | 0 => -1
  | k + 1 => num l (cs.getD k [])
/-- The first settings are calm, and their numbers rise. -/
def risTo (l : List Clk) (cal : List Int → Bool) (cs : List (List Int)) : Nat → Prop
  | 0 => True
  | k + 1 => risTo l cal cs k ∧ cal (cs.getD k []) = true ∧ lastN l cs k < num l (cs.getD k [])
/-- No write leads out. -/
def ClosedS (l : List Clk) (cal : List Int → Bool) (cs : List (List Int)) : Prop := ∀ s ∈ cs, ∀ q ∈ nbS l cal s, q.2.2 ∈ cs
/-- The check of a closed list. -/
def ChkC (l : List Clk) (cal : List Int → Bool) (f t : List Int) (cs : List (List Int)) : Prop := risTo l cal cs cs.length ∧ f ∈ cs ∧ t ∉ cs ∧ ClosedS l cal cs
def SetsOk (l : List Clk) (cs : List (List Int)) : Prop := ∀ s ∈ cs, SetOk l s
section
variable {l : List Clk} {cal : List Int → Bool} {cs : List (List Int)} {f t : List Int}
theorem risTo.le {k : Nat} : ∀ {j : Nat}, risTo l cal cs j → k ≤ j → risTo l cal cs k := by
  intro j
  induction j with
  | zero => intro h hk; have : k = 0 := by omega
            subst this; trivial
  | succ j ih =>
    intro h hk
    by_cases e : k = j + 1
    · subst e; exact h
    · exact ih h.1 (by omega)
theorem getD_at {k : Nat} (h : k < cs.length) : cs.getD k [] = cs[k] := by simp [List.getD_eq_getElem?_getD, List.getElem?_eq_getElem h]
theorem risTo.below : ∀ {k : Nat}, risTo l cal cs k → ∀ i, i < k → num l (cs.getD i []) ≤ lastN l cs k := by
  intro k
  induction k with
  | zero => intro _ i hi; omega
  | succ k ih =>
    intro h i hi
    by_cases e : i = k
    · subst e; exact Int.le_refl _
    · have := ih h.1 i (by omega)
      have := h.2.2
      show num l (cs.getD i []) ≤ num l (cs.getD k [])
      omega
theorem lastN_bound (hc : cchk l = 0) (ho : SetsOk l cs) {k : Nat} (hk : k ≤ cs.length) : -1 ≤ lastN l cs k ∧ lastN l cs k < 4096 := by
  cases k with
  | zero => simp [lastN]
  | succ k =>
    have := num_small hc (ho _ (List.getElem_mem (by omega : k < cs.length)))
    simp only [lastN, getD_at (show k < cs.length by omega)]
    omega
/-- The entries of the map after some settings. -/
def entV (l : List Clk) (cs : List (List Int)) : List (Int × Bool) := (cs.map fun s => (s, true)).map fun q => (num l q.1, q.2)
theorem entV_len : (entV l cs).length = cs.length := by simp [entV]
theorem look_ent (ho : SetsOk l cs) {s : List Int} (hs : SetOk l s) : look (entV l cs) (num l s) = if s ∈ cs then some true else none := by
  unfold entV
  rw [look_num (fun q hq => by obtain ⟨u, hu, rfl⟩ := List.mem_map.1 hq; exact ho u hu) hs]
  split
  · rename_i hm
    cases e : look (cs.map fun s => (s, true)) s with
    | none => exact absurd (by simpa using hm) (look_none.1 e)
    | some x =>
      have := look_some e
      obtain ⟨u, _, hu⟩ := List.mem_map.1 this
      injection hu with _ hx
      rw [← hx]
  · rename_i hm
    exact look_none.2 (by simpa using hm)
theorem look_ent_new {k : Nat} (hk : k < cs.length) (hr : risTo l cal cs k) (hlt : lastN l cs k < num l cs[k]) : look (entV l (cs.take k)) (num l cs[k]) = none := by
  refine look_none.2 (fun hm => ?_)
  obtain ⟨q, hq, e⟩ := List.mem_map.1 hm
  obtain ⟨q', hq', rfl⟩ := List.mem_map.1 hq
  obtain ⟨s, hs, rfl⟩ := List.mem_map.1 hq'
  obtain ⟨i, hi, e2⟩ := List.mem_iff_getElem.1 hs
  simp only [List.length_take] at hi
  rw [List.getElem_take] at e2
  have := hr.below i (by omega)
  rw [getD_at (by omega), e2] at this
  simp only at e
  omega
theorem entV_snoc {k : Nat} (hk : k < cs.length) : entV l (cs.take (k + 1)) = entV l (cs.take k) ++ [(num l cs[k], true)] := by
  unfold entV
  rw [List.take_add_one, List.getElem?_eq_getElem hk, Option.toList, List.map_append, List.map_append]
  rfl
theorem SetsOk.take (h : SetsOk l cs) (k : Nat) : SetsOk l (cs.take k) := fun s hs => h s (List.mem_of_mem_take hs)
theorem foldl_and {α : Type} (p : α → Bool) (ts : List α) : ∀ b : Bool, ts.foldl (fun b t => b && p t) b = (b && ts.all p) := by
  induction ts with
  | nil => intro b; simp
  | cons t ts ih => intro b; rw [List.foldl_cons, ih, List.all_cons, Bool.and_assoc]
/-! What is reached is a closed set. -/
theorem reach_chk {D : List Int → Option Int} (hD : DistOk l cal f D) (ht : D t = none) (hm : ∀ s, s ∈ cs ↔ (D s).isSome) (hr : ∀ i j (hi : i < cs.length) (hj : j < i), num l cs[j] < num l cs[i]) : ChkC l cal f t cs := by
  have hok : ∀ s ∈ cs, SetOk l s ∧ cal s = true := fun s hs => by
    have := (hm s).1 hs
    obtain ⟨d, hd⟩ := Option.isSome_iff_exists.1 this
    exact hD.ok s d hd
  have key : ∀ k, k ≤ cs.length → risTo l cal cs k := by
    intro k
    induction k with
    | zero => intro _; trivial
    | succ k ih =>
      intro hk
      refine ⟨ih (by omega), ?_, ?_⟩
      · rw [getD_at (by omega)]; exact (hok _ (List.getElem_mem (by omega))).2
      · rw [getD_at (by omega)]
        cases k with
        | zero =>
          have := (num_bound (hok _ (List.getElem_mem (show 0 < cs.length by omega))).1).1
          simp only [lastN]; omega
        | succ k =>
          simp only [lastN]
          rw [getD_at (by omega)]
          exact hr (k + 1) k (by omega) (by omega)
  refine ⟨key _ (Nat.le_refl _), (hm f).2 (by rw [hD.dist.zero]; rfl), fun h => ?_, fun s hs q hq => ?_⟩
  · have := (hm t).1 h; rw [ht] at this; cases this
  · obtain ⟨d, hd⟩ := Option.isSome_iff_exists.1 ((hm s).1 hs)
    obtain ⟨e, he, _⟩ := hD.dist.step s d q hd hq
    exact (hm _).2 (by rw [he]; rfl)
end
end Go.Proofs.YtenehghpmnajpaaGreatDoor
