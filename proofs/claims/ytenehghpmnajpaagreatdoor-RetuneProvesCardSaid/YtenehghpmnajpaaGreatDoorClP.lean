/- Plain: whole numbers collected off a map and sorted; the settings that have them. No program in sight. -/
import Derived.Test.YtenehghpmnajpaaGreatDoorCsP
set_option linter.unusedVariables false
set_option linter.unusedSimpArgs false
namespace Go.Proofs.YtenehghpmnajpaaGreatDoor
open Go.RowKit
open Classical

/-- The keys met so far: those that the map has and that are no longer to come. -/
def CollI {β : Type} (V : List (Int × β)) (left : Lit → Bool) (zs : List Int) : Prop := zs.Nodup ∧ ∀ x, x ∈ zs ↔ ((look V x).isSome = true ∧ left (.int .i64 x) = false)
section
variable {β : Type} {V : List (Int × β)} {left : Lit → Bool} {zs : List Int}
theorem CollI.start (h : ∀ k, left (.int .i64 k) = (look V k).isSome) : CollI V left [] := ⟨List.nodup_nil, fun x => by rw [h x]; cases (look V x).isSome <;> simp⟩
theorem CollI.step (h : CollI V left zs) {x : Int} (hl : left (.int .i64 x) = true) (hx : (look V x).isSome = true) : CollI V (fun z => left z && !z.sameKey (.int .i64 x)) (zs ++ [x]) := by
  have hnew : x ∉ zs := fun hm => by have := ((h.2 x).1 hm).2; rw [hl] at this; cases this
  refine ⟨List.nodup_append.2 ⟨h.1, by simp, fun a ha b hb => by simp at hb; subst hb; exact fun e => hnew (e ▸ ha)⟩, fun y => ?_⟩
  by_cases hy : y = x
  · subst hy; simp [hx, Lit.sameKey]
  · simp [h.2 y, hy, Lit.sameKey]
theorem CollI.len (h : CollI V left zs) {n : Nat} (hb : ∀ x, (look V x).isSome = true → 0 ≤ x ∧ x < (n : Int)) : zs.length ≤ n := nodup_int_le h.1 (fun x hx => hb x ((h.2 x).1 hx).1)
end
theorem mergeSort_strict {zs : List Int} (hn : zs.Nodup) : (zs.mergeSort fun x y => decide (x ≤ y)).Pairwise (· < ·) := by
  have tr : ∀ a b c : Int, decide (a ≤ b) = true → decide (b ≤ c) = true → decide (a ≤ c) = true := fun a b c h1 h2 => by simp only [decide_eq_true_eq] at *; omega
  have tot : ∀ a b : Int, (decide (a ≤ b) || decide (b ≤ a)) = true := fun a b => by simp only [Bool.or_eq_true, decide_eq_true_eq]; omega
  have h1 := List.pairwise_mergeSort tr tot zs
  have h2 : (zs.mergeSort fun x y => decide (x ≤ y)).Nodup := (List.mergeSort_perm zs _).nodup_iff.2 hn
  have h2' : (zs.mergeSort fun x y => decide (x ≤ y)).Pairwise (· ≠ ·) := h2
  exact (h1.and h2').imp (fun {a b} h => by have := h.1; simp only [decide_eq_true_eq] at this; have := h.2; omega)
/-- The settings that have these numbers, if each of the numbers has one. -/
theorem sets_of {l : List Clk} {P : List Int → Prop} : ∀ zs : List Int, (∀ x ∈ zs, ∃ s, P s ∧ num l s = x) → ∃ cs : List (List Int), cs.map (num l) = zs ∧ ∀ s ∈ cs, P s := by
  intro zs
  induction zs with
  | nil => intro _; exact ⟨[], rfl, by simp⟩
  | cons z zs ih =>
    intro h
    obtain ⟨cs, e, hp⟩ := ih (fun x hx => h x (List.mem_cons_of_mem _ hx))
    obtain ⟨s, hs, e2⟩ := h z List.mem_cons_self
    exact ⟨s :: cs, by simp [e, e2], fun u hu => by rcases List.mem_cons.1 hu with e | e; (subst e; exact hs); exact hp u e⟩
/-- The settings that are known, by their numbers. -/
theorem sorted_sets {l : List Clk} {D : List Int → Option Int} {V : List (List Int × Int)} {left : Lit → Bool} {zs : List Int} (hV : ∀ q ∈ V, SetOk l q.1) (hD : D = look V) (hc : CollI (V.map fun q => (num l q.1, q.2)) left zs) (hl : ∀ k, left (.int .i64 k) = false) :
    ∃ cs : List (List Int), cs.map (num l) = (zs.mergeSort fun x y => decide (x ≤ y)) ∧ SetsOk l cs ∧ (∀ s, s ∈ cs ↔ (D s).isSome) ∧ ∀ i j (hi : i < cs.length) (hj : j < i), num l cs[j] < num l cs[i] := by
  subst hD
  have hmem : ∀ x, x ∈ (zs.mergeSort fun x y => decide (x ≤ y)) ↔ x ∈ zs := fun x => List.mem_mergeSort
  have hfrom : ∀ x ∈ (zs.mergeSort fun x y => decide (x ≤ y)), ∃ s, (SetOk l s ∧ (look V s).isSome) ∧ num l s = x := fun x hx => by
    have h1 := ((hc.2 x).1 ((hmem x).1 hx)).1
    obtain ⟨d, hd⟩ := Option.isSome_iff_exists.1 h1
    obtain ⟨q, hq, e⟩ := List.mem_map.1 (look_some hd)
    injection e with e1 e2
    have := look_num (l := l) hV (hV q hq)
    rw [e1, hd] at this
    exact ⟨q.1, ⟨hV q hq, by rw [← this]; rfl⟩, e1⟩
  obtain ⟨cs, e, hp⟩ := sets_of (l := l) (P := fun s => SetOk l s ∧ (look V s).isSome) _ hfrom
  refine ⟨cs, e, fun s hs => (hp s hs).1, fun s => ⟨fun hs => (hp s hs).2, fun hs => ?_⟩, fun i j hi hj => ?_⟩
  · obtain ⟨d, hd⟩ := Option.isSome_iff_exists.1 hs
    have hso := hV _ (look_some hd)
    have h1 : (look (V.map fun q => (num l q.1, q.2)) (num l s)).isSome = true := by rw [look_num hV hso]; exact hs
    have h2 : num l s ∈ cs.map (num l) := by rw [e, hmem]; exact (hc.2 _).2 ⟨h1, hl _⟩
    obtain ⟨u, hu, eu⟩ := List.mem_map.1 h2
    have := num_inj (hp u hu).1 hso eu
    subst this; exact hu
  · have hst := mergeSort_strict hc.1
    rw [← e, List.pairwise_map] at hst
    exact List.pairwise_iff_getElem.1 hst j i (by omega) hi hj
end Go.Proofs.YtenehghpmnajpaaGreatDoor
