/- A region that draws its order, by an invariant that every ready operation keeps. -/
import Derived.Test.YthpgoldahffbcaaTail
set_option linter.unusedVariables false
set_option linter.unusedSimpArgs false
namespace Go.Proofs.Ythpgoldahffbcaa
open Go.RowKit
section
variable {P : Program} {ops : Array Oper} {md : Region.Mode}
def undone (done : Array Bool) : Nat := done.toList.count false
theorem undone_set {done : Array Bool} {i : Nat} (h : done.getD i true = false) : undone (done.setIfInBounds i true) + 1 = undone done := by
  have hi : i < done.size := by
    rcases Nat.lt_or_ge i done.size with q | q
    · exact q
    · simp [Array.getD, Nat.not_lt.2 q] at h
  have hd : done[i] = false := by simpa [Array.getD, hi] using h
  unfold undone
  rw [Array.toList_setIfInBounds, List.count_set (by simpa using hi)]
  have h1 : done.toList[i]'(by simpa using hi) = false := by simpa using hd
  have h2 : 0 < done.toList.count false := List.count_pos_iff.2 (by rw [← h1]; exact List.getElem_mem _)
  simp only [h1]
  rw [if_pos (by decide), if_neg (by decide)]
  omega
theorem any_of_inv {Q : Exit → Act → World → Prop} {Inv : Array Bool → Act → World → Prop} (hend : ∀ done a w, Region.ready md ops done = [] → Inv done a w → Q .normal a w)
    (step : ∀ done a w i, i ∈ Region.ready md ops done → Inv done a w → wpOp P ops Q i (fun a' w' => Inv (done.setIfInBounds i true) a' w') a w) (fuel : Nat) :
    ∀ done a w, undone done ≤ fuel → Inv done a w → wpAny P md ops Q fuel done a w := by
  induction fuel with
  | zero =>
    intro done a w hu h
    have hr : Region.ready md ops done = [] := by
      rcases hq : Region.ready md ops done with _ | ⟨i, t⟩
      · rfl
      · have hi : i ∈ Region.ready md ops done := by rw [hq]; simp
        have := undone_set (mem_ready.1 hi).1
        omega
    exact ⟨hr, hend _ _ _ hr h⟩
  | succ fuel ih =>
    intro done a w hu h
    refine ⟨fun hr => hend _ _ _ hr h, fun i hi => ?_⟩
    have hc := undone_set (mem_ready.1 hi).1
    exact wpOp_mono (fun a' w' h' => ih _ a' w' (by omega) h') (step done a w i hi h)
theorem wp_region_inv {id : Nat} {Q : Exit → Act → World → Prop} {a : Act} {w : World} (Inv : Array Bool → Act → World → Prop) (hm : P.follows .mixedOrders = true) (h0 : Inv (Array.replicate ops.size false) a w.drew)
    (step : ∀ done a w i, i ∈ Region.ready .any ops done → Inv done a w → wpOp P ops Q i (fun a' w' => Inv (done.setIfInBounds i true) a' w') a w)
    (hend : ∀ done a w, Region.ready .any ops done = [] → Inv done a w → Q .normal a w) : (Code.region id ops true).wp P Q a w :=
  wp_region_any hm (any_of_inv hend step ops.size _ _ _ (by simp [undone]) h0)
end
section
variable {P : Program}
/-- The operations that one waits for. -/
def depIdx (o : Oper) : List Nat := (o.after.toList.filter (Region.binds .any)).map (·.on)
def Deps (done : Array Bool) (o : Oper) : Prop := ∀ j, (depIdx o).contains j = true → done.getD j false = true
theorem deps_of {done : Array Bool} {o : Oper} (h : ∀ e ∈ o.after, Region.binds .any e = true → done.getD e.on false = true) : Deps done o := by
  intro j hj
  simp only [depIdx, List.contains_iff_mem, List.mem_map, List.mem_filter, Array.mem_toList_iff] at hj
  obtain ⟨e, ⟨h1, h2⟩, rfl⟩ := hj
  exact h e h1 h2
/-- Each operation, as soon as those that it waits for are done, keeps the invariant. -/
def StepsI (P : Program) (ops : Array Oper) (Q : Exit → Act → World → Prop) (Inv : Array Bool → Act → World → Prop) : List Oper → Nat → Prop
  | [], _ => True
  | o :: l, i => (∀ done a w, done.size = ops.size → done.getD i true = false → Deps done o → Inv done a w → ∀ K : Act → World → Prop, (∀ a' w', Inv (done.setIfInBounds i true) a' w' → K a' w') → if Region.wanted o (yielded ops a.tmps) = true then Oper.wp P o a w K Q else K (a.put o.dst undef) w) ∧ StepsI P ops Q Inv l (i + 1)
theorem StepsI.at {ops : Array Oper} {Q : Exit → Act → World → Prop} {Inv : Array Bool → Act → World → Prop} : ∀ (l : List Oper) (k : Nat), StepsI P ops Q Inv l k → ∀ i o, l[i]? = some o → ∀ done a w, done.size = ops.size → done.getD (k + i) true = false → Deps done o → Inv done a w → ∀ K : Act → World → Prop, (∀ a' w', Inv (done.setIfInBounds (k + i) true) a' w' → K a' w') → if Region.wanted o (yielded ops a.tmps) = true then Oper.wp P o a w K Q else K (a.put o.dst undef) w
  | [], _, _, i, o, h => by simp at h
  | o' :: l, k, ⟨h0, hs⟩, i, o, h => by
    cases i with
    | zero => simp at h; subst h; exact h0
    | succ i =>
      have := StepsI.at l (k + 1) hs i o (by simpa using h)
      rw [show k + 1 + i = k + (i + 1) by omega] at this
      exact this
/-- Operations wait for earlier ones alone. -/
def earlier : List Oper → Nat → Bool
  | [], _ => true
  | o :: l, i => (depIdx o).all (fun j => Nat.blt j i) && earlier l (i + 1)
theorem earlier_at : ∀ (l : List Oper) (k : Nat), earlier l k = true → ∀ i o, l[i]? = some o → ∀ j ∈ depIdx o, j < k + i
  | [], _, _, i, o, h => by simp at h
  | o' :: l, k, he, i, o, h => by
    simp only [earlier, Bool.and_eq_true, List.all_eq_true] at he
    cases i with
    | zero =>
      simp at h; subst h
      intro j hj
      have := he.1 j hj
      simpa [Nat.blt_eq] using this
    | succ i =>
      intro j hj
      have := earlier_at l (k + 1) he.2 i o (by simpa using h) j hj
      omega
theorem all_done {l : List Oper} {done : Array Bool} (he : earlier l 0 = true) (hs : done.size = l.length) (hr : Region.ready .any l.toArray done = []) : ∀ i, i < l.length → done.getD i false = true := by
  intro i
  induction i using Nat.strongRecOn with
  | ind i ih =>
    intro hi
    have hi' : i < done.size := by omega
    cases hd : done[i] with
    | true => simp [Array.getD, hi', hd]
    | false =>
      exfalso
      have : i ∈ Region.ready .any l.toArray done := by
        refine mem_ready.2 ⟨by simp [Array.getD, hi', hd], l[i], by simp [hi], fun e h1 h2 => ?_⟩
        have hm : e.on ∈ depIdx l[i] := by
          simp only [depIdx, List.mem_map, List.mem_filter, Array.mem_toList_iff]
          exact ⟨e, ⟨h1, h2⟩, rfl⟩
        have := earlier_at l 0 he i l[i] (by simp [hi]) e.on hm
        exact ih e.on (by omega) (by omega)
      rw [hr] at this
      simp at this
theorem wp_region_steps {id : Nat} {l : List Oper} {Q : Exit → Act → World → Prop} {a : Act} {w : World} (Inv : Array Bool → Act → World → Prop) (hm : P.follows .mixedOrders = true) (he : earlier l 0 = true) (h0 : Inv (Array.replicate l.length false) a w.drew)
    (step : StepsI P l.toArray Q Inv l 0) (hend : ∀ done a w, (∀ i, i < l.length → done.getD i false = true) → Inv done a w → Q .normal a w) : (Code.region id l.toArray true).wp P Q a w := by
  refine wp_region_inv (fun done a w => done.size = l.length ∧ Inv done a w) hm ⟨by simp, by simpa using h0⟩ (fun done a w i hi ⟨hs, h⟩ => ?_) (fun done a w hr ⟨hs, h⟩ => hend done a w (all_done he hs hr) h)
  obtain ⟨h1, o, h2, h3⟩ := mem_ready.1 hi
  refine wpOp_step h2 fun K hK => ?_
  have := StepsI.at l 0 step i o (by simpa using h2) done a w (by simpa using hs) (by simpa using h1) (deps_of h3) h K (fun a' w' q => hK a' w' ⟨by simpa using hs, by simpa using q⟩)
  exact this
theorem getD_set_same {done : Array Bool} {i : Nat} (h : i < done.size) : (done.setIfInBounds i true).getD i false = true := by simp [Array.getD, h]
theorem done_old {done : Array Bool} {i j : Nat} (hj : (done.setIfInBounds i true).getD j false = true) (h : i ≠ j) : done.getD j false = true := by
  rw [getD_set_ne false h] at hj; exact hj
end
end Go.Proofs.Ythpgoldahffbcaa
